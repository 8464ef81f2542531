/-
  sync.Once at its first call, of whatever method value. Conditions: the once stands at its block's beginning, not done, the lock free.
-/
import Derived.Test.YthaakpbdijhgiaaQEncodeStringOn1
set_option linter.unusedVariables false
namespace Go.Proofs.Ythaakpbdijhgiaa

/-- The flag, looked at. -/
theorem load_flag (a : Addr) (d : Int) (w : World) (h0 : w.cell? a = some (.int .u32 d)) :
    Calls Try.prog 15 #[.pointer (some a)] w fun e w' => e = .returned (.bool (d != 0)) ∧ w' = w := by
  have hl := run_call_load (P := Try.prog) Try.func18 (by kernel_rfl) (by kernel_rfl) (by kernel_rfl) .u32 (by kernel_rfl) h0
  go_enter Try.func15, Try.ntmps15
  go_wp2
  go_ret
  exact ⟨rfl, rfl⟩

set_option maxRecDepth 100000 in
set_option maxHeartbeats 1600000 in
theorem slow_raw (b : Nat) (recv : Value) (w : World) (Post : World → Prop) (h0 : w.cell? ⟨b, 0, none⟩ = some (.int .u32 0)) (h1 : w.cell? ⟨b, 1, none⟩ = some (.int .i32 0)) (f0 : w.frozen? ⟨b, 0, none⟩ = false) (f1 : w.frozen? ⟨b, 1, none⟩ = false)
    (hf : Calls Try.prog 14 #[recv] (w.setCell ⟨b, 1, none⟩ (.int .i32 1)) fun e w' => e = .returned (.tuple #[]) ∧ Post w')
    (hp : ∀ w', Post w' → w'.cell? ⟨b, 0, none⟩ = some (.int .u32 0) ∧ w'.cell? ⟨b, 1, none⟩ = some (.int .i32 1) ∧ w'.frozen? ⟨b, 0, none⟩ = false ∧ w'.frozen? ⟨b, 1, none⟩ = false) :
    Calls Try.prog 16 #[.pointer (some ⟨b, 0, none⟩), .func (.func 14) #[recv] #[]] w fun e w' => e = .returned (.tuple #[]) ∧ ∃ w2, Post w2 ∧ w' = (w2.drew.setCell ⟨b, 0, none⟩ (.int .u32 1)).setCell ⟨b, 1, none⟩ (.int .i32 0) := by
  have h01 : (w.setCell ⟨b, 1, none⟩ (.int .i32 1)).cell? ⟨b, 0, none⟩ = some (.int .u32 0) := (World.cell?_setCell_other _ ⟨b, 1, none⟩ ⟨b, 0, none⟩ _ (by simp)).trans h0
  have hnot : ∀ (x : Bool) (w : World), (Op.unary .not (.bool x)).run Try.prog w = .ok (.bool (!x)) w := fun _ _ => rfl
  go_enter_defers Try.func16, Try.ntmps16
  go_wp2_with (first
    | (go_at_call 19; refine (lock_free ⟨b, 1, none⟩ _ h1 f1).mono ?_; rintro e w' ⟨rfl, rfl⟩)
    | (go_at_call 15; refine (load_flag ⟨b, 0, none⟩ 0 _ h01).mono ?_; rintro e w' ⟨rfl, rfl⟩)
    | (go_at_call 14; refine hf.mono ?_; rintro e w' ⟨rfl, hw⟩; obtain ⟨p0, p1, p2, p3⟩ := hp _ hw))
  refine leaves_cons (f := 21) (args := #[.pointer (some ⟨b, 0, none⟩), .bool true]) (by simp) (by simp [go_sem]) ?_
  refine (store_deferred ⟨b, 0, none⟩ (.int .u32 0) .returning _ p0 p2).mono ?_
  rintro e u' w'' ⟨rfl, rfl, rfl⟩
  refine leaves_cons (f := 20) (args := #[.pointer (some ⟨b, 1, none⟩)]) (by simp [settle]) (by simp [go_sem]) ?_
  refine (unlock_deferred ⟨b, 1, none⟩ _ _ ?_ (by simp [p3])).mono ?_
  · exact (World.cell?_setCell_other _ ⟨b, 0, none⟩ ⟨b, 1, none⟩ _ (by simp)).trans p1
  rintro e u' w'' ⟨rfl, rfl, rfl⟩
  simp [Leaves, settle, results, Try.results16]
  exact ⟨_, hw, rfl⟩

end Go.Proofs.Ythaakpbdijhgiaa
