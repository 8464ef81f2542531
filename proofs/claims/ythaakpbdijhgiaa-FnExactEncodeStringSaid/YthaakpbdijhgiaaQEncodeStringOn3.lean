/-
  sync.Once.Do at its first call. Conditions: the once stands at its block's beginning, not done, the lock free.
-/
import Derived.Test.YthaakpbdijhgiaaQEncodeStringOn2
set_option linter.unusedVariables false
namespace Go.Proofs.Ythaakpbdijhgiaa

set_option maxRecDepth 100000 in
set_option maxHeartbeats 1600000 in
theorem do_raw (b : Nat) (recv : Value) (w : World) (Post : World → Prop) (h0 : w.cell? ⟨b, 0, none⟩ = some (.int .u32 0)) (h1 : w.cell? ⟨b, 1, none⟩ = some (.int .i32 0)) (f0 : w.frozen? ⟨b, 0, none⟩ = false) (f1 : w.frozen? ⟨b, 1, none⟩ = false)
    (hf : Calls Try.prog 14 #[recv] (w.setCell ⟨b, 1, none⟩ (.int .i32 1)) fun e w' => e = .returned (.tuple #[]) ∧ Post w')
    (hp : ∀ w', Post w' → w'.cell? ⟨b, 0, none⟩ = some (.int .u32 0) ∧ w'.cell? ⟨b, 1, none⟩ = some (.int .i32 1) ∧ w'.frozen? ⟨b, 0, none⟩ = false ∧ w'.frozen? ⟨b, 1, none⟩ = false) :
    Calls Try.prog 13 #[.pointer (some ⟨b, 0, none⟩), .func (.func 14) #[recv] #[]] w fun e w' => e = .returned (.tuple #[]) ∧ ∃ w2, Post w2 ∧ w' = (w2.drew.setCell ⟨b, 0, none⟩ (.int .u32 1)).setCell ⟨b, 1, none⟩ (.int .i32 0) := by
  have hnot : ∀ (x : Bool) (w : World), (Op.unary .not (.bool x)).run Try.prog w = .ok (.bool (!x)) w := fun _ _ => rfl
  go_enter Try.func13, Try.ntmps13
  go_wp2_with (first
    | (go_at_call 15; refine (load_flag ⟨b, 0, none⟩ 0 _ h0).mono ?_; rintro e w' ⟨rfl, rfl⟩)
    | (go_at_call 16; refine (slow_raw b recv _ Post h0 h1 f0 f1 hf hp).mono ?_; rintro e w' ⟨rfl, w2, hw2, rfl⟩))
  go_end0
  exact ⟨rfl, w2, hw2, rfl⟩

end Go.Proofs.Ythaakpbdijhgiaa
