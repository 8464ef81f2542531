/-
  Texts of this claim in one. Conditions: none.
-/
import Derived.Test.YthaakpbdijhgiaaGreatDoorQTokensOn2
section
set_option linter.unusedVariables false
namespace Go.Proofs.YthaakpbdijhgiaaGreatDoor

set_option maxRecDepth 100000 in
set_option maxHeartbeats 1600000 in
theorem do_raw (b : Nat) (recv : Value) (w : World) (Post : World → Prop) (h0 : w.cell? ⟨b, 0, none⟩ = some (.int .u32 0)) (h1 : w.cell? ⟨b, 1, none⟩ = some (.int .i32 0)) (f0 : w.frozen? ⟨b, 0, none⟩ = false) (f1 : w.frozen? ⟨b, 1, none⟩ = false)
    (hf : Calls Tryz.prog 68 #[recv] (w.setCell ⟨b, 1, none⟩ (.int .i32 1)) fun e w' => e = .returned (.tuple #[]) ∧ Post w')
    (hp : ∀ w', Post w' → w'.cell? ⟨b, 0, none⟩ = some (.int .u32 0) ∧ w'.cell? ⟨b, 1, none⟩ = some (.int .i32 1) ∧ w'.frozen? ⟨b, 0, none⟩ = false ∧ w'.frozen? ⟨b, 1, none⟩ = false) :
    Calls Tryz.prog 67 #[.pointer (some ⟨b, 0, none⟩), .func (.func 68) #[recv] #[]] w fun e w' => e = .returned (.tuple #[]) ∧ ∃ w2, Post w2 ∧ w' = (w2.drew.setCell ⟨b, 0, none⟩ (.int .u32 1)).setCell ⟨b, 1, none⟩ (.int .i32 0) := by
  have hnot : ∀ (x : Bool) (w : World), (Op.unary .not (.bool x)).run Tryz.prog w = .ok (.bool (!x)) w := fun _ _ => rfl
  go_enter Tryz.func67, Tryz.ntmps67
  go_wp2_with (first
    | (go_at_call 83; refine (load_flag ⟨b, 0, none⟩ 0 _ h0).mono ?_; rintro e w' ⟨rfl, rfl⟩)
    | (go_at_call 84; refine (slow_raw b recv _ Post h0 h1 f0 f1 hf hp).mono ?_; rintro e w' ⟨rfl, w2, hw2, rfl⟩))
  go_end0
  exact ⟨rfl, w2, hw2, rfl⟩

end Go.Proofs.YthaakpbdijhgiaaGreatDoor
end

section
set_option linter.unusedVariables false
namespace Go.Proofs.YthaakpbdijhgiaaGreatDoor

set_option maxRecDepth 100000 in
theorem method_bsr (recv : Value) (w : World) : (Go.method (Tryz.prog.types.size + Made.depth) 145 recv "Replace").run Tryz.prog w = .ok (158, recv) w := by kernel_rfl

theorem call_bsr (v : Value) (s : ByteArray) (w : World) : (callMethod (.iface 145 v) "Replace" #[.string s]).run Tryz.prog w = .ok (.enter 158 #[v, .string s]) w := by
  have hm := method_bsr v w
  have he : (callFunc 158 #[v, .string s]).run Tryz.prog w = .ok (.enter 158 #[v, .string s]) w := by kernel_rfl
  unfold callMethod
  simp only [Sem.run_bind, run_program, Result.andThen_ok, hm]
  exact he

set_option maxRecDepth 100000 in
set_option maxHeartbeats 1600000 in
theorem replace_raw (b : Nat) (s q : ByteArray) (w : World) (Post Fin : World → Prop) (h0 : w.cell? ⟨b, 0, none⟩ = some (.int .u32 0)) (h1 : w.cell? ⟨b, 1, none⟩ = some (.int .i32 0)) (f0 : w.frozen? ⟨b, 0, none⟩ = false) (f1 : w.frozen? ⟨b, 1, none⟩ = false)
    (hf : Calls Tryz.prog 68 #[.pointer (some ⟨b, 0, none⟩)] (w.setCell ⟨b, 1, none⟩ (.int .i32 1)) fun e w' => e = .returned (.tuple #[]) ∧ Post w')
    (hp : ∀ w', Post w' → w'.cell? ⟨b, 0, none⟩ = some (.int .u32 0) ∧ w'.cell? ⟨b, 1, none⟩ = some (.int .i32 1) ∧ w'.frozen? ⟨b, 0, none⟩ = false ∧ w'.frozen? ⟨b, 1, none⟩ = false)
    (hr : ∀ w2, Post w2 → ∃ c : Nat, ((w2.drew.setCell ⟨b, 0, none⟩ (.int .u32 1)).setCell ⟨b, 1, none⟩ (.int .i32 0)).cell? ⟨b, 3, none⟩ = some (.iface 145 (.pointer (some ⟨c, 0, none⟩))) ∧
      Calls Tryz.prog 158 #[.pointer (some ⟨c, 0, none⟩), .string s] ((w2.drew.setCell ⟨b, 0, none⟩ (.int .u32 1)).setCell ⟨b, 1, none⟩ (.int .i32 0)) fun e w' => e = .returned (.string q) ∧ Fin w') :
    Calls Tryz.prog 45 #[.pointer (some ⟨b, 0, none⟩), .string s] w fun e w' => e = .returned (.string q) ∧ Fin w' := by
  have hmf : ∀ (fn : Fn) (first cap : Array Value) (w : World), (Instr.makeFunc fn first cap).run Tryz.prog w = .ok (.func fn first cap) w := fun _ _ _ _ => rfl
  have hcb := call_bsr
  go_enter Tryz.func45, Tryz.ntmps45
  go_wp2_with (first
    | (go_at_call 67; refine (do_raw b _ _ Post h0 h1 f0 f1 hf hp).mono ?_; rintro e w' ⟨rfl, w2, hw2, rfl⟩; obtain ⟨c, hc, hcall⟩ := hr _ hw2)
    | (go_at_call 158; refine hcall.mono ?_; rintro e w' ⟨rfl, hw⟩))
  go_ret
  exact ⟨rfl, hw⟩

end Go.Proofs.YthaakpbdijhgiaaGreatDoor
end
