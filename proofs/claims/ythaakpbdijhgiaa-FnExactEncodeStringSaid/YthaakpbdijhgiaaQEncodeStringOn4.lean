/-
  strings.Replacer.Replace at its first call, out of what its parts do. Conditions: the replacer is as NewReplacer makes it.
-/
import Derived.Test.YthaakpbdijhgiaaQEncodeStringOn3
set_option linter.unusedVariables false
namespace Go.Proofs.Ythaakpbdijhgiaa

set_option maxRecDepth 100000 in
theorem method_bsr (recv : Value) (w : World) : (Go.method (Try.prog.types.size + Made.depth) 66 recv "Replace").run Try.prog w = .ok (79, recv) w := by kernel_rfl

theorem call_bsr (v : Value) (s : ByteArray) (w : World) : (callMethod (.iface 66 v) "Replace" #[.string s]).run Try.prog w = .ok (.enter 79 #[v, .string s]) w := by
  have hm := method_bsr v w
  have he : (callFunc 79 #[v, .string s]).run Try.prog w = .ok (.enter 79 #[v, .string s]) w := by kernel_rfl
  unfold callMethod
  simp only [Sem.run_bind, run_program, Result.andThen_ok, hm]
  exact he

set_option maxRecDepth 100000 in
set_option maxHeartbeats 1600000 in
theorem replace_raw (b : Nat) (s q : ByteArray) (w : World) (Post Fin : World → Prop) (h0 : w.cell? ⟨b, 0, none⟩ = some (.int .u32 0)) (h1 : w.cell? ⟨b, 1, none⟩ = some (.int .i32 0)) (f0 : w.frozen? ⟨b, 0, none⟩ = false) (f1 : w.frozen? ⟨b, 1, none⟩ = false)
    (hf : Calls Try.prog 14 #[.pointer (some ⟨b, 0, none⟩)] (w.setCell ⟨b, 1, none⟩ (.int .i32 1)) fun e w' => e = .returned (.tuple #[]) ∧ Post w')
    (hp : ∀ w', Post w' → w'.cell? ⟨b, 0, none⟩ = some (.int .u32 0) ∧ w'.cell? ⟨b, 1, none⟩ = some (.int .i32 1) ∧ w'.frozen? ⟨b, 0, none⟩ = false ∧ w'.frozen? ⟨b, 1, none⟩ = false)
    (hr : ∀ w2, Post w2 → ∃ c : Nat, ((w2.drew.setCell ⟨b, 0, none⟩ (.int .u32 1)).setCell ⟨b, 1, none⟩ (.int .i32 0)).cell? ⟨b, 3, none⟩ = some (.iface 66 (.pointer (some ⟨c, 0, none⟩))) ∧
      Calls Try.prog 79 #[.pointer (some ⟨c, 0, none⟩), .string s] ((w2.drew.setCell ⟨b, 0, none⟩ (.int .u32 1)).setCell ⟨b, 1, none⟩ (.int .i32 0)) fun e w' => e = .returned (.string q) ∧ Fin w') :
    Calls Try.prog 12 #[.pointer (some ⟨b, 0, none⟩), .string s] w fun e w' => e = .returned (.string q) ∧ Fin w' := by
  have hmf : ∀ (fn : Fn) (first cap : Array Value) (w : World), (Instr.makeFunc fn first cap).run Try.prog w = .ok (.func fn first cap) w := fun _ _ _ _ => rfl
  have hcb := call_bsr
  go_enter Try.func12, Try.ntmps12
  go_wp2_with (first
    | (go_at_call 13; refine (do_raw b _ _ Post h0 h1 f0 f1 hf hp).mono ?_; rintro e w' ⟨rfl, w2, hw2, rfl⟩; obtain ⟨c, hc, hcall⟩ := hr _ hw2)
    | (go_at_call 79; refine hcall.mono ?_; rintro e w' ⟨rfl, hw⟩))
  go_ret
  exact ⟨rfl, hw⟩

end Go.Proofs.Ythaakpbdijhgiaa
