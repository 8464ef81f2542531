/-
  Texts of this claim in one. Conditions: none.
-/
import Derived.Test.YtlegadpbjccelaaQPartsCm3
import Derived.Test.YtlegadpbjccelaaQPartsPgE
section
set_option linter.unusedVariables false
set_option linter.unusedSimpArgs false
set_option maxRecDepth 100000
namespace Go.Proofs.Ytlegadpbjccelaa
open Go.RowKit

theorem V.fine_fault {v : V} (h : v.fine) : faultV v = 0 := by
  obtain ⟨h1, h2, h3⟩ := h
  rw [faultV, if_neg (by omega), if_neg (by omega)]

/-- What an operation's result is as data. -/
abbrev resD (c : Int) (cs : List Cell) : D := .agg [dI c, cellsD cs]

end Go.Proofs.Ytlegadpbjccelaa
end

section
set_option linter.unusedVariables false
set_option linter.unusedSimpArgs false
set_option maxRecDepth 100000
namespace Go.Proofs.Ytlegadpbjccelaa
open Go.RowKit

theorem V.obj_keys {v : V} (h : v.good) (hk : v.kind = 6) : v.keys.length = v.kids.length ∧ incr v.keys := by
  obtain ⟨k, n, t, ks, kids⟩ := v
  exact ⟨h.2.2.2.2.2.2.1 hk, h.2.2.2.2.2.2.2.2.2.1⟩

end Go.Proofs.Ytlegadpbjccelaa
end

section
set_option linter.unusedVariables false
set_option linter.unusedSimpArgs false
set_option maxRecDepth 100000
namespace Go.Proofs.Ytlegadpbjccelaa
open Go.RowKit

/-- A value of a slice of values, in a drawn region with effects. -/
theorem WE.ixP' {N : Nm} {K : (Nat → T) → Prop} {tm : Nat → T} {ops l : List Oper} {ty : TypeId} {pos : String} {after : Array Edge} {gd : Option (Nat × Bool)} {d w : Nat} {ps : List (Nat × List Nat)} {p : List Nat} {obF : Nat → List Ob} {xs : List V} {t : TypeId} {x ix : Operand} {i : Int}
    (k : WE env.P N ops obF K ps l (upd tm d (.ea (V.rowP (xs.getD i.toNat default)) 0)))
    (h : AllF p (fun g => OpS1 env.P N ops ⟨some d, .indexAddr t x ix, ty, pos, after, gd⟩ tm (.ea (V.rowP (xs.getD i.toNat default)) 0) (obF g) (obF (g + w))) := by first | exact .n | (refine .c (OpS1.ixm (E := env) (f := V.row) (by exact rfl) (by exact rfl) (by exact rfl) (by exact rfl) (by exact rfl) (by exact rfl) (by exact rfl) (by exact V.row_eq) (by first | exact trivial | (simp only [inRange, List.length_map, List.length_set]; omega) | omega | assumption)) ?_; first | exact .n | (refine .c (OpS1.ixm (E := env) (f := V.row) (by exact rfl) (by exact rfl) (by exact rfl) (by exact rfl) (by exact rfl) (by exact rfl) (by exact rfl) (by exact V.row_eq) (by first | exact trivial | (simp only [inRange, List.length_map, List.length_set]; omega) | omega | assumption)) ?_; first | exact .n | (refine .c (OpS1.ixm (E := env) (f := V.row) (by exact rfl) (by exact rfl) (by exact rfl) (by exact rfl) (by exact rfl) (by exact rfl) (by exact rfl) (by exact V.row_eq) (by first | exact trivial | (simp only [inRange, List.length_map, List.length_set]; omega) | omega | assumption)) ?_; first | exact .n | (refine .c (OpS1.ixm (E := env) (f := V.row) (by exact rfl) (by exact rfl) (by exact rfl) (by exact rfl) (by exact rfl) (by exact rfl) (by exact rfl) (by exact V.row_eq) (by first | exact trivial | (simp only [inRange, List.length_map, List.length_set]; omega) | omega | assumption)) ?_; first | exact .n | (refine .c (OpS1.ixm (E := env) (f := V.row) (by exact rfl) (by exact rfl) (by exact rfl) (by exact rfl) (by exact rfl) (by exact rfl) (by exact rfl) (by exact V.row_eq) (by first | exact trivial | (simp only [inRange, List.length_map, List.length_set]; omega) | omega | assumption)) ?_; first | exact .n | (refine .c (OpS1.ixm (E := env) (f := V.row) (by exact rfl) (by exact rfl) (by exact rfl) (by exact rfl) (by exact rfl) (by exact rfl) (by exact rfl) (by exact V.row_eq) (by first | exact trivial | (simp only [inRange, List.length_map, List.length_set]; omega) | omega | assumption)) ?_; first | exact .n | (refine .c (OpS1.ixm (E := env) (f := V.row) (by exact rfl) (by exact rfl) (by exact rfl) (by exact rfl) (by exact rfl) (by exact rfl) (by exact rfl) (by exact V.row_eq) (by first | exact trivial | (simp only [inRange, List.length_map, List.length_set]; omega) | omega | assumption)) ?_; first | exact .n | (refine .c (OpS1.ixm (E := env) (f := V.row) (by exact rfl) (by exact rfl) (by exact rfl) (by exact rfl) (by exact rfl) (by exact rfl) (by exact rfl) (by exact V.row_eq) (by first | exact trivial | (simp only [inRange, List.length_map, List.length_set]; omega) | omega | assumption)) ?_; exact .n))))))))) :
    WE env.P N ops obF K ((w, p) :: ps) (⟨some d, .indexAddr t x ix, ty, pos, after, gd⟩ :: l) tm :=
  .mk _ h k

/-! ### keys in order -/

def objV (ks : List ByteArray) (vs : List V) : V := .mk 6 0 noS ks vs
theorem objV_good {ks : List ByteArray} {vs : List V} (hl : ks.length = vs.length) (hk : ∀ k ∈ ks, okText k = true) (hi : incr ks) (hg : V.goods vs) : (objV ks vs).good :=
  ⟨by decide, fun h => absurd rfl h, fun h => absurd rfl h, fun _ => .inr rfl, by decide, okText_no, fun _ => hl, fun h => absurd rfl h, hk, hi, hg⟩

end Go.Proofs.Ytlegadpbjccelaa
end
