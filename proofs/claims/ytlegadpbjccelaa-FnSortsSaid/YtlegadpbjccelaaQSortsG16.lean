/-
  Texts of this claim in one. Conditions: none.
-/
import Derived.Maps.Range
import Derived.Maps.Views
import Derived.Test.YtlegadpbjccelaaQSortsPgE
import Derived.Test.YtlegadpbjccelaaQSortsG6
section
set_option linter.unusedVariables false
set_option linter.unusedSimpArgs false
namespace Go.Proofs.Ytlegadpbjccelaa
open Go.RowKit

abbrev DV := DataW Value

abbrev keyL (x : ByteArray) : Lit := .string x.data.toList

theorem keyL_inj {x y : ByteArray} (h : keyL x = keyL y) : x = y := by
  injection h with h
  cases x; cases y
  simp only [ByteArray.mk.injEq]
  exact Array.toList_inj.1 h

/-- What a map reads as, and what it is in the walk's own words. -/
def mapR (σ : Sto) (DD : DV) (m : ByteArray → Option D) : Prop :=
  ∀ x : ByteArray, x.size ≤ maxLen → match m x with
    | none => Maps.has DD (keyL x) = false
    | some d => Maps.has DD (keyL x) = true ∧ ∃ u, (∀ zd, DD.atKey (keyL x) zd = .held u) ∧ RD σ d u

theorem mapR.mono {σ σ' : Sto} (hs : ∀ b o u, σ b o = some u → σ' b o = some u) {DD : DV} {m : ByteArray → Option D} (h : mapR σ DD m) : mapR σ' DD m := fun x hx => by
  have := h x hx
  split
  · rename_i e; rw [e] at this; exact this
  · rename_i d e
    rw [e] at this
    obtain ⟨h1, u, h2, h3⟩ := this
    exact ⟨h1, u, h2, h3.mono hs⟩

theorem mapR.empty (σ : Sto) : mapR σ (.map []) (fun _ => none) := fun x hx => rfl

theorem mapR.put {σ : Sto} {DD : DV} {m : ByteArray → Option D} (h : mapR σ DD m) (hm : Maps.IsMap DD) {s : ByteArray} {d : D} {u : Value} (hu : RD σ d u) : mapR σ (DD.put (keyL s) (.held u)) (fun x => if x = s then some d else m x) := fun x hx => by
  by_cases e : x = s
  · subst e
    simp only [if_true]
    exact ⟨Maps.has_put_same hm (show WideAt.IsKeyLit (.string _) from trivial) _, u, fun zd => Maps.atKey_put_same hm (show WideAt.IsKeyLit (.string _) from trivial) _ _, hu⟩
  · simp only [if_neg e]
    have hne : keyL x ≠ keyL s := fun h => e (keyL_inj h)
    have := h x hx
    rw [Maps.has_put_other hne]
    split
    · rename_i e1; rw [e1] at this; exact this
    · rename_i d1 e1
      rw [e1] at this
      obtain ⟨h1, u1, h2, h3⟩ := this
      exact ⟨h1, u1, fun zd => by rw [Maps.atKey_put_other hne]; exact h2 zd, h3⟩

section
variable {E : Env} {N : Nm} {Q : Exit → St → Prop} {S : St} {ops l : List Oper} {ty : TypeId} {pos : String} {after : Array Edge} {gd : Option (Nat × Bool)} {d : Nat}

end
section
variable {E : Env} {G : List Nat} {N : Nm} {Q : Exit → St → Prop} {tm : Nat → T} {ob : List Ob} {ops l : List Oper} {ty : TypeId} {pos : String} {after : Array Edge} {gd : Option (Nat × Bool)} {d : Nat}

end

end Go.Proofs.Ytlegadpbjccelaa
end

section
set_option linter.unusedVariables false
set_option linter.unusedSimpArgs false
set_option maxRecDepth 100000
namespace Go.Proofs.Ytlegadpbjccelaa
open Go.RowKit

/-- A value of a slice of values, in a drawn region with effects. -/
theorem WE.ixP' {N : Nm} {K : (Nat → T) → Prop} {tm : Nat → T} {ops l : List Oper} {ty : TypeId} {pos : String} {after : Array Edge} {gd : Option (Nat × Bool)} {d w : Nat} {ps : List (Nat × List Nat)} {p : List Nat} {obF : Nat → List Ob} {xs : List V} {t : TypeId} {x ix : Operand} {i : Int}
    (k : WE env.P N ops obF K ps l (upd tm d (.ea (V.rowP (xs.getD i.toNat default)) 0)))
    (h : AllF p (fun g => OpS1 env.P N ops ⟨some d, .indexAddr t x ix, ty, pos, after, gd⟩ tm (.ea (V.rowP (xs.getD i.toNat default)) 0) (obF g) (obF (g + w))) := by first | exact .n | (refine .c (OpS1.ixm (E := env) (f := V.row) (by exact rfl) (by exact rfl) (by exact rfl) (by exact rfl) (by exact rfl) (by exact rfl) (by exact rfl) (by exact V.row_eq) (by first | exact trivial | (simp only [inRange, List.length_map, List.length_set]; omega) | omega | assumption)) ?_; first | exact .n | (refine .c (OpS1.ixm (E := env) (f := V.row) (by exact rfl) (by exact rfl) (by exact rfl) (by exact rfl) (by exact rfl) (by exact rfl) (by exact rfl) (by exact V.row_eq) (by first | exact trivial | (simp only [inRange, List.length_map, List.length_set]; omega) | omega | assumption)) ?_; first | exact .n | (refine .c (OpS1.ixm (E := env) (f := V.row) (by exact rfl) (by exact rfl) (by exact rfl) (by exact rfl) (by exact rfl) (by exact rfl) (by exact rfl) (by exact V.row_eq) (by first | exact trivial | (simp only [inRange, List.length_map, List.length_set]; omega) | omega | assumption)) ?_; first | exact .n | (refine .c (OpS1.ixm (E := env) (f := V.row) (by exact rfl) (by exact rfl) (by exact rfl) (by exact rfl) (by exact rfl) (by exact rfl) (by exact rfl) (by exact V.row_eq) (by first | exact trivial | (simp only [inRange, List.length_map, List.length_set]; omega) | omega | assumption)) ?_; first | exact .n | (refine .c (OpS1.ixm (E := env) (f := V.row) (by exact rfl) (by exact rfl) (by exact rfl) (by exact rfl) (by exact rfl) (by exact rfl) (by exact rfl) (by exact V.row_eq) (by first | exact trivial | (simp only [inRange, List.length_map, List.length_set]; omega) | omega | assumption)) ?_; first | exact .n | (refine .c (OpS1.ixm (E := env) (f := V.row) (by exact rfl) (by exact rfl) (by exact rfl) (by exact rfl) (by exact rfl) (by exact rfl) (by exact rfl) (by exact V.row_eq) (by first | exact trivial | (simp only [inRange, List.length_map, List.length_set]; omega) | omega | assumption)) ?_; first | exact .n | (refine .c (OpS1.ixm (E := env) (f := V.row) (by exact rfl) (by exact rfl) (by exact rfl) (by exact rfl) (by exact rfl) (by exact rfl) (by exact rfl) (by exact V.row_eq) (by first | exact trivial | (simp only [inRange, List.length_map, List.length_set]; omega) | omega | assumption)) ?_; first | exact .n | (refine .c (OpS1.ixm (E := env) (f := V.row) (by exact rfl) (by exact rfl) (by exact rfl) (by exact rfl) (by exact rfl) (by exact rfl) (by exact rfl) (by exact V.row_eq) (by first | exact trivial | (simp only [inRange, List.length_map, List.length_set]; omega) | omega | assumption)) ?_; exact .n))))))))) :
    WE env.P N ops obF K ((w, p) :: ps) (⟨some d, .indexAddr t x ix, ty, pos, after, gd⟩ :: l) tm :=
  .mk _ h k

/-! ### keys in order -/

def objV (ks : List ByteArray) (vs : List V) : V := .mk 6 0 noS ks vs
end Go.Proofs.Ytlegadpbjccelaa
end
