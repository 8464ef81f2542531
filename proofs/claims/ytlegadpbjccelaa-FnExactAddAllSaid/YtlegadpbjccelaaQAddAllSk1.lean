/-
  Texts of this claim in one. Conditions: none.
-/
import Derived.Test.YtlegadpbjccelaaQAddAllG11
import Derived.Test.YtlegadpbjccelaaQAddAllV6
import Derived.Test.YtlegadpbjccelaaQAddAllMp3
import Derived.Test.YtlegadpbjccelaaQAddAllG16
import Derived.Test.YtlegadpbjccelaaQAddAllPgE
section
set_option linter.unusedVariables false
set_option linter.unusedSimpArgs false
set_option maxRecDepth 100000
namespace Go.Proofs.Ytlegadpbjccelaa
open Go.RowKit

/-- The first fault of values; the values. -/
def firstV : List (List Cell) → Int
  | [] => 0
  | x :: r => if (valOfM x).2 ≠ 0 then (valOfM x).2 else firstV r
noncomputable def valsV (xs : List (List Cell)) : List V := xs.map fun x => (valOfM x).1
end Go.Proofs.Ytlegadpbjccelaa
end

section
set_option linter.unusedVariables false
set_option linter.unusedSimpArgs false
set_option maxRecDepth 100000
namespace Go.Proofs.Ytlegadpbjccelaa
open Go.RowKit

/-! ### texts that are no texts of the language -/

/-! ### the reference's object -/

theorem insX_map {α β : Type} (f : α → β) (key : ByteArray) (x : α) (ks : List ByteArray) (xs : List α) : insX key (f x) ks (xs.map f) = (insX key x ks xs).map f := by
  unfold insX
  split <;> simp [List.map_set]

theorem objX_map (keys : List ByteArray) (vs : List V) (hl : keys.length = vs.length) : ∀ i, i ≤ keys.length → objX keys (vs.map V.cells) i = (objX keys vs i).map V.cells
  | 0, _ => rfl
  | i + 1, hi => by
    rw [objX, objX, objX_map keys vs hl i (by omega), ← insX_map]
    congr 1
    simp [show i < vs.length by omega]

theorem objX_mem (keys : List ByteArray) (vs : List V) (hl : keys.length = vs.length) : ∀ i, i ≤ keys.length → ∀ v ∈ objX keys vs i, v ∈ vs
  | 0, _, v, h => by simp [objX] at h
  | i + 1, hi, v, h => by
    rw [objX] at h
    rcases insX_mem _ _ _ _ v h with rfl | h
    · exact getD_mem' (by omega)
    · exact objX_mem keys vs hl i (by omega) v h

/-! ### both sides -/

def badKs (ks : List ByteArray) : Bool := ks.any fun k => !okText k
def objS (ks : List ByteArray) (vs : List V) : V := objV (objK ks ks.length) (objX ks vs ks.length)

theorem objS_good {ks : List ByteArray} {vs : List V} (hl : ks.length = vs.length) (hk : badKs ks = false) (hv : ∀ v ∈ vs, v.fine) : (objS ks vs).good :=
  objV_good (objX_length ks vs _) (fun k hk' => by
    have h := objK_sub ks _ (Nat.le_refl _) k hk'
    unfold badKs at hk
    rw [List.any_eq_false] at hk
    simpa using hk k h) (objK_incr' ks _) (V.goods_of fun w hw => (hv w (objX_mem ks vs hl _ (Nat.le_refl _) w hw)).1)

theorem counts_le {l : List V} (h : ∀ v ∈ l, v.fine) : V.counts l ≤ 200 * l.length := by
  induction l with
  | nil => simp [V.counts]
  | cons a r ih =>
    have h1 := (h a (List.mem_cons_self ..)).2.1
    have h2 := ih fun v hv => h v (List.mem_cons_of_mem _ hv)
    simp only [V.counts, List.length_cons]
    omega

noncomputable def obC (ks : List ByteArray) (xs : List (List Cell)) : Int := if 200 < xs.length ∨ ks.length ≠ xs.length then 2 else if badKs ks = true then 5 else if firstV xs ≠ 0 then firstV xs else faultV (objS ks (valsV xs))
end Go.Proofs.Ytlegadpbjccelaa
end

section
set_option linter.unusedVariables false
set_option linter.unusedSimpArgs false
set_option maxRecDepth 100000
namespace Go.Proofs.Ytlegadpbjccelaa
open Go.RowKit

theorem OpS1.pub {P : Program} {N : Nm} {tm : Nat → T} {ob ob' : List Ob} {ops : List Oper} {o : Oper} {t : T} {e : TypeId} {z n : Nat} {rows : List (List D)} (k : Nat) (hk : ob[k]? = some (.gr z e rows n false))
    (h : OpS1 P N ops o tm t (ob.set k (.gr z e rows n true)) ob') : OpS1 P N ops o tm t ob ob' := fun tm' hag l Q k' => WL.pub (S := ⟨tm', ob⟩) k hk (h tm' hag l Q k')

end Go.Proofs.Ytlegadpbjccelaa
end
