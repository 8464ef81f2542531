/-
  A slice that is published reads as data in the variables that hold it, too. Conditions: none.
-/
import Derived.Test.YthaakpbdijhgiaaGreatDoorQTokensPgE
set_option linter.unusedVariables false
set_option linter.unusedSimpArgs false
namespace Go.Proofs.YthaakpbdijhgiaaGreatDoor
open Go.RowKit

def pubdO (k n : Nat) (x : D) : Ob → Ob
  | .pv cs => .pv (cs.map (pubd k n x))
  | o => o

theorem St.imp.pubP {N : Nm} {S : St} (k : Nat) {z n : Nat} {e : TypeId} {rows : List (List D)} (hk : S.ob[k]? = some (.gr z e rows n true)) :
    St.imp N S ⟨fun i => pubd k n (.sl z rows) (S.tm i), S.ob.map (pubdO k n (.sl z rows))⟩ := fun w0 σ0 a w g r => by
  have I := r.inv
  have hget : ∀ (j : Nat) (p : Ob), (S.ob.map (pubdO k n (.sl z rows)))[j]? = some p → ∃ q, S.ob[j]? = some q ∧ p = pubdO k n (.sl z rows) q := fun j p hp => by
    simp only [List.getElem?_map, Option.map_eq_some_iff] at hp
    obtain ⟨q, hq, rfl⟩ := hp
    exact ⟨q, hq, rfl⟩
  have hat : ∀ (j : Nat) (q : Ob) (b : Nat), g.at j (pubdO k n (.sl z rows) q) b → g.at j q b := fun j q b hb => by
    cases q <;> exact hb
  refine ⟨g, ⟨⟨I.below, I.old, I.con, fun j p hp => ?_, fun j hj => I.lim j (by simpa using hj), fun i j p p' b hne hp hp' hb hb' => ?_, I.ext⟩, r.defers, r.size, r.hm, by simpa using r.hl, fun i => (r.tm i).pubd I hk⟩⟩
  · obtain ⟨q, hq, rfl⟩ := hget j p hp
    have := I.obs j q hq
    cases q with
    | pv cs =>
      obtain ⟨h1, b, vs, e', h2, h3, h4, h5, h6, h7, h8⟩ := this
      refine ⟨h1, b, vs, e', h2, h3, h4, by simpa using h5, fun i x u hx hu => ?_, h7, h8⟩
      simp only [List.getElem?_map, Option.map_eq_some_iff] at hx
      obtain ⟨y, hy, rfl⟩ := hx
      exact (h6 i y u hy hu).pubd I hk
    | gr => exact this
    | x => exact this
    | dead => exact this
    | new => exact this
  · obtain ⟨q, hq, rfl⟩ := hget i p hp
    obtain ⟨q', hq', rfl⟩ := hget j p' hp'
    exact I.dis i j q q' b hne hq hq' (hat i q b hb) (hat j q' b hb')

end Go.Proofs.YthaakpbdijhgiaaGreatDoor
