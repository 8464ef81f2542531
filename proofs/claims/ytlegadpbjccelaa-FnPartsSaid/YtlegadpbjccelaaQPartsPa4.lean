/-
  The parts of a right value put together again: contracts. Conditions: none.
-/
import Derived.Test.YtlegadpbjccelaaQPartsMb2
import Derived.Test.YtlegadpbjccelaaQPartsOb1
set_option linter.unusedVariables false
set_option linter.unusedSimpArgs false
set_option maxRecDepth 100000
namespace Go.Proofs.Ytlegadpbjccelaa
open Go.RowKit

theorem place_fine {v : V} (h : v.fine) {i : Int} (h1 : 0 ≤ i) (h2 : i < v.cells.length) : placeM v.cells i = 0 := by
  unfold placeM
  rw [V.fine_val h, if_neg (by simp), if_pos ⟨h1, h2⟩]

theorem cells_pos (v : V) : 0 < v.cells.length := by
  obtain ⟨r, hr⟩ := V.cells_cons v
  rw [hr]; simp

theorem chM_fn {v : V} (h : v.fine) : Fun env.P 73 [cellsD v.cells, dI 0] (.d (.agg [dI 0, .sl 1 ((v.ats 0 v.kids.length).map intRow)])) [] := by
  have h1 := ChildrenAt_fn v.cells 0 (fine_fits h)
  unfold childCells at h1
  rw [place_fine h (Int.le_refl 0) (by have := cells_pos v; omega), if_pos rfl, show Int.toNat 0 = 0 from rfl, V.valA_cells v h.1] at h1
  exact FunQ.pubA rfl h1

theorem ptM_fn {v : V} (h : v.fine) {j : Nat} (hj : j < v.kids.length) : Fun env.P 74 [cellsD v.cells, dI ((v.at 0 j : Nat) : Int)] (.d (resD 0 (v.kids.getD j default).cells)) [] := by
  obtain ⟨p1, p2, p3⟩ := part_kid h hj
  have h1 := PartAt_fn v.cells ((v.at 0 j : Nat) : Int) (fine_fits h)
  unfold partCode partCells at h1
  rw [place_fine h (by omega) (by omega), if_pos rfl, Int.toNat_natCast, p1] at h1
  exact FunQ.pubA rfl h1

theorem kids_firstV {v : V} (h : v.fine) : firstV (v.kids.map V.cells) = 0 ∧ valsV (v.kids.map V.cells) = v.kids ∧ fitsCC (v.kids.map V.cells) := by
  have hk := fun k hk => (V.fine_kids h k hk).1
  have hlc := V.length_counts v.kids
  have hce := V.count_eq v
  have hv200 := h.2.1
  have h1 : ∀ l : List V, (∀ k ∈ l, k.fine) → firstV (l.map V.cells) = 0 ∧ valsV (l.map V.cells) = l := by
    intro l
    induction l with
    | nil => intro _; exact ⟨rfl, rfl⟩
    | cons a r ih =>
      intro hh
      obtain ⟨i1, i2⟩ := ih fun k hk => hh k (List.mem_cons_of_mem _ hk)
      have ha := V.fine_val (hh a (List.mem_cons_self ..))
      refine ⟨?_, ?_⟩
      · rw [List.map_cons, firstV, ha, if_neg (by simp)]; exact i1
      · have e : valsV (a.cells :: r.map V.cells) = (valOfM a.cells).1 :: valsV (r.map V.cells) := rfl
        rw [List.map_cons, e, ha, i2]
  obtain ⟨g1, g2⟩ := h1 v.kids hk
  refine ⟨g1, g2, fun x hx => ?_, by rw [List.length_map]; omega⟩
  obtain ⟨k, hk1, rfl⟩ := List.mem_map.1 hx
  exact fine_fits (hk k hk1)

theorem arrV_back {v : V} (h : v.fine) (hk : v.kind = 5) : arrV v.kids = v := by
  obtain ⟨k, n, t, ks, kids⟩ := v
  have hk : k = 5 := hk
  subst hk
  have h1 : n = 0 := Classical.byContradiction fun hne => by have := h.1.2.1 hne; omega
  have h2 : t = noS := Classical.byContradiction fun hne => by have := h.1.2.2.1 hne; omega
  have h3 : ks = [] := h.1.2.2.2.2.2.2.2.1 (by decide)
  subst h1 h2 h3
  rfl

theorem objS_back {v : V} (h : v.fine) (hk : v.kind = 6) : objS v.keys v.kids = v := by
  obtain ⟨hl, hi⟩ := V.obj_keys h.1 hk
  obtain ⟨e1, e2⟩ := objK_incr hi v.kids hl v.keys.length (Nat.le_refl _)
  rw [List.take_length] at e1
  rw [List.take_of_length_le (by omega)] at e2
  unfold objS
  rw [e1, e2]
  obtain ⟨k, n, t, ks, kids⟩ := v
  have hk : k = 6 := hk
  subst hk
  have h1 : n = 0 := Classical.byContradiction fun hne => by have := h.1.2.1 hne; omega
  have h2 : t = noS := Classical.byContradiction fun hne => by have := h.1.2.2.1 hne; omega
  subst h1 h2
  rfl

theorem arM_fn {v : V} (h : v.fine) (hk : v.kind = 5) : Fun env.P 36 [cellssD (v.kids.map V.cells)] (.d (resD 0 v.cells)) [] := by
  obtain ⟨f1, f2, f3⟩ := kids_firstV h
  have hlc := V.length_counts v.kids
  have hce := V.count_eq v
  have hv200 := h.2.1
  have h1 := ArrayValue_fn (v.kids.map V.cells) f3
  have e1 : arrC (v.kids.map V.cells) = 0 := by
    unfold arrC
    rw [if_neg (by rw [List.length_map]; omega), if_neg (by rw [f1]; simp), f2, arrV_back h hk, V.fine_fault h]
  have e2 : arrR (v.kids.map V.cells) = v.cells := by
    unfold arrR
    rw [if_neg (by rw [List.length_map]; omega), if_neg (by rw [f1]; simp), f2, arrV_back h hk, madeC, if_pos (V.fine_fault h)]
  rw [e1, e2] at h1
  exact FunQ.pubA rfl h1

theorem obM_fn {v : V} (h : v.fine) (hk : v.kind = 6) : Fun env.P 56 [.sl 1 (v.keys.map keyRow), cellssD (v.kids.map V.cells)] (.d (resD 0 v.cells)) [] := by
  obtain ⟨f1, f2, f3⟩ := kids_firstV h
  have hlc := V.length_counts v.kids
  have hce := V.count_eq v
  have hv200 := h.2.1
  obtain ⟨hl, hi⟩ := V.obj_keys h.1 hk
  have hok : ∀ k ∈ v.keys, okText k = true := okKeysV h.1
  have hsz : ∀ k ∈ v.keys, k.size ≤ 1048576 := fun k hk' => by
    have := hok k hk'
    simp only [okText, Bool.and_eq_true, decide_eq_true_eq] at this
    omega
  have hb : ¬ badKs v.keys = true := by
    have : badKs v.keys = false := by
      unfold badKs
      rw [List.any_eq_false]
      intro k hk'
      simp [hok k hk']
    rw [this]; simp
  have h1 := ObjectValue_fn v.keys (v.kids.map V.cells) f3 hsz (by omega)
  have hc : ¬ (200 < (v.kids.map V.cells).length ∨ v.keys.length ≠ (v.kids.map V.cells).length) := by rw [List.length_map]; omega
  have e1 : obC v.keys (v.kids.map V.cells) = 0 := by
    unfold obC
    rw [if_neg hc, if_neg hb, if_neg (by rw [f1]; simp), f2, objS_back h hk, V.fine_fault h]
  have e2 : obR v.keys (v.kids.map V.cells) = v.cells := by
    unfold obR
    rw [if_neg hc, if_neg hb, if_neg (by rw [f1]; simp), f2, objS_back h hk, madeC, if_pos (V.fine_fault h)]
  rw [e1, e2] at h1
  exact FunQ.pubA rfl h1

end Go.Proofs.Ytlegadpbjccelaa
