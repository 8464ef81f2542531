/-
  The library's stable sort of values, walked: merging where one side has one value. Conditions: at most 4096 values, each fine.
-/
import Derived.Test.YtlegadpbjccelaaQSortsSt5
set_option linter.unusedVariables false
set_option linter.unusedSimpArgs false
set_option maxRecDepth 100000
namespace Go.Proofs.Ytlegadpbjccelaa
open Go.RowKit

/-- One that goes in at its place. -/
theorem ins_cut {Y : List V} {x : V} (hs : Srt Y) (p : Nat) (hp : p ≤ Y.length) (h1 : p = 0 ∨ (0 < p ∧ V.le (Y.getD (p - 1) default) x)) (h2 : p = Y.length ∨ V.le x (Y.getD p default)) : Srt (Y.take p ++ x :: Y.drop p) := by
  refine Srt.ins (by rw [List.take_append_drop]; exact hs) (fun a ha => ?_) fun b hb => ?_
  · obtain ⟨i, hi⟩ := List.getElem?_of_mem ha
    have hlt : i < p := by
      have := (List.getElem?_eq_some_iff.1 hi).1
      rw [List.length_take] at this
      omega
    rw [List.getElem?_take, if_pos hlt] at hi
    rcases h1 with h | ⟨h0, h⟩
    · omega
    · exact V.le_trans (hs.at (i := i) (j := p - 1) (by omega) hi (by simp [List.getD_eq_getElem?_getD, show p - 1 < Y.length by omega])) h
  · obtain ⟨i, hi⟩ := List.getElem?_of_mem hb
    rw [List.getElem?_drop] at hi
    rcases h2 with h | h
    · have := (List.getElem?_eq_some_iff.1 hi).1
      omega
    · have := (List.getElem?_eq_some_iff.1 hi).1
      exact V.le_trans h (hs.at (i := p) (j := p + i) (by omega) (by simp [List.getD_eq_getElem?_getD, show p < Y.length by omega]) hi)

theorem ins_perm (x : V) (Y : List V) (p : Nat) : (x :: Y).Perm (Y.take p ++ x :: Y.drop p) := by
  have := (List.perm_middle (a := x) (l₁ := Y.take p) (l₂ := Y.drop p)).symm
  rwa [List.take_append_drop] at this

set_option maxHeartbeats 4000000 in
theorem symMerge1_fn (A : List V) (x : V) (Y B : List V) (ia im ib : Int) (ha : ia = A.length) (hm : im = A.length + 1) (hb : ib = A.length + 1 + Y.length) (hl : A.length + 1 + Y.length + B.length ≤ 4096) (hs : Srt Y) (hf : ∀ v ∈ Y, v.fine) :
    FunQ env.P 306 [.og 0 0, vI .i64 ia, vI .i64 im, vI .i64 ib, cmpT] [grV (A ++ x :: Y ++ B)] (sorts A (x :: Y) B) := by
  refine FunQ.intro Try.func306 rfl (by kernel_rfl) rfl ?_
  generalize hL : A ++ x :: Y ++ B = L
  have hLl : L.length = A.length + 1 + Y.length + B.length := by rw [← hL]; simp; omega
  have hRl : (rwV L).length = L.length := by simp
  have gx : L.getD (Int.toNat ia) default = x := by
    rw [show Int.toNat ia = A.length by omega, ← hL]
    simp [List.getD_eq_getElem?_getD, List.getElem?_append_right]
  have gy : ∀ q, q < Y.length → L.getD (A.length + 1 + q) default = Y.getD q default := fun q hq => by
    rw [← hL]
    have : A.length + 1 + q = A.length + (q + 1) := by omega
    simp only [this, List.getD_eq_getElem?_getD, List.append_assoc, List.cons_append]
    rw [List.getElem?_append_right (by omega), Nat.add_sub_cancel_left, List.getElem?_cons_succ, List.getElem?_append_left hq]
  repeat' (first | refine W.seq ?_ | refine W.rg ?_ | refine W.dra' ?_ | refine W.block ?_ | refine W.skip ?_ | refine W.exit ?_ | refine W.cond_true' ?_ | refine W.cond_false' ?_ | refine WG.nil ?_ | refine WG.run' (E := env) ?_ | refine WG.gt' ?_ | refine WG.gf' ?_ | refine WG.ixm' (E := env) ?_ | refine WG.ixo' (E := env) ?_ | refine WG.legm' (E := env) ?_ | refine WG.slS' (E := env) ?_ | refine WG.slD' (E := env) ?_ | refine WG.ap' (E := env) ?_ | refine WD.nil ?_ | refine WD.bs' (E := env) ?_ | refine WD.s' (E := env) (t := .d _) ?_ | refine WD.p' ?_ | refine WD.px' ?_ | refine WD.s' (E := env) (t := .ea _ _) ?_ | refine WD.s' (E := env) (t := .lp _ _) ?_ | refine WD.s' (E := env) (t := .og _ _) ?_ | refine WD.s' (E := env) (t := .agg _) ?_ | refine WD.s' (E := env) (t := .tup _) ?_ | refine WD.s' (E := env) (t := .clo _ _) ?_ | refine WD.ixm' (E := env) ?_ | refine WD.ixo' (E := env) ?_ | refine WD.legm' (E := env) ?_ | refine WD.slS' (E := env) ?_ | refine WD.slD' (E := env) ?_ | ((first | refine WG.sp' (fun h => ?_) fun h => ?_ | refine W.cond' (fun h => ?_) fun h => ?_ | refine WD.sp' (fun h => ?_) fun h => ?_) <;> (try simp only [decide_eq_true_eq, decide_eq_false_iff_not, Bool.not_eq_true', Bool.not_eq_false', Bool.and_eq_true, Bool.or_eq_true, Bool.and_eq_false_iff, Bool.or_eq_false_iff, Bool.not_eq_true, Bool.not_eq_false, Int.not_lt, Int.not_le, List.length_map, beq_self_eq_true, Bool.true_eq_false, Bool.false_eq_true] at h) <;> (try (exfalso; first | contradiction | omega))))
  all_goals first | (exfalso; omega) | skip
  refine W.loopI (fun m S => ∃ (p q : Nat) (i j : Int), m = q - p ∧ (p ≤ q ∧ q ≤ Y.length ∧ i = A.length + 1 + p ∧ j = A.length + 1 + q ∧ (p = 0 ∨ (0 < p ∧ V.cmp (Y.getD (p - 1) default) x < 0)) ∧ (q = Y.length ∨ ¬ V.cmp (Y.getD q default) x < 0)) ∧
    S = ⟨ofL [(0, .og 0 0), (1, vI .i64 ia), (2, vI .i64 im), (3, vI .i64 ib), (4, cmpT), (10, vI .i64 i), (11, vI .i64 j)], [grV L]⟩) _ _
    ⟨0, Y.length, im, ib, rfl, ⟨by omega, by omega, by omega, by omega, .inl rfl, .inl rfl⟩, rfl⟩ (St.imp.of_le (by (refine le_ofL rfl ?_ ?_ <;> (repeat (first | exact trivial | refine ⟨⟨rfl, rfl⟩, ?_⟩ | refine ⟨rfl, .inl rfl, ?_⟩ | refine ⟨rfl, .inr rfl, ?_⟩))))) ?_
  rintro m S ⟨p, q, i, j, rfl, ⟨hpq, hq, hi, hj, hp1, hq1⟩, rfl⟩
  by_cases hlt : p < q
  · obtain ⟨k, hk⟩ : ∃ k, k = (p + q) / 2 := ⟨_, rfl⟩
    obtain ⟨md, hh⟩ : ∃ md : Int, md = A.length + 1 + k := ⟨_, rfl⟩
    have hdv : (i + j) / 2 ^ Int.toNat 1 = md := by
      rw [hh, hk, hi, hj]
      show _ / (2 : Int) ^ 1 = _
      omega
    have g2 : L.getD (Int.toNat md) default = Y.getD k default := by rw [show Int.toNat md = A.length + 1 + k by omega]; exact gy k (by omega)
    have hc := sortCmp_fn (Y.getD k default) x (hf _ (getD_mem' (by omega)))
    rw [← g2, ← gx] at hc
    generalize hc2 : V.cmp (L.getD (Int.toNat md) default) (L.getD (Int.toNat ia) default) = c at hc
    rw [g2, gx] at hc2
    repeat' (first | refine WG.shr rfl rfl rfl rfl ⟨by decide, by decide⟩ hdv ?_ | refine WD.cl (E := env) (t' := .d (dI c)) false rfl rfl hc rfl rfl rfl rfl (fun h => nomatch h) rfl ?_ | refine W.seq ?_ | refine W.rg ?_ | refine W.dra' ?_ | refine W.block ?_ | refine W.skip ?_ | refine W.exit ?_ | refine W.cond_true' ?_ | refine W.cond_false' ?_ | refine WG.nil ?_ | refine WG.run' (E := env) ?_ | refine WG.gt' ?_ | refine WG.gf' ?_ | refine WG.ixm' (E := env) ?_ | refine WG.ixo' (E := env) ?_ | refine WG.legm' (E := env) ?_ | refine WG.slS' (E := env) ?_ | refine WG.slD' (E := env) ?_ | refine WG.ap' (E := env) ?_ | refine WD.nil ?_ | refine WD.bs' (E := env) ?_ | refine WD.s' (E := env) (t := .d _) ?_ | refine WD.p' ?_ | refine WD.px' ?_ | refine WD.s' (E := env) (t := .ea _ _) ?_ | refine WD.s' (E := env) (t := .lp _ _) ?_ | refine WD.s' (E := env) (t := .og _ _) ?_ | refine WD.s' (E := env) (t := .agg _) ?_ | refine WD.s' (E := env) (t := .tup _) ?_ | refine WD.s' (E := env) (t := .clo _ _) ?_ | refine WD.ixm' (E := env) ?_ | refine WD.ixo' (E := env) ?_ | refine WD.legm' (E := env) ?_ | refine WD.slS' (E := env) ?_ | refine WD.slD' (E := env) ?_ | fail | ((first | refine WG.sp' (fun h => ?_) fun h => ?_ | refine W.cond' (fun h => ?_) fun h => ?_ | refine WD.sp' (fun h => ?_) fun h => ?_) <;> (try simp only [decide_eq_true_eq, decide_eq_false_iff_not, Bool.not_eq_true', Bool.not_eq_false', Bool.and_eq_true, Bool.or_eq_true, Bool.and_eq_false_iff, Bool.or_eq_false_iff, Bool.not_eq_true, Bool.not_eq_false, Int.not_lt, Int.not_le, List.length_map, beq_self_eq_true, Bool.true_eq_false, Bool.false_eq_true] at h) <;> (try (exfalso; first | contradiction | omega))))
    · have hcx : V.cmp (Y.getD k default) x < 0 := by omega
      refine ⟨_, _, ?_, ⟨k + 1, q, md + 1, j, rfl, ⟨by omega, by omega, by omega, by omega, .inr ⟨by omega, hcx⟩, hq1⟩, rfl⟩, (St.imp.of_le (by (refine le_ofL rfl ?_ ?_ <;> (repeat (first | exact trivial | refine ⟨⟨rfl, rfl⟩, ?_⟩ | refine ⟨rfl, .inl rfl, ?_⟩ | refine ⟨rfl, .inr rfl, ?_⟩)))))⟩
      omega
    · have hcx : ¬ V.cmp (Y.getD k default) x < 0 := by omega
      refine ⟨_, _, ?_, ⟨p, k, i, md, rfl, ⟨by omega, by omega, by omega, by omega, hp1, .inr hcx⟩, rfl⟩, (St.imp.of_le (by (refine le_ofL rfl ?_ ?_ <;> (repeat (first | exact trivial | refine ⟨⟨rfl, rfl⟩, ?_⟩ | refine ⟨rfl, .inl rfl, ?_⟩ | refine ⟨rfl, .inr rfl, ?_⟩)))))⟩
      omega
  · obtain rfl : p = q := by omega
    repeat' (first | refine W.seq ?_ | refine W.rg ?_ | refine W.dra' ?_ | refine W.block ?_ | refine W.skip ?_ | refine W.exit ?_ | refine W.cond_true' ?_ | refine W.cond_false' ?_ | refine WG.nil ?_ | refine WG.run' (E := env) ?_ | refine WG.gt' ?_ | refine WG.gf' ?_ | refine WG.ixm' (E := env) ?_ | refine WG.ixo' (E := env) ?_ | refine WG.legm' (E := env) ?_ | refine WG.slS' (E := env) ?_ | refine WG.slD' (E := env) ?_ | refine WG.ap' (E := env) ?_ | refine WD.nil ?_ | refine WD.bs' (E := env) ?_ | refine WD.s' (E := env) (t := .d _) ?_ | refine WD.p' ?_ | refine WD.px' ?_ | refine WD.s' (E := env) (t := .ea _ _) ?_ | refine WD.s' (E := env) (t := .lp _ _) ?_ | refine WD.s' (E := env) (t := .og _ _) ?_ | refine WD.s' (E := env) (t := .agg _) ?_ | refine WD.s' (E := env) (t := .tup _) ?_ | refine WD.s' (E := env) (t := .clo _ _) ?_ | refine WD.ixm' (E := env) ?_ | refine WD.ixo' (E := env) ?_ | refine WD.legm' (E := env) ?_ | refine WD.slS' (E := env) ?_ | refine WD.slD' (E := env) ?_ | ((first | refine WG.sp' (fun h => ?_) fun h => ?_ | refine W.cond' (fun h => ?_) fun h => ?_ | refine WD.sp' (fun h => ?_) fun h => ?_) <;> (try simp only [decide_eq_true_eq, decide_eq_false_iff_not, Bool.not_eq_true', Bool.not_eq_false', Bool.and_eq_true, Bool.or_eq_true, Bool.and_eq_false_iff, Bool.or_eq_false_iff, Bool.not_eq_true, Bool.not_eq_false, Int.not_lt, Int.not_le, List.length_map, beq_self_eq_true, Bool.true_eq_false, Bool.false_eq_true] at h) <;> (try (exfalso; first | contradiction | omega))))
    all_goals first | (exfalso; omega) | skip
    refine W.loopI (fun m S => ∃ (k : Nat) (kk : Int) (L : List V), m = p - k ∧ (k ≤ p ∧ kk = A.length + k ∧ L = A ++ Y.take k ++ x :: (Y.drop k ++ B)) ∧
      S = ⟨ofL [(0, .og 0 0), (1, vI .i64 ia), (2, vI .i64 im), (3, vI .i64 ib), (4, cmpT), (10, vI .i64 i), (13, vI .i64 kk)], [grV L]⟩) _ _
      ⟨0, ia, L, rfl, ⟨by omega, by omega, by rw [← hL]; simp⟩, rfl⟩ (St.imp.of_le (by (refine le_ofL rfl ?_ ?_ <;> (repeat (first | exact trivial | refine ⟨⟨rfl, rfl⟩, ?_⟩ | refine ⟨rfl, .inl rfl, ?_⟩ | refine ⟨rfl, .inr rfl, ?_⟩))))) ?_
    rintro m S ⟨k, kk, L, rfl, ⟨hk, hkk, hL2⟩, rfl⟩
    have hLl2 : L.length = A.length + 1 + Y.length + B.length := by rw [hL2]; simp; omega
    have hRl2 : (rwV L).length = L.length := by simp
    by_cases hlt2 : k < p
    · obtain ⟨y, hy⟩ : ∃ y, Y[k]? = some y := ⟨Y[k]'(by omega), List.getElem?_eq_getElem _⟩
      have ey : Y.drop k = y :: Y.drop (k + 1) := by
        obtain ⟨h1, h2⟩ := List.getElem?_eq_some_iff.1 hy
        rw [← h2]; exact List.drop_eq_getElem_cons h1
      have ty : Y.take (k + 1) = Y.take k ++ [y] := by rw [List.take_add_one, hy]; rfl
      have tl : (Y.take k).length = k := by rw [List.length_take]; omega
      have i1 : Int.toNat kk = A.length + k := by omega
      have i2 : Int.toNat (kk + 1) = A.length + k + 1 := by omega
      have eL : L = (A ++ Y.take k) ++ x :: y :: (Y.drop (k + 1) ++ B) := by rw [hL2, ey]; simp
      have g1 : L.getD (Int.toNat kk) default = x := by rw [i1, eL]; simp [List.getD_eq_getElem?_getD, List.getElem?_append_right, tl, Nat.add_assoc]; try rfl
      have g2 : L.getD (Int.toNat (kk + 1)) default = y := by
        rw [i2, eL, List.getD_eq_getElem?_getD, List.getElem?_append_right (by simp [tl] <;> omega)]
        rw [show A.length + k + 1 - (A ++ List.take k Y).length = 1 by simp [tl] <;> omega]
        rfl
      have h1 : (rwV L)[Int.toNat kk]? = some (V.rowP x) := by rw [rwV_at (by omega), g1]
      have h2 : (rwV L)[Int.toNat (kk + 1)]? = some (V.rowP y) := by rw [rwV_at (by omega), g2]
      have h3 : ((rwV L).set (Int.toNat kk) (V.rowP y))[Int.toNat (kk + 1)]? = some (V.rowP y) := by rw [List.getElem?_set_ne (by omega)]; exact h2
      have he : ((rwV L).set (Int.toNat kk) (V.rowP y)).set (Int.toNat (kk + 1)) (V.rowP x) = rwV (A ++ Y.take (k + 1) ++ x :: (Y.drop (k + 1) ++ B)) := by
        have := rwV_swp L (Int.toNat kk) (Int.toNat (kk + 1))
        rw [g1, g2] at this
        rw [this, i1, i2, eL, swp_next (A ++ Y.take k) x y (Y.drop (k + 1) ++ B) _ _ (by simp [tl]) (by simp [tl]), ty]
        simp
      repeat' (first | (refine W.dre' (id := 11) [15, 17] (fun f => bif bt f 2 then [.gr 5 112 (((rwV L).set (Int.toNat kk) (V.rowP y)).set (Int.toNat (kk + 1)) (V.rowP x)) 0 false] else bif bt f 1 then [.gr 5 112 ((rwV L).set (Int.toNat kk) (V.rowP y)) 0 false] else [.gr 5 112 (rwV L) 0 false]) [(0, [0]), (0, [0]), (0, [0, 1]), (0, [0, 1]), (0, [0, 1]), (0, [0]), (0, [0]), (0, [0]), (0, [0]), (0, [0]), (0, [0]), (0, [0]), (0, [0]), (0, [0]), (0, [0]), (1, [0]), (0, [1]), (2, [1])] [.gr 5 112 (((rwV L).set (Int.toNat kk) (V.rowP y)).set (Int.toNat (kk + 1)) (V.rowP x)) 0 false] ?_) | refine WE.nil ?_ | refine WE.ixP' ?_ | refine WE.s' (E := env) (t := .d _) ?_ | refine WE.p' ?_ | refine WE.px' ?_ | refine WE.s' (E := env) (t := .lp _ _) ?_ | refine WE.s' (E := env) (t := .og _ _) ?_ | refine WE.s' (E := env) (t := .ea _ _) ?_ | refine WE.s' (E := env) (t := .agg _) ?_ | refine WE.s' (E := env) (t := .tup _) ?_ | refine WE.ixm' (E := env) ?_ | refine WE.ixo' (E := env) ?_ | refine WE.leg' (E := env) ?_ | refine WE.slS' (E := env) ?_ | refine WE.slD' (E := env) ?_ | refine WE.ap' (E := env) ?_ | refine WE.st' (E := env) ?_ | refine WE.seg' (E := env) ?_ | refine WE.bs' (E := env) ?_ | refine W.seq ?_ | refine W.rg ?_ | refine W.dra' ?_ | refine W.block ?_ | refine W.skip ?_ | refine W.exit ?_ | refine W.cond_true' ?_ | refine W.cond_false' ?_ | refine WG.nil ?_ | refine WG.run' (E := env) ?_ | refine WG.gt' ?_ | refine WG.gf' ?_ | refine WG.ixm' (E := env) ?_ | refine WG.ixo' (E := env) ?_ | refine WG.legm' (E := env) ?_ | refine WG.slS' (E := env) ?_ | refine WG.slD' (E := env) ?_ | refine WG.ap' (E := env) ?_ | refine WD.nil ?_ | refine WD.bs' (E := env) ?_ | refine WD.s' (E := env) (t := .d _) ?_ | refine WD.p' ?_ | refine WD.px' ?_ | refine WD.s' (E := env) (t := .ea _ _) ?_ | refine WD.s' (E := env) (t := .lp _ _) ?_ | refine WD.s' (E := env) (t := .og _ _) ?_ | refine WD.s' (E := env) (t := .agg _) ?_ | refine WD.s' (E := env) (t := .tup _) ?_ | refine WD.s' (E := env) (t := .clo _ _) ?_ | refine WD.ixm' (E := env) ?_ | refine WD.ixo' (E := env) ?_ | refine WD.legm' (E := env) ?_ | refine WD.slS' (E := env) ?_ | refine WD.slD' (E := env) ?_ | fail | ((first | refine WG.sp' (fun h => ?_) fun h => ?_ | refine W.cond' (fun h => ?_) fun h => ?_ | refine WD.sp' (fun h => ?_) fun h => ?_) <;> (try simp only [decide_eq_true_eq, decide_eq_false_iff_not, Bool.not_eq_true', Bool.not_eq_false', Bool.and_eq_true, Bool.or_eq_true, Bool.and_eq_false_iff, Bool.or_eq_false_iff, Bool.not_eq_true, Bool.not_eq_false, Int.not_lt, Int.not_le, List.length_map, beq_self_eq_true, Bool.true_eq_false, Bool.false_eq_true] at h) <;> (try (exfalso; first | contradiction | omega))))
      all_goals first | (exfalso; omega) | skip
      rw [he]
      refine ⟨_, _, ?_, ⟨k + 1, kk + 1, A ++ Y.take (k + 1) ++ x :: (Y.drop (k + 1) ++ B), rfl, ⟨by omega, by omega, rfl⟩, rfl⟩, (St.imp.of_le (by (refine le_ofL rfl ?_ ?_ <;> (repeat (first | exact trivial | refine ⟨⟨rfl, rfl⟩, ?_⟩ | refine ⟨rfl, .inl rfl, ?_⟩ | refine ⟨rfl, .inr rfl, ?_⟩)))))⟩
      omega
    · obtain rfl : k = p := by omega
      repeat' (first | refine W.seq ?_ | refine W.rg ?_ | refine W.dra' ?_ | refine W.block ?_ | refine W.skip ?_ | refine W.exit ?_ | refine W.cond_true' ?_ | refine W.cond_false' ?_ | refine WG.nil ?_ | refine WG.run' (E := env) ?_ | refine WG.gt' ?_ | refine WG.gf' ?_ | refine WG.ixm' (E := env) ?_ | refine WG.ixo' (E := env) ?_ | refine WG.legm' (E := env) ?_ | refine WG.slS' (E := env) ?_ | refine WG.slD' (E := env) ?_ | refine WG.ap' (E := env) ?_ | refine WD.nil ?_ | refine WD.bs' (E := env) ?_ | refine WD.s' (E := env) (t := .d _) ?_ | refine WD.p' ?_ | refine WD.px' ?_ | refine WD.s' (E := env) (t := .ea _ _) ?_ | refine WD.s' (E := env) (t := .lp _ _) ?_ | refine WD.s' (E := env) (t := .og _ _) ?_ | refine WD.s' (E := env) (t := .agg _) ?_ | refine WD.s' (E := env) (t := .tup _) ?_ | refine WD.s' (E := env) (t := .clo _ _) ?_ | refine WD.ixm' (E := env) ?_ | refine WD.ixo' (E := env) ?_ | refine WD.legm' (E := env) ?_ | refine WD.slS' (E := env) ?_ | refine WD.slD' (E := env) ?_ | ((first | refine WG.sp' (fun h => ?_) fun h => ?_ | refine W.cond' (fun h => ?_) fun h => ?_ | refine WD.sp' (fun h => ?_) fun h => ?_) <;> (try simp only [decide_eq_true_eq, decide_eq_false_iff_not, Bool.not_eq_true', Bool.not_eq_false', Bool.and_eq_true, Bool.or_eq_true, Bool.and_eq_false_iff, Bool.or_eq_false_iff, Bool.not_eq_true, Bool.not_eq_false, Int.not_lt, Int.not_le, List.length_map, beq_self_eq_true, Bool.true_eq_false, Bool.false_eq_true] at h) <;> (try (exfalso; first | contradiction | omega))))
      all_goals first | (exfalso; omega) | skip
      have hsr : Srt (Y.take k ++ x :: Y.drop k) := ins_cut hs k (by omega) (hp1.imp id fun h => ⟨h.1, V.le_of_lt h.2⟩) (hq1.imp id fun h => V.le_total h)
      refine W.ret ?_
      exact RetR.own (ob' := [grV L]) ⟨[0], [0], 1⟩ (.inl rfl) rfl (by first | trivial | exact resOK_of (E := env) rfl) rfl rfl rfl rfl rfl rfl ⟨rfl, trivial⟩ rfl ⟨rfl, _, ins_perm x Y k, hsr, by rw [hL2]; simp⟩

end Go.Proofs.Ytlegadpbjccelaa
