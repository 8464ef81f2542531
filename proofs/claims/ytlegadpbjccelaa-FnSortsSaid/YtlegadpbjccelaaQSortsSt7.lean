/-
  The library's stable sort of values, walked: merging where the other side has one value. Conditions: at most 4096 values, each fine.
-/
import Derived.Test.YtlegadpbjccelaaQSortsSt6
set_option linter.unusedVariables false
set_option linter.unusedSimpArgs false
set_option maxRecDepth 100000
namespace Go.Proofs.Ytlegadpbjccelaa
open Go.RowKit

set_option maxHeartbeats 4000000 in
theorem symMerge2_fn (A X : List V) (y : V) (B : List V) (ia im ib : Int) (ha : ia = A.length) (hm : im = A.length + X.length) (hb : ib = A.length + X.length + 1) (hx : 2 ≤ X.length) (hl : A.length + X.length + 1 + B.length ≤ 4096) (hs : Srt X) (hf : y.fine) :
    FunQ env.P 306 [.og 0 0, vI .i64 ia, vI .i64 im, vI .i64 ib, cmpT] [grV (A ++ X ++ y :: B)] (sorts A (X ++ [y]) B) := by
  refine FunQ.intro Try.func306 rfl (by kernel_rfl) rfl ?_
  generalize hL : A ++ X ++ y :: B = L
  have hLl : L.length = A.length + X.length + 1 + B.length := by rw [← hL]; simp; omega
  have hRl : (rwV L).length = L.length := by simp
  have gx : L.getD (Int.toNat im) default = y := by
    rw [show Int.toNat im = A.length + X.length by omega, ← hL]
    rw [List.getD_eq_getElem?_getD, List.getElem?_append_right (by simp)]
    simp
  have gy : ∀ q, q < X.length → L.getD (A.length + q) default = X.getD q default := fun q hq => by
    rw [← hL]
    simp only [List.getD_eq_getElem?_getD, List.append_assoc]
    rw [List.getElem?_append_right (by omega), Nat.add_sub_cancel_left, List.getElem?_append_left hq]
  repeat' (first | refine W.seq ?_ | refine W.rg ?_ | refine W.dra' ?_ | refine W.block ?_ | refine W.skip ?_ | refine W.exit ?_ | refine W.cond_true' ?_ | refine W.cond_false' ?_ | refine WG.nil ?_ | refine WG.run' (E := env) ?_ | refine WG.gt' ?_ | refine WG.gf' ?_ | refine WG.ixm' (E := env) ?_ | refine WG.ixo' (E := env) ?_ | refine WG.legm' (E := env) ?_ | refine WG.slS' (E := env) ?_ | refine WG.slD' (E := env) ?_ | refine WG.ap' (E := env) ?_ | refine WD.nil ?_ | refine WD.bs' (E := env) ?_ | refine WD.s' (E := env) (t := .d _) ?_ | refine WD.p' ?_ | refine WD.px' ?_ | refine WD.s' (E := env) (t := .ea _ _) ?_ | refine WD.s' (E := env) (t := .lp _ _) ?_ | refine WD.s' (E := env) (t := .og _ _) ?_ | refine WD.s' (E := env) (t := .agg _) ?_ | refine WD.s' (E := env) (t := .tup _) ?_ | refine WD.s' (E := env) (t := .clo _ _) ?_ | refine WD.ixm' (E := env) ?_ | refine WD.ixo' (E := env) ?_ | refine WD.legm' (E := env) ?_ | refine WD.slS' (E := env) ?_ | refine WD.slD' (E := env) ?_ | ((first | refine WG.sp' (fun h => ?_) fun h => ?_ | refine W.cond' (fun h => ?_) fun h => ?_ | refine WD.sp' (fun h => ?_) fun h => ?_) <;> (try simp only [decide_eq_true_eq, decide_eq_false_iff_not, Bool.not_eq_true', Bool.not_eq_false', Bool.and_eq_true, Bool.or_eq_true, Bool.and_eq_false_iff, Bool.or_eq_false_iff, Bool.not_eq_true, Bool.not_eq_false, Int.not_lt, Int.not_le, List.length_map, beq_self_eq_true, Bool.true_eq_false, Bool.false_eq_true] at h) <;> (try (exfalso; first | contradiction | omega))))
  all_goals first | (exfalso; omega) | skip
  refine W.loopI (fun m S => ∃ (p q : Nat) (i j : Int), m = q - p ∧ (p ≤ q ∧ q ≤ X.length ∧ i = A.length + p ∧ j = A.length + q ∧ (p = 0 ∨ (0 < p ∧ ¬ V.cmp y (X.getD (p - 1) default) < 0)) ∧ (q = X.length ∨ V.cmp y (X.getD q default) < 0)) ∧
    S = ⟨ofL [(0, .og 0 0), (1, vI .i64 ia), (2, vI .i64 im), (3, vI .i64 ib), (4, cmpT), (14, vI .i64 i), (15, vI .i64 j)], [grV L]⟩) _ _
    ⟨0, X.length, ia, im, rfl, ⟨by omega, by omega, by omega, by omega, .inl rfl, .inl rfl⟩, rfl⟩ (St.imp.of_le (by (refine le_ofL rfl ?_ ?_ <;> (repeat (first | exact trivial | refine ⟨⟨rfl, rfl⟩, ?_⟩ | refine ⟨rfl, .inl rfl, ?_⟩ | refine ⟨rfl, .inr rfl, ?_⟩))))) ?_
  rintro m S ⟨p, q, i, j, rfl, ⟨hpq, hq, hi, hj, hp1, hq1⟩, rfl⟩
  by_cases hlt : p < q
  · obtain ⟨k, hk⟩ : ∃ k, k = (p + q) / 2 := ⟨_, rfl⟩
    obtain ⟨md, hh⟩ : ∃ md : Int, md = A.length + k := ⟨_, rfl⟩
    have hdv : (i + j) / 2 ^ Int.toNat 1 = md := by
      rw [hh, hk, hi, hj]
      show _ / (2 : Int) ^ 1 = _
      omega
    have g2 : L.getD (Int.toNat md) default = X.getD k default := by rw [show Int.toNat md = A.length + k by omega]; exact gy k (by omega)
    have hc := sortCmp_fn y (X.getD k default) hf
    rw [← g2, ← gx] at hc
    generalize hc2 : V.cmp (L.getD (Int.toNat im) default) (L.getD (Int.toNat md) default) = c at hc
    rw [g2, gx] at hc2
    repeat' (first | refine WG.shr rfl rfl rfl rfl ⟨by decide, by decide⟩ hdv ?_ | refine WD.cl (E := env) (t' := .d (dI c)) false rfl rfl hc rfl rfl rfl rfl (fun h => nomatch h) rfl ?_ | refine W.seq ?_ | refine W.rg ?_ | refine W.dra' ?_ | refine W.block ?_ | refine W.skip ?_ | refine W.exit ?_ | refine W.cond_true' ?_ | refine W.cond_false' ?_ | refine WG.nil ?_ | refine WG.run' (E := env) ?_ | refine WG.gt' ?_ | refine WG.gf' ?_ | refine WG.ixm' (E := env) ?_ | refine WG.ixo' (E := env) ?_ | refine WG.legm' (E := env) ?_ | refine WG.slS' (E := env) ?_ | refine WG.slD' (E := env) ?_ | refine WG.ap' (E := env) ?_ | refine WD.nil ?_ | refine WD.bs' (E := env) ?_ | refine WD.s' (E := env) (t := .d _) ?_ | refine WD.p' ?_ | refine WD.px' ?_ | refine WD.s' (E := env) (t := .ea _ _) ?_ | refine WD.s' (E := env) (t := .lp _ _) ?_ | refine WD.s' (E := env) (t := .og _ _) ?_ | refine WD.s' (E := env) (t := .agg _) ?_ | refine WD.s' (E := env) (t := .tup _) ?_ | refine WD.s' (E := env) (t := .clo _ _) ?_ | refine WD.ixm' (E := env) ?_ | refine WD.ixo' (E := env) ?_ | refine WD.legm' (E := env) ?_ | refine WD.slS' (E := env) ?_ | refine WD.slD' (E := env) ?_ | fail | ((first | refine WG.sp' (fun h => ?_) fun h => ?_ | refine W.cond' (fun h => ?_) fun h => ?_ | refine WD.sp' (fun h => ?_) fun h => ?_) <;> (try simp only [decide_eq_true_eq, decide_eq_false_iff_not, Bool.not_eq_true', Bool.not_eq_false', Bool.and_eq_true, Bool.or_eq_true, Bool.and_eq_false_iff, Bool.or_eq_false_iff, Bool.not_eq_true, Bool.not_eq_false, Int.not_lt, Int.not_le, List.length_map, beq_self_eq_true, Bool.true_eq_false, Bool.false_eq_true] at h) <;> (try (exfalso; first | contradiction | omega))))
    all_goals first
      | (have hcx : ¬ V.cmp y (X.getD k default) < 0 := by omega
         refine ⟨_, _, ?_, ⟨k + 1, q, md + 1, j, rfl, ⟨by omega, by omega, by omega, by omega, .inr ⟨by omega, hcx⟩, hq1⟩, rfl⟩, (St.imp.of_le (by (refine le_ofL rfl ?_ ?_ <;> (repeat (first | exact trivial | refine ⟨⟨rfl, rfl⟩, ?_⟩ | refine ⟨rfl, .inl rfl, ?_⟩ | refine ⟨rfl, .inr rfl, ?_⟩)))))⟩
         omega)
      | (have hcx : V.cmp y (X.getD k default) < 0 := by omega
         refine ⟨_, _, ?_, ⟨p, k, i, md, rfl, ⟨by omega, by omega, by omega, by omega, hp1, .inr hcx⟩, rfl⟩, (St.imp.of_le (by (refine le_ofL rfl ?_ ?_ <;> (repeat (first | exact trivial | refine ⟨⟨rfl, rfl⟩, ?_⟩ | refine ⟨rfl, .inl rfl, ?_⟩ | refine ⟨rfl, .inr rfl, ?_⟩)))))⟩
         omega)
  · obtain rfl : p = q := by omega
    repeat' (first | refine W.seq ?_ | refine W.rg ?_ | refine W.dra' ?_ | refine W.block ?_ | refine W.skip ?_ | refine W.exit ?_ | refine W.cond_true' ?_ | refine W.cond_false' ?_ | refine WG.nil ?_ | refine WG.run' (E := env) ?_ | refine WG.gt' ?_ | refine WG.gf' ?_ | refine WG.ixm' (E := env) ?_ | refine WG.ixo' (E := env) ?_ | refine WG.legm' (E := env) ?_ | refine WG.slS' (E := env) ?_ | refine WG.slD' (E := env) ?_ | refine WG.ap' (E := env) ?_ | refine WD.nil ?_ | refine WD.bs' (E := env) ?_ | refine WD.s' (E := env) (t := .d _) ?_ | refine WD.p' ?_ | refine WD.px' ?_ | refine WD.s' (E := env) (t := .ea _ _) ?_ | refine WD.s' (E := env) (t := .lp _ _) ?_ | refine WD.s' (E := env) (t := .og _ _) ?_ | refine WD.s' (E := env) (t := .agg _) ?_ | refine WD.s' (E := env) (t := .tup _) ?_ | refine WD.s' (E := env) (t := .clo _ _) ?_ | refine WD.ixm' (E := env) ?_ | refine WD.ixo' (E := env) ?_ | refine WD.legm' (E := env) ?_ | refine WD.slS' (E := env) ?_ | refine WD.slD' (E := env) ?_ | ((first | refine WG.sp' (fun h => ?_) fun h => ?_ | refine W.cond' (fun h => ?_) fun h => ?_ | refine WD.sp' (fun h => ?_) fun h => ?_) <;> (try simp only [decide_eq_true_eq, decide_eq_false_iff_not, Bool.not_eq_true', Bool.not_eq_false', Bool.and_eq_true, Bool.or_eq_true, Bool.and_eq_false_iff, Bool.or_eq_false_iff, Bool.not_eq_true, Bool.not_eq_false, Int.not_lt, Int.not_le, List.length_map, beq_self_eq_true, Bool.true_eq_false, Bool.false_eq_true] at h) <;> (try (exfalso; first | contradiction | omega))))
    all_goals first | (exfalso; omega) | skip
    refine W.loopI (fun m S => ∃ (k : Nat) (kk : Int) (L : List V), m = k - p ∧ (p ≤ k ∧ k ≤ X.length ∧ kk = A.length + k ∧ L = A ++ X.take k ++ y :: (X.drop k ++ B)) ∧
      S = ⟨ofL [(0, .og 0 0), (1, vI .i64 ia), (2, vI .i64 im), (3, vI .i64 ib), (4, cmpT), (14, vI .i64 i), (17, vI .i64 kk)], [grV L]⟩) _ _
      ⟨X.length, im, L, rfl, ⟨by omega, by omega, by omega, by rw [← hL]; simp⟩, rfl⟩ (St.imp.of_le (by (refine le_ofL rfl ?_ ?_ <;> (repeat (first | exact trivial | refine ⟨⟨rfl, rfl⟩, ?_⟩ | refine ⟨rfl, .inl rfl, ?_⟩ | refine ⟨rfl, .inr rfl, ?_⟩))))) ?_
    rintro m S ⟨k, kk, L, rfl, ⟨hk, hkx, hkk, hL2⟩, rfl⟩
    have hLl2 : L.length = A.length + X.length + 1 + B.length := by rw [hL2]; simp; omega
    have hRl2 : (rwV L).length = L.length := by simp
    by_cases hlt2 : p < k
    · obtain ⟨t, rfl⟩ : ∃ t, k = t + 1 := ⟨k - 1, by omega⟩
      obtain ⟨z, hz⟩ : ∃ z, X[t]? = some z := ⟨X[t]'(by omega), List.getElem?_eq_getElem _⟩
      have ey : X.drop t = z :: X.drop (t + 1) := by
        obtain ⟨h1, h2⟩ := List.getElem?_eq_some_iff.1 hz
        rw [← h2]; exact List.drop_eq_getElem_cons h1
      have ty : X.take (t + 1) = X.take t ++ [z] := by rw [List.take_add_one, hz]; rfl
      have tl : (X.take t).length = t := by rw [List.length_take]; omega
      have i1 : Int.toNat kk = A.length + t + 1 := by omega
      have i2 : Int.toNat (kk - 1) = A.length + t := by omega
      have eL : L = (A ++ X.take t) ++ z :: y :: (X.drop (t + 1) ++ B) := by rw [hL2, ty]; simp
      have g2 : L.getD (Int.toNat (kk - 1)) default = z := by rw [i2, eL]; simp [List.getD_eq_getElem?_getD, List.getElem?_append_right, tl, Nat.add_assoc]; try rfl
      have g1 : L.getD (Int.toNat kk) default = y := by
        rw [i1, eL, List.getD_eq_getElem?_getD, List.getElem?_append_right (by simp [tl] <;> omega)]
        rw [show A.length + t + 1 - (A ++ List.take t X).length = 1 by simp [tl] <;> omega]
        rfl
      have h1 : (rwV L)[Int.toNat kk]? = some (V.rowP y) := by rw [rwV_at (by omega), g1]
      have h2 : (rwV L)[Int.toNat (kk - 1)]? = some (V.rowP z) := by rw [rwV_at (by omega), g2]
      have h3 : ((rwV L).set (Int.toNat kk) (V.rowP z))[Int.toNat (kk - 1)]? = some (V.rowP z) := by rw [List.getElem?_set_ne (by omega)]; exact h2
      have he : ((rwV L).set (Int.toNat kk) (V.rowP z)).set (Int.toNat (kk - 1)) (V.rowP y) = rwV (A ++ X.take t ++ y :: (X.drop t ++ B)) := by
        have := rwV_swp L (Int.toNat kk) (Int.toNat (kk - 1))
        rw [g1, g2] at this
        rw [this, i1, i2]
        have e3 : swp L (A.length + t + 1) (A.length + t) = swp L (A.length + t) (A.length + t + 1) := by
          unfold swp
          exact List.set_comm _ _ (by omega)
        rw [e3, eL, swp_next (A ++ X.take t) z y (X.drop (t + 1) ++ B) _ _ (by simp [tl]) (by simp [tl]), ey]
        simp
      repeat' (first | (refine W.dre' (id := 23) [15, 17] (fun f => bif bt f 2 then [.gr 5 112 (((rwV L).set (Int.toNat kk) (V.rowP z)).set (Int.toNat (kk - 1)) (V.rowP y)) 0 false] else bif bt f 1 then [.gr 5 112 ((rwV L).set (Int.toNat kk) (V.rowP z)) 0 false] else [.gr 5 112 (rwV L) 0 false]) [(0, [0]), (0, [0]), (0, [0, 1]), (0, [0, 1]), (0, [0, 1]), (0, [0]), (0, [0]), (0, [0]), (0, [0]), (0, [0]), (0, [0]), (0, [0]), (0, [0]), (0, [0]), (0, [0]), (1, [0]), (0, [1]), (2, [1])] [.gr 5 112 (((rwV L).set (Int.toNat kk) (V.rowP z)).set (Int.toNat (kk - 1)) (V.rowP y)) 0 false] ?_) | refine WE.nil ?_ | refine WE.ixP' ?_ | refine WE.s' (E := env) (t := .d _) ?_ | refine WE.p' ?_ | refine WE.px' ?_ | refine WE.s' (E := env) (t := .lp _ _) ?_ | refine WE.s' (E := env) (t := .og _ _) ?_ | refine WE.s' (E := env) (t := .ea _ _) ?_ | refine WE.s' (E := env) (t := .agg _) ?_ | refine WE.s' (E := env) (t := .tup _) ?_ | refine WE.ixm' (E := env) ?_ | refine WE.ixo' (E := env) ?_ | refine WE.leg' (E := env) ?_ | refine WE.slS' (E := env) ?_ | refine WE.slD' (E := env) ?_ | refine WE.ap' (E := env) ?_ | refine WE.st' (E := env) ?_ | refine WE.seg' (E := env) ?_ | refine WE.bs' (E := env) ?_ | refine W.seq ?_ | refine W.rg ?_ | refine W.dra' ?_ | refine W.block ?_ | refine W.skip ?_ | refine W.exit ?_ | refine W.cond_true' ?_ | refine W.cond_false' ?_ | refine WG.nil ?_ | refine WG.run' (E := env) ?_ | refine WG.gt' ?_ | refine WG.gf' ?_ | refine WG.ixm' (E := env) ?_ | refine WG.ixo' (E := env) ?_ | refine WG.legm' (E := env) ?_ | refine WG.slS' (E := env) ?_ | refine WG.slD' (E := env) ?_ | refine WG.ap' (E := env) ?_ | refine WD.nil ?_ | refine WD.bs' (E := env) ?_ | refine WD.s' (E := env) (t := .d _) ?_ | refine WD.p' ?_ | refine WD.px' ?_ | refine WD.s' (E := env) (t := .ea _ _) ?_ | refine WD.s' (E := env) (t := .lp _ _) ?_ | refine WD.s' (E := env) (t := .og _ _) ?_ | refine WD.s' (E := env) (t := .agg _) ?_ | refine WD.s' (E := env) (t := .tup _) ?_ | refine WD.s' (E := env) (t := .clo _ _) ?_ | refine WD.ixm' (E := env) ?_ | refine WD.ixo' (E := env) ?_ | refine WD.legm' (E := env) ?_ | refine WD.slS' (E := env) ?_ | refine WD.slD' (E := env) ?_ | fail | ((first | refine WG.sp' (fun h => ?_) fun h => ?_ | refine W.cond' (fun h => ?_) fun h => ?_ | refine WD.sp' (fun h => ?_) fun h => ?_) <;> (try simp only [decide_eq_true_eq, decide_eq_false_iff_not, Bool.not_eq_true', Bool.not_eq_false', Bool.and_eq_true, Bool.or_eq_true, Bool.and_eq_false_iff, Bool.or_eq_false_iff, Bool.not_eq_true, Bool.not_eq_false, Int.not_lt, Int.not_le, List.length_map, beq_self_eq_true, Bool.true_eq_false, Bool.false_eq_true] at h) <;> (try (exfalso; first | contradiction | omega))))
      all_goals first | (exfalso; omega) | skip
      rw [he]
      refine ⟨_, _, ?_, ⟨t, kk - 1, A ++ X.take t ++ y :: (X.drop t ++ B), rfl, ⟨by omega, by omega, by omega, rfl⟩, rfl⟩, (St.imp.of_le (by (refine le_ofL rfl ?_ ?_ <;> (repeat (first | exact trivial | refine ⟨⟨rfl, rfl⟩, ?_⟩ | refine ⟨rfl, .inl rfl, ?_⟩ | refine ⟨rfl, .inr rfl, ?_⟩)))))⟩
      omega
    · obtain rfl : k = p := by omega
      repeat' (first | refine W.seq ?_ | refine W.rg ?_ | refine W.dra' ?_ | refine W.block ?_ | refine W.skip ?_ | refine W.exit ?_ | refine W.cond_true' ?_ | refine W.cond_false' ?_ | refine WG.nil ?_ | refine WG.run' (E := env) ?_ | refine WG.gt' ?_ | refine WG.gf' ?_ | refine WG.ixm' (E := env) ?_ | refine WG.ixo' (E := env) ?_ | refine WG.legm' (E := env) ?_ | refine WG.slS' (E := env) ?_ | refine WG.slD' (E := env) ?_ | refine WG.ap' (E := env) ?_ | refine WD.nil ?_ | refine WD.bs' (E := env) ?_ | refine WD.s' (E := env) (t := .d _) ?_ | refine WD.p' ?_ | refine WD.px' ?_ | refine WD.s' (E := env) (t := .ea _ _) ?_ | refine WD.s' (E := env) (t := .lp _ _) ?_ | refine WD.s' (E := env) (t := .og _ _) ?_ | refine WD.s' (E := env) (t := .agg _) ?_ | refine WD.s' (E := env) (t := .tup _) ?_ | refine WD.s' (E := env) (t := .clo _ _) ?_ | refine WD.ixm' (E := env) ?_ | refine WD.ixo' (E := env) ?_ | refine WD.legm' (E := env) ?_ | refine WD.slS' (E := env) ?_ | refine WD.slD' (E := env) ?_ | ((first | refine WG.sp' (fun h => ?_) fun h => ?_ | refine W.cond' (fun h => ?_) fun h => ?_ | refine WD.sp' (fun h => ?_) fun h => ?_) <;> (try simp only [decide_eq_true_eq, decide_eq_false_iff_not, Bool.not_eq_true', Bool.not_eq_false', Bool.and_eq_true, Bool.or_eq_true, Bool.and_eq_false_iff, Bool.or_eq_false_iff, Bool.not_eq_true, Bool.not_eq_false, Int.not_lt, Int.not_le, List.length_map, beq_self_eq_true, Bool.true_eq_false, Bool.false_eq_true] at h) <;> (try (exfalso; first | contradiction | omega))))
      all_goals first | (exfalso; omega) | skip
      have hsr : Srt (X.take k ++ y :: X.drop k) := ins_cut hs k (by omega) (hp1.imp id fun h => ⟨h.1, V.le_total h.2⟩) (hq1.imp id fun h => V.le_of_lt h)
      refine W.ret ?_
      exact RetR.own (ob' := [grV L]) ⟨[0], [0], 1⟩ (.inl rfl) rfl (by first | trivial | exact resOK_of (E := env) rfl) rfl rfl rfl rfl rfl rfl ⟨rfl, trivial⟩ rfl ⟨rfl, _, (List.perm_append_singleton y X).trans (ins_perm y X k), hsr, by rw [hL2]; simp⟩

end Go.Proofs.Ytlegadpbjccelaa
