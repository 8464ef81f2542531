/-
  The library's stable sort of values, walked: the insertion sort. Conditions: at most 4096 values, each fine.
-/
import Derived.Test.YtlegadpbjccelaaQSortsSt4
set_option linter.unusedVariables false
set_option linter.unusedSimpArgs false
set_option maxRecDepth 100000
namespace Go.Proofs.Ytlegadpbjccelaa
open Go.RowKit

/-- What a sort of the values between leaves: the same values, in order. -/
def sorts (A X B : List V) (t : T) (ob : List Ob) : Prop := t = .tup [] ∧ ∃ X', X.Perm X' ∧ Srt X' ∧ ob = [grV (A ++ X' ++ B)]

set_option maxHeartbeats 4000000 in
theorem insertion_fn (A X B : List V) (ia ib : Int) (ha : ia = A.length) (hb : ib = A.length + X.length) (hl : A.length + X.length + B.length ≤ 4096) (hf : ∀ v ∈ X, v.fine) :
    FunQ env.P 305 [.og 0 0, vI .i64 ia, vI .i64 ib, cmpT] [grV (A ++ X ++ B)] (sorts A X B) := by
  refine FunQ.intro Try.func305 rfl (by kernel_rfl) rfl ?_
  repeat' (first | refine W.seq ?_ | refine W.rg ?_ | refine W.dra' ?_ | refine W.block ?_ | refine W.skip ?_ | refine W.exit ?_ | refine W.cond_true' ?_ | refine W.cond_false' ?_ | refine WG.nil ?_ | refine WG.run' (E := env) ?_ | refine WG.gt' ?_ | refine WG.gf' ?_ | refine WG.ixm' (E := env) ?_ | refine WG.ixo' (E := env) ?_ | refine WG.legm' (E := env) ?_ | refine WG.slS' (E := env) ?_ | refine WG.slD' (E := env) ?_ | refine WG.ap' (E := env) ?_ | refine WD.nil ?_ | refine WD.bs' (E := env) ?_ | refine WD.s' (E := env) (t := .d _) ?_ | refine WD.p' ?_ | refine WD.px' ?_ | refine WD.s' (E := env) (t := .ea _ _) ?_ | refine WD.s' (E := env) (t := .lp _ _) ?_ | refine WD.s' (E := env) (t := .og _ _) ?_ | refine WD.s' (E := env) (t := .agg _) ?_ | refine WD.s' (E := env) (t := .tup _) ?_ | refine WD.s' (E := env) (t := .clo _ _) ?_ | refine WD.ixm' (E := env) ?_ | refine WD.ixo' (E := env) ?_ | refine WD.legm' (E := env) ?_ | refine WD.slS' (E := env) ?_ | refine WD.slD' (E := env) ?_ | ((first | refine WG.sp' (fun h => ?_) fun h => ?_ | refine W.cond' (fun h => ?_) fun h => ?_ | refine WD.sp' (fun h => ?_) fun h => ?_) <;> (try simp only [decide_eq_true_eq, decide_eq_false_iff_not, Bool.not_eq_true', Bool.not_eq_false', Bool.and_eq_true, Bool.or_eq_true, Bool.and_eq_false_iff, Bool.or_eq_false_iff, Bool.not_eq_true, Bool.not_eq_false, Int.not_lt, Int.not_le, List.length_map, beq_self_eq_true, Bool.true_eq_false, Bool.false_eq_true] at h) <;> (try (exfalso; first | contradiction | omega))))
  refine W.loopI (fun m S => ∃ (S1 U L : List V) (i : Int), m = U.length ∧ (L = A ++ S1 ++ U ++ B ∧ (S1 ++ U).Perm X ∧ Srt S1 ∧ i = A.length + S1.length + (if X.length = 0 then 1 else 0) ∧ (X.length ≠ 0 → 0 < S1.length)) ∧
    S = ⟨ofL [(0, .og 0 0), (1, vI .i64 ia), (2, vI .i64 ib), (3, cmpT), (8, vI .i64 i)], [grV L]⟩) _ _
    ⟨X.take 1, X.drop 1, A ++ X ++ B, ia + 1, rfl, ⟨by rw [List.append_assoc A (X.take 1), List.take_append_drop], by rw [List.take_append_drop], ?_, ?_, ?_⟩, rfl⟩ (St.imp.of_le (by (refine le_ofL rfl ?_ ?_ <;> (repeat (first | exact trivial | refine ⟨⟨rfl, rfl⟩, ?_⟩ | refine ⟨rfl, .inl rfl, ?_⟩ | refine ⟨rfl, .inr rfl, ?_⟩))))) ?_
  · match X with
    | [] => exact Srt.nil
    | x :: r => exact Srt.one x
  · match X with
    | [] => simp; omega
    | x :: r => simp; omega
  · match X with
    | [] => simp
    | x :: r => simp
  rintro m S ⟨S1, U, L, i, rfl, ⟨hL, hp, hs, hi, h0⟩, rfl⟩
  have hpl := hp.length_eq
  rw [List.length_append] at hpl
  have hLl : L.length = A.length + X.length + B.length := by rw [hL]; simp; omega
  match U with
  | [] =>
    have hX : ib ≤ i := by split at hi <;> simp at hpl <;> omega
    repeat' (first | refine W.seq ?_ | refine W.rg ?_ | refine W.dra' ?_ | refine W.block ?_ | refine W.skip ?_ | refine W.exit ?_ | refine W.cond_true' ?_ | refine W.cond_false' ?_ | refine WG.nil ?_ | refine WG.run' (E := env) ?_ | refine WG.gt' ?_ | refine WG.gf' ?_ | refine WG.ixm' (E := env) ?_ | refine WG.ixo' (E := env) ?_ | refine WG.legm' (E := env) ?_ | refine WG.slS' (E := env) ?_ | refine WG.slD' (E := env) ?_ | refine WG.ap' (E := env) ?_ | refine WD.nil ?_ | refine WD.bs' (E := env) ?_ | refine WD.s' (E := env) (t := .d _) ?_ | refine WD.p' ?_ | refine WD.px' ?_ | refine WD.s' (E := env) (t := .ea _ _) ?_ | refine WD.s' (E := env) (t := .lp _ _) ?_ | refine WD.s' (E := env) (t := .og _ _) ?_ | refine WD.s' (E := env) (t := .agg _) ?_ | refine WD.s' (E := env) (t := .tup _) ?_ | refine WD.s' (E := env) (t := .clo _ _) ?_ | refine WD.ixm' (E := env) ?_ | refine WD.ixo' (E := env) ?_ | refine WD.legm' (E := env) ?_ | refine WD.slS' (E := env) ?_ | refine WD.slD' (E := env) ?_ | ((first | refine WG.sp' (fun h => ?_) fun h => ?_ | refine W.cond' (fun h => ?_) fun h => ?_ | refine WD.sp' (fun h => ?_) fun h => ?_) <;> (try simp only [decide_eq_true_eq, decide_eq_false_iff_not, Bool.not_eq_true', Bool.not_eq_false', Bool.and_eq_true, Bool.or_eq_true, Bool.and_eq_false_iff, Bool.or_eq_false_iff, Bool.not_eq_true, Bool.not_eq_false, Int.not_lt, Int.not_le, List.length_map, beq_self_eq_true, Bool.true_eq_false, Bool.false_eq_true] at h) <;> (try (exfalso; first | contradiction | omega))))
    all_goals first | (exfalso; omega) | skip
    rw [List.append_nil] at hp
    exact RetR.own (ob' := [grV L]) ⟨[0], [0], 1⟩ (.inr rfl) rfl (by first | trivial | exact resOK_of (E := env) rfl) rfl rfl rfl rfl rfl rfl ⟨rfl, trivial⟩ rfl ⟨rfl, S1, hp.symm, hs, by rw [hL, List.append_nil]⟩
  | x :: U =>
    have hX0 : X.length ≠ 0 := by simp at hpl; omega
    rw [if_neg hX0] at hi
    have h0 := h0 hX0
    have hxf : x.fine := hf x (hp.mem_iff.1 (by simp))
    simp only [List.length_cons] at hpl
    repeat' (first | refine W.seq ?_ | refine W.rg ?_ | refine W.dra' ?_ | refine W.block ?_ | refine W.skip ?_ | refine W.exit ?_ | refine W.cond_true' ?_ | refine W.cond_false' ?_ | refine WG.nil ?_ | refine WG.run' (E := env) ?_ | refine WG.gt' ?_ | refine WG.gf' ?_ | refine WG.ixm' (E := env) ?_ | refine WG.ixo' (E := env) ?_ | refine WG.legm' (E := env) ?_ | refine WG.slS' (E := env) ?_ | refine WG.slD' (E := env) ?_ | refine WG.ap' (E := env) ?_ | refine WD.nil ?_ | refine WD.bs' (E := env) ?_ | refine WD.s' (E := env) (t := .d _) ?_ | refine WD.p' ?_ | refine WD.px' ?_ | refine WD.s' (E := env) (t := .ea _ _) ?_ | refine WD.s' (E := env) (t := .lp _ _) ?_ | refine WD.s' (E := env) (t := .og _ _) ?_ | refine WD.s' (E := env) (t := .agg _) ?_ | refine WD.s' (E := env) (t := .tup _) ?_ | refine WD.s' (E := env) (t := .clo _ _) ?_ | refine WD.ixm' (E := env) ?_ | refine WD.ixo' (E := env) ?_ | refine WD.legm' (E := env) ?_ | refine WD.slS' (E := env) ?_ | refine WD.slD' (E := env) ?_ | ((first | refine WG.sp' (fun h => ?_) fun h => ?_ | refine W.cond' (fun h => ?_) fun h => ?_ | refine WD.sp' (fun h => ?_) fun h => ?_) <;> (try simp only [decide_eq_true_eq, decide_eq_false_iff_not, Bool.not_eq_true', Bool.not_eq_false', Bool.and_eq_true, Bool.or_eq_true, Bool.and_eq_false_iff, Bool.or_eq_false_iff, Bool.not_eq_true, Bool.not_eq_false, Int.not_lt, Int.not_le, List.length_map, beq_self_eq_true, Bool.true_eq_false, Bool.false_eq_true] at h) <;> (try (exfalso; first | contradiction | omega))))
    refine W.loopI (fun m S => ∃ (P Q L : List V) (j : Int), m = P.length ∧ (L = A ++ P ++ x :: (Q ++ U ++ B) ∧ P ++ Q = S1 ∧ (∀ y ∈ Q, V.le x y) ∧ j = A.length + P.length) ∧
      S = ⟨ofL [(0, .og 0 0), (1, vI .i64 ia), (2, vI .i64 ib), (3, cmpT), (8, vI .i64 i), (9, vI .i64 j)], [grV L]⟩) _ _
      ⟨S1, [], L, i, rfl, ⟨by rw [hL]; simp, by simp, by simp, by omega⟩, rfl⟩ (St.imp.of_le (by (refine le_ofL rfl ?_ ?_ <;> (repeat (first | exact trivial | refine ⟨⟨rfl, rfl⟩, ?_⟩ | refine ⟨rfl, .inl rfl, ?_⟩ | refine ⟨rfl, .inr rfl, ?_⟩))))) ?_
    rintro m S ⟨P, Q, L, j, rfl, ⟨hL2, hPQ, hQ, hj⟩, rfl⟩
    have hpq : P.length + Q.length = S1.length := by rw [← hPQ]; simp
    have hLl2 : L.length = A.length + X.length + B.length := by rw [hL2]; simp; omega
    have hRl : (rwV L).length = L.length := by simp
    have fin : (∀ y ∈ P, V.le y x) → (P ++ x :: Q ++ U).Perm X ∧ Srt (P ++ x :: Q) := fun hPx => by
      refine ⟨List.Perm.trans ?_ hp, Srt.ins (by rw [hPQ]; exact hs) hPx hQ⟩
      rw [← hPQ, List.append_assoc, List.append_assoc, List.cons_append]
      exact List.Perm.append_left _ (List.perm_middle.symm)
    rcases List.eq_nil_or_concat P with hP | ⟨P', y, hP⟩
    · subst hP
      obtain ⟨f1, f2⟩ := fin (by simp)
      simp only [List.length_nil] at hj hpq
      repeat' (first | refine W.seq ?_ | refine W.rg ?_ | refine W.dra' ?_ | refine W.block ?_ | refine W.skip ?_ | refine W.exit ?_ | refine W.cond_true' ?_ | refine W.cond_false' ?_ | refine WG.nil ?_ | refine WG.run' (E := env) ?_ | refine WG.gt' ?_ | refine WG.gf' ?_ | refine WG.ixm' (E := env) ?_ | refine WG.ixo' (E := env) ?_ | refine WG.legm' (E := env) ?_ | refine WG.slS' (E := env) ?_ | refine WG.slD' (E := env) ?_ | refine WG.ap' (E := env) ?_ | refine WD.nil ?_ | refine WD.bs' (E := env) ?_ | refine WD.s' (E := env) (t := .d _) ?_ | refine WD.p' ?_ | refine WD.px' ?_ | refine WD.s' (E := env) (t := .ea _ _) ?_ | refine WD.s' (E := env) (t := .lp _ _) ?_ | refine WD.s' (E := env) (t := .og _ _) ?_ | refine WD.s' (E := env) (t := .agg _) ?_ | refine WD.s' (E := env) (t := .tup _) ?_ | refine WD.s' (E := env) (t := .clo _ _) ?_ | refine WD.ixm' (E := env) ?_ | refine WD.ixo' (E := env) ?_ | refine WD.legm' (E := env) ?_ | refine WD.slS' (E := env) ?_ | refine WD.slD' (E := env) ?_ | ((first | refine WG.sp' (fun h => ?_) fun h => ?_ | refine W.cond' (fun h => ?_) fun h => ?_ | refine WD.sp' (fun h => ?_) fun h => ?_) <;> (try simp only [decide_eq_true_eq, decide_eq_false_iff_not, Bool.not_eq_true', Bool.not_eq_false', Bool.and_eq_true, Bool.or_eq_true, Bool.and_eq_false_iff, Bool.or_eq_false_iff, Bool.not_eq_true, Bool.not_eq_false, Int.not_lt, Int.not_le, List.length_map, beq_self_eq_true, Bool.true_eq_false, Bool.false_eq_true] at h) <;> (try (exfalso; first | contradiction | omega))))
      all_goals first | (exfalso; omega) | skip
      exact ⟨_, _, by simp, ⟨[] ++ x :: Q, U, L, i + 1, rfl, ⟨by rw [hL2]; simp, f1, f2, by rw [if_neg hX0]; simp; omega, fun _ => by simp⟩, rfl⟩, (St.imp.of_le (by (refine le_ofL rfl ?_ ?_ <;> (repeat (first | exact trivial | refine ⟨⟨rfl, rfl⟩, ?_⟩ | refine ⟨rfl, .inl rfl, ?_⟩ | refine ⟨rfl, .inr rfl, ?_⟩)))))⟩
    · have hPl : P.length = P'.length + 1 := by rw [hP]; simp
      have i1 : Int.toNat j = A.length + P'.length + 1 := by omega
      have i2 : Int.toNat (j - 1) = A.length + P'.length := by omega
      have eL : L = (A ++ P') ++ y :: x :: (Q ++ U ++ B) := by rw [hL2, hP]; simp
      have g1 : L.getD (Int.toNat j) default = x := by rw [i1, eL]; simp [List.getD_eq_getElem?_getD, List.getElem?_append_right, Nat.add_assoc]; rfl
      have g2 : L.getD (Int.toNat (j - 1)) default = y := by rw [i2, eL]; simp [List.getD_eq_getElem?_getD, List.getElem?_append_right, Nat.add_assoc]; rfl
      have hc := sortCmp_fn x y hxf
      rw [← g1, ← g2] at hc
      have h1 : (rwV L)[Int.toNat j]? = some (V.rowP x) := by rw [rwV_at (by omega), g1]
      have h2 : (rwV L)[Int.toNat (j - 1)]? = some (V.rowP y) := by rw [rwV_at (by omega), g2]
      have h3 : ((rwV L).set (Int.toNat j) (V.rowP y))[Int.toNat (j - 1)]? = some (V.rowP y) := by rw [List.getElem?_set_ne (by omega)]; exact h2
      have he : ((rwV L).set (Int.toNat j) (V.rowP y)).set (Int.toNat (j - 1)) (V.rowP x) = rwV (A ++ P' ++ x :: (y :: Q ++ U ++ B)) := by
        have := rwV_swp L (Int.toNat j) (Int.toNat (j - 1))
        rw [g1, g2] at this
        rw [this, i1, i2]
        have e2 := swp_next (A ++ P') y x (Q ++ U ++ B) (A.length + P'.length) (A.length + P'.length + 1) (by simp) (by simp)
        have e3 : swp L (A.length + P'.length + 1) (A.length + P'.length) = swp L (A.length + P'.length) (A.length + P'.length + 1) := by
          unfold swp
          exact List.set_comm _ _ (by omega)
        rw [e3, eL, e2]
        simp
      generalize hc2 : V.cmp (L.getD (Int.toNat j) default) (L.getD (Int.toNat (j - 1)) default) = c at hc
      rw [g1, g2] at hc2
      repeat' (first | refine WD.cl (E := env) (t' := .d (dI c)) false rfl rfl hc rfl rfl rfl rfl (fun h => nomatch h) rfl ?_ | (refine W.dre' (id := 6) [15, 17] (fun f => bif bt f 2 then [.gr 5 112 (((rwV L).set (Int.toNat j) (V.rowP y)).set (Int.toNat (j - 1)) (V.rowP x)) 0 false] else bif bt f 1 then [.gr 5 112 ((rwV L).set (Int.toNat j) (V.rowP y)) 0 false] else [.gr 5 112 (rwV L) 0 false]) [(0, [0]), (0, [0]), (0, [0, 1]), (0, [0, 1]), (0, [0, 1]), (0, [0]), (0, [0]), (0, [0]), (0, [0]), (0, [0]), (0, [0]), (0, [0]), (0, [0]), (0, [0]), (0, [0]), (1, [0]), (0, [1]), (2, [1])] [.gr 5 112 (((rwV L).set (Int.toNat j) (V.rowP y)).set (Int.toNat (j - 1)) (V.rowP x)) 0 false] ?_) | refine WE.nil ?_ | refine WE.ixP' ?_ | refine WE.s' (E := env) (t := .d _) ?_ | refine WE.p' ?_ | refine WE.px' ?_ | refine WE.s' (E := env) (t := .lp _ _) ?_ | refine WE.s' (E := env) (t := .og _ _) ?_ | refine WE.s' (E := env) (t := .ea _ _) ?_ | refine WE.s' (E := env) (t := .agg _) ?_ | refine WE.s' (E := env) (t := .tup _) ?_ | refine WE.ixm' (E := env) ?_ | refine WE.ixo' (E := env) ?_ | refine WE.leg' (E := env) ?_ | refine WE.slS' (E := env) ?_ | refine WE.slD' (E := env) ?_ | refine WE.ap' (E := env) ?_ | refine WE.st' (E := env) ?_ | refine WE.seg' (E := env) ?_ | refine WE.bs' (E := env) ?_ | refine W.seq ?_ | refine W.rg ?_ | refine W.dra' ?_ | refine W.block ?_ | refine W.skip ?_ | refine W.exit ?_ | refine W.cond_true' ?_ | refine W.cond_false' ?_ | refine WG.nil ?_ | refine WG.run' (E := env) ?_ | refine WG.gt' ?_ | refine WG.gf' ?_ | refine WG.ixm' (E := env) ?_ | refine WG.ixo' (E := env) ?_ | refine WG.legm' (E := env) ?_ | refine WG.slS' (E := env) ?_ | refine WG.slD' (E := env) ?_ | refine WG.ap' (E := env) ?_ | refine WD.nil ?_ | refine WD.bs' (E := env) ?_ | refine WD.s' (E := env) (t := .d _) ?_ | refine WD.p' ?_ | refine WD.px' ?_ | refine WD.s' (E := env) (t := .ea _ _) ?_ | refine WD.s' (E := env) (t := .lp _ _) ?_ | refine WD.s' (E := env) (t := .og _ _) ?_ | refine WD.s' (E := env) (t := .agg _) ?_ | refine WD.s' (E := env) (t := .tup _) ?_ | refine WD.s' (E := env) (t := .clo _ _) ?_ | refine WD.ixm' (E := env) ?_ | refine WD.ixo' (E := env) ?_ | refine WD.legm' (E := env) ?_ | refine WD.slS' (E := env) ?_ | refine WD.slD' (E := env) ?_ | fail | ((first | refine WG.sp' (fun h => ?_) fun h => ?_ | refine W.cond' (fun h => ?_) fun h => ?_ | refine WD.sp' (fun h => ?_) fun h => ?_) <;> (try simp only [decide_eq_true_eq, decide_eq_false_iff_not, Bool.not_eq_true', Bool.not_eq_false', Bool.and_eq_true, Bool.or_eq_true, Bool.and_eq_false_iff, Bool.or_eq_false_iff, Bool.not_eq_true, Bool.not_eq_false, Int.not_lt, Int.not_le, List.length_map, beq_self_eq_true, Bool.true_eq_false, Bool.false_eq_true] at h) <;> (try (exfalso; first | contradiction | omega))))
      · rw [he]
        exact ⟨_, _, by omega, ⟨P', y :: Q, A ++ P' ++ x :: (y :: Q ++ U ++ B), j - 1, rfl, ⟨by simp, by rw [← hPQ, hP]; simp, fun z hz => by
          rcases List.mem_cons.1 hz with rfl | hz
          · exact V.le_of_lt (by omega)
          · exact hQ z hz, by omega⟩, rfl⟩, (St.imp.of_le (by (refine le_ofL rfl ?_ ?_ <;> (repeat (first | exact trivial | refine ⟨⟨rfl, rfl⟩, ?_⟩ | refine ⟨rfl, .inl rfl, ?_⟩ | refine ⟨rfl, .inr rfl, ?_⟩)))))⟩
      · have hyx : V.le y x := V.le_total (by omega)
        obtain ⟨f1, f2⟩ := fin fun z hz => by
          have hs2 : Srt P := (Srt.app.1 (by rw [hPQ]; exact hs)).1
          have hlast : P[P.length - 1]? = some y := by rw [hPl, hP]; simp
          exact V.le_trans (hs2.last hlast hz) hyx
        exact ⟨_, _, by simp, ⟨P ++ x :: Q, U, L, i + 1, rfl, ⟨by rw [hL2]; simp, f1, f2, by rw [if_neg hX0]; simp; omega, fun _ => by simp; try omega⟩, rfl⟩, (St.imp.of_le (by (refine le_ofL rfl ?_ ?_ <;> (repeat (first | exact trivial | refine ⟨⟨rfl, rfl⟩, ?_⟩ | refine ⟨rfl, .inl rfl, ?_⟩ | refine ⟨rfl, .inr rfl, ?_⟩)))))⟩

end Go.Proofs.Ytlegadpbjccelaa
