/-
  The library's stable sort of values, walked: merging. Conditions: at most 4096 values, each fine.
-/
import Derived.Test.YtlegadpbjccelaaQSortsSt7
set_option linter.unusedVariables false
set_option linter.unusedSimpArgs false
set_option maxRecDepth 100000
namespace Go.Proofs.Ytlegadpbjccelaa
open Go.RowKit

/-- Where the middle is sought. -/
def mgI (L : List V) (ia im ib mid : Int) (M s0 r0 : Nat) : Nat → St → Prop := fun w S => ∃ (sn rn : Nat) (s r : Int), w = rn - sn ∧ (s = sn ∧ r = rn ∧ s0 ≤ sn ∧ sn ≤ rn ∧ rn ≤ r0 ∧ (sn = s0 ∨ (s0 < sn ∧ ¬ V.cmp (L.getD (M - sn) default) (L.getD (sn - 1) default) < 0)) ∧ (rn = r0 ∨ (rn < r0 ∧ V.cmp (L.getD (M - 1 - rn) default) (L.getD rn default) < 0))) ∧
  S = ⟨ofL [(0, .og 0 0), (1, vI .i64 ia), (2, vI .i64 im), (3, vI .i64 ib), (4, cmpT), (18, vI .i64 mid), (19, vI .i64 (mid + im)), (20, vI .i64 s), (21, vI .i64 r), (22, vI .i64 (mid + im - 1))], [grV L]⟩

theorem getD_app2 {A B : List V} {i : Nat} (h : A.length ≤ i) : (A ++ B).getD i default = B.getD (i - A.length) default := by
  rw [List.getD_eq_getElem?_getD, List.getElem?_append_right h, List.getD_eq_getElem?_getD]
theorem getD_app1 {A B : List V} {i : Nat} (h : i < A.length) : (A ++ B).getD i default = A.getD i default := by
  rw [List.getD_eq_getElem?_getD, List.getElem?_append_left h, List.getD_eq_getElem?_getD]
theorem getD_some {A : List V} {i : Nat} (h : i < A.length) : A[i]? = some (A.getD i default) := by simp [h]

set_option maxHeartbeats 16000000 in
theorem symMerge_fn : ∀ (n : Nat) (A X Y B : List V) (ia im ib : Int), X.length + Y.length ≤ n → ia = A.length → im = A.length + X.length → ib = A.length + X.length + Y.length → 0 < X.length → 0 < Y.length → A.length + X.length + Y.length + B.length ≤ 4096 →
    Srt X → Srt Y → (∀ v ∈ X, v.fine) → (∀ v ∈ Y, v.fine) →
    FunQ env.P 306 [.og 0 0, vI .i64 ia, vI .i64 im, vI .i64 ib, cmpT] [grV (A ++ X ++ Y ++ B)] (sorts A (X ++ Y) B) := by
  intro n
  induction n with
  | zero => intro A X Y B ia im ib h _ _ _ hx; omega
  | succ n ih =>
  intro A X Y B ia im ib hn ha hm hb hx hy hl sX sY fX fY
  by_cases hx1 : X.length = 1
  · obtain ⟨x, rfl⟩ := List.length_eq_one_iff.1 hx1
    have h := symMerge1_fn A x Y B ia im ib ha (by simpa using hm) (by simpa using hb) (by simpa using hl) sY fY
    have e1 : A ++ [x] ++ Y ++ B = A ++ x :: Y ++ B := by simp
    rw [e1]
    exact h
  by_cases hy1 : Y.length = 1
  · obtain ⟨y, rfl⟩ := List.length_eq_one_iff.1 hy1
    have h := symMerge2_fn A X y B ia im ib ha hm (by simpa using hb) (by omega) (by simpa using hl) sX (fY y (by simp))
    have e1 : A ++ X ++ [y] ++ B = A ++ X ++ y :: B := by simp
    rw [e1]
    exact h
  refine FunQ.intro Try.func306 rfl (by kernel_rfl) rfl ?_
  generalize hL : A ++ X ++ Y ++ B = L
  have hLl : L.length = A.length + X.length + Y.length + B.length := by rw [← hL]; simp; omega
  have hRl : (rwV L).length = L.length := by simp
  have gX : ∀ i, A.length ≤ i → i < A.length + X.length → L.getD i default = X.getD (i - A.length) default := fun i h1 h2 => by
    rw [← hL, List.append_assoc, List.append_assoc, getD_app2 h1, getD_app1 (by omega)]
  have gY : ∀ i, A.length + X.length ≤ i → i < A.length + X.length + Y.length → L.getD i default = Y.getD (i - A.length - X.length) default := fun i h1 h2 => by
    rw [← hL, List.append_assoc, List.append_assoc, getD_app2 (by omega), getD_app2 (by omega), getD_app1 (by omega)]
  obtain ⟨mn, hmn⟩ : ∃ mn, mn = (A.length + (A.length + X.length + Y.length)) / 2 := ⟨_, rfl⟩
  obtain ⟨mid, hmid⟩ : ∃ mid : Int, mid = mn := ⟨_, rfl⟩
  obtain ⟨M, hM⟩ : ∃ M, M = mn + (A.length + X.length) := ⟨_, rfl⟩
  have hdv : (ia + ib) / 2 ^ Int.toNat 1 = mid := by
    rw [ha, hb, hmid, hmn]
    show _ / (2 : Int) ^ 1 = _
    omega
  obtain ⟨s0, r0, hc1, hs1, hs2, hr1, hr2⟩ : ∃ s0 r0 : Nat, ((mid < im ∧ (s0 : Int) = mid + im - ib ∧ (r0 : Int) = mid) ∨ (¬ mid < im ∧ (s0 : Int) = ia ∧ (r0 : Int) = im)) ∧ A.length ≤ s0 ∧ s0 ≤ r0 ∧ r0 ≤ A.length + X.length ∧ r0 ≤ mn := by
    by_cases h : mid < im
    · exact ⟨M - (A.length + X.length + Y.length), mn, .inl ⟨h, by omega, by omega⟩, by omega, by omega, by omega, by omega⟩
    · exact ⟨A.length, A.length + X.length, .inr ⟨h, by omega, by omega⟩, by omega, by omega, by omega, by omega⟩
  have hs0 : s0 = A.length ∨ M - s0 = A.length + X.length + Y.length := by omega
  have hr0 : r0 = A.length + X.length ∨ M - r0 = A.length + X.length := by omega
  have hMs : M - s0 ≤ A.length + X.length + Y.length := by omega
  repeat' (first | refine WG.shr rfl rfl rfl rfl ⟨by decide, by decide⟩ hdv ?_ | refine W.seq ?_ | refine W.rg ?_ | refine W.dra' ?_ | refine W.block ?_ | refine W.skip ?_ | refine W.exit ?_ | refine W.cond_true' ?_ | refine W.cond_false' ?_ | refine WG.nil ?_ | refine WG.run' (E := env) ?_ | refine WG.gt' ?_ | refine WG.gf' ?_ | refine WG.ixm' (E := env) ?_ | refine WG.ixo' (E := env) ?_ | refine WG.legm' (E := env) ?_ | refine WG.slS' (E := env) ?_ | refine WG.slD' (E := env) ?_ | refine WG.ap' (E := env) ?_ | refine WD.nil ?_ | refine WD.bs' (E := env) ?_ | refine WD.s' (E := env) (t := .d _) ?_ | refine WD.p' ?_ | refine WD.px' ?_ | refine WD.s' (E := env) (t := .ea _ _) ?_ | refine WD.s' (E := env) (t := .lp _ _) ?_ | refine WD.s' (E := env) (t := .og _ _) ?_ | refine WD.s' (E := env) (t := .agg _) ?_ | refine WD.s' (E := env) (t := .tup _) ?_ | refine WD.s' (E := env) (t := .clo _ _) ?_ | refine WD.ixm' (E := env) ?_ | refine WD.ixo' (E := env) ?_ | refine WD.legm' (E := env) ?_ | refine WD.slS' (E := env) ?_ | refine WD.slD' (E := env) ?_ | fail | ((first | refine WG.sp' (fun h => ?_) fun h => ?_ | refine W.cond' (fun h => ?_) fun h => ?_ | refine WD.sp' (fun h => ?_) fun h => ?_) <;> (try simp only [decide_eq_true_eq, decide_eq_false_iff_not, Bool.not_eq_true', Bool.not_eq_false', Bool.and_eq_true, Bool.or_eq_true, Bool.and_eq_false_iff, Bool.or_eq_false_iff, Bool.not_eq_true, Bool.not_eq_false, Int.not_lt, Int.not_le, List.length_map, beq_self_eq_true, Bool.true_eq_false, Bool.false_eq_true] at h) <;> (try (exfalso; first | contradiction | omega))))
  all_goals first | (exfalso; omega) | skip
  all_goals first
    | refine W.loopI (mgI L ia im ib mid M s0 r0) _ _ ⟨s0, r0, mid + im - ib, mid, rfl, ⟨by omega, by omega, by omega, by omega, by omega, .inl rfl, .inl rfl⟩, rfl⟩ (St.imp.of_le (by (refine le_ofL rfl ?_ ?_ <;> (repeat (first | exact trivial | refine ⟨⟨rfl, rfl⟩, ?_⟩ | refine ⟨rfl, .inl rfl, ?_⟩ | refine ⟨rfl, .inr rfl, ?_⟩))))) ?_
    | refine W.loopI (mgI L ia im ib mid M s0 r0) _ _ ⟨s0, r0, ia, im, rfl, ⟨by omega, by omega, by omega, by omega, by omega, .inl rfl, .inl rfl⟩, rfl⟩ (St.imp.of_le (by (refine le_ofL rfl ?_ ?_ <;> (repeat (first | exact trivial | refine ⟨⟨rfl, rfl⟩, ?_⟩ | refine ⟨rfl, .inl rfl, ?_⟩ | refine ⟨rfl, .inr rfl, ?_⟩))))) ?_
  all_goals (
    rintro m S ⟨sn, rn, s, r, rfl, ⟨hs, hr, k1, k2, k3, k4, k5⟩, rfl⟩
    by_cases hlt : sn < rn
    · obtain ⟨cn, hcn⟩ : ∃ cn, cn = (sn + rn) / 2 := ⟨_, rfl⟩
      obtain ⟨cc, hcc⟩ : ∃ cc : Int, cc = cn := ⟨_, rfl⟩
      have hdv2 : (s + r) / 2 ^ Int.toNat 1 = cc := by
        rw [hs, hr, hcc, hcn]
        show _ / (2 : Int) ^ 1 = _
        omega
      have i1 : Int.toNat (mid + im - 1 - cc) = M - 1 - cn := by omega
      have i2 : Int.toNat cc = cn := by omega
      have hfv : (L.getD (M - 1 - cn) default).fine := by rw [gY _ (by omega) (by omega)]; exact fY _ (getD_mem' (by omega))
      have hc := sortCmp_fn (L.getD (M - 1 - cn) default) (L.getD cn default) hfv
      generalize hc2 : V.cmp (L.getD (M - 1 - cn) default) (L.getD cn default) = c at hc
      rw [← i1, ← i2] at hc
      repeat' (first | refine WG.shr rfl rfl rfl rfl ⟨by decide, by decide⟩ hdv2 ?_ | refine WD.cl (E := env) (t' := .d (dI c)) false rfl rfl hc rfl rfl rfl rfl (fun h => nomatch h) rfl ?_ | refine W.seq ?_ | refine W.rg ?_ | refine W.dra' ?_ | refine W.block ?_ | refine W.skip ?_ | refine W.exit ?_ | refine W.cond_true' ?_ | refine W.cond_false' ?_ | refine WG.nil ?_ | refine WG.run' (E := env) ?_ | refine WG.gt' ?_ | refine WG.gf' ?_ | refine WG.ixm' (E := env) ?_ | refine WG.ixo' (E := env) ?_ | refine WG.legm' (E := env) ?_ | refine WG.slS' (E := env) ?_ | refine WG.slD' (E := env) ?_ | refine WG.ap' (E := env) ?_ | refine WD.nil ?_ | refine WD.bs' (E := env) ?_ | refine WD.s' (E := env) (t := .d _) ?_ | refine WD.p' ?_ | refine WD.px' ?_ | refine WD.s' (E := env) (t := .ea _ _) ?_ | refine WD.s' (E := env) (t := .lp _ _) ?_ | refine WD.s' (E := env) (t := .og _ _) ?_ | refine WD.s' (E := env) (t := .agg _) ?_ | refine WD.s' (E := env) (t := .tup _) ?_ | refine WD.s' (E := env) (t := .clo _ _) ?_ | refine WD.ixm' (E := env) ?_ | refine WD.ixo' (E := env) ?_ | refine WD.legm' (E := env) ?_ | refine WD.slS' (E := env) ?_ | refine WD.slD' (E := env) ?_ | fail | ((first | refine WG.sp' (fun h => ?_) fun h => ?_ | refine W.cond' (fun h => ?_) fun h => ?_ | refine WD.sp' (fun h => ?_) fun h => ?_) <;> (try simp only [decide_eq_true_eq, decide_eq_false_iff_not, Bool.not_eq_true', Bool.not_eq_false', Bool.and_eq_true, Bool.or_eq_true, Bool.and_eq_false_iff, Bool.or_eq_false_iff, Bool.not_eq_true, Bool.not_eq_false, Int.not_lt, Int.not_le, List.length_map, beq_self_eq_true, Bool.true_eq_false, Bool.false_eq_true] at h) <;> (try (exfalso; first | contradiction | omega))))
      all_goals first
        | (have hcx : ¬ V.cmp (L.getD (M - 1 - cn) default) (L.getD cn default) < 0 := by omega
           refine ⟨_, _, ?_, ⟨cn + 1, rn, cc + 1, r, rfl, ⟨by omega, by omega, by omega, by omega, by omega, .inr ⟨by omega, by rw [show M - (cn + 1) = M - 1 - cn by omega, Nat.add_sub_cancel]; exact hcx⟩, k5⟩, rfl⟩, (St.imp.of_le (by (refine le_ofL rfl ?_ ?_ <;> (repeat (first | exact trivial | refine ⟨⟨rfl, rfl⟩, ?_⟩ | refine ⟨rfl, .inl rfl, ?_⟩ | refine ⟨rfl, .inr rfl, ?_⟩)))))⟩
           omega)
        | (have hcx : V.cmp (L.getD (M - 1 - cn) default) (L.getD cn default) < 0 := by omega
           refine ⟨_, _, ?_, ⟨sn, cn, s, cc, rfl, ⟨by omega, by omega, by omega, by omega, by omega, k4, .inr ⟨by omega, hcx⟩⟩, rfl⟩, (St.imp.of_le (by (refine le_ofL rfl ?_ ?_ <;> (repeat (first | exact trivial | refine ⟨⟨rfl, rfl⟩, ?_⟩ | refine ⟨rfl, .inl rfl, ?_⟩ | refine ⟨rfl, .inr rfl, ?_⟩)))))⟩
           omega)
    · obtain rfl : sn = rn := by omega
      have ex := (List.take_append_drop (sn - A.length) X).symm
      have ey := (List.take_append_drop (M - sn - A.length - X.length) Y).symm
      have l1 : (X.take (sn - A.length)).length = sn - A.length := by rw [List.length_take]; omega
      have l2 : (X.drop (sn - A.length)).length = A.length + X.length - sn := by rw [List.length_drop]; omega
      have l3 : (Y.take (M - sn - A.length - X.length)).length = M - sn - A.length - X.length := by rw [List.length_take]; omega
      have l4 : (Y.drop (M - sn - A.length - X.length)).length = A.length + X.length + Y.length - (M - sn) := by rw [List.length_drop]; omega
      have hx0 : X.length = X.length := rfl
      generalize hX1 : X.take (sn - A.length) = X1 at ex l1
      generalize hX2 : X.drop (sn - A.length) = X2 at ex l2
      generalize hY1 : Y.take (M - sn - A.length - X.length) = Y1 at ey l3
      generalize hY2 : Y.drop (M - sn - A.length - X.length) = Y2 at ey l4
      obtain ⟨xl, hxl⟩ : ∃ xl, xl = X.length := ⟨_, rfl⟩
      obtain ⟨yl, hyl⟩ : ∃ yl, yl = Y.length := ⟨_, rfl⟩
      obtain ⟨al, hal⟩ : ∃ al, al = A.length := ⟨_, rfl⟩
      rw [← hxl, ← hal] at l2 l3 l4
      rw [← hyl] at l4
      rw [← hal] at l1
      have hxx : xl = X1.length + X2.length := by rw [hxl, ex, List.length_append]
      have hyy : yl = Y1.length + Y2.length := by rw [hyl, ey, List.length_append]
      have h1 : X1 = [] ∨ Y2 = [] ∨ ∃ x y, X1[X1.length - 1]? = some x ∧ Y2[0]? = some y ∧ V.le x y := by
        rcases k4 with h | ⟨h, h'⟩
        · rcases hs0 with h0 | h0
          · exact .inl (List.eq_nil_of_length_eq_zero (by omega))
          · exact .inr (.inl (List.eq_nil_of_length_eq_zero (by omega)))
        · refine .inr (.inr ⟨_, _, getD_some (by omega), getD_some (by omega), ?_⟩)
          have q1 : L.getD (sn - 1) default = X1.getD (X1.length - 1) default := by
            rw [gX _ (by omega) (by omega), ex, getD_app1 (by omega)]
            congr 1; omega
          have q2 : L.getD (M - sn) default = Y2.getD 0 default := by
            rw [gY _ (by omega) (by omega), ey, getD_app2 (by omega)]
            congr 1; omega
          rw [← q1, ← q2]
          exact V.le_total h'
      have h2 : Y1 = [] ∨ X2 = [] ∨ ∃ y x, Y1[Y1.length - 1]? = some y ∧ X2[0]? = some x ∧ V.le y x := by
        rcases k5 with h | ⟨h, h'⟩
        · rcases hr0 with h0 | h0
          · exact .inr (.inl (List.eq_nil_of_length_eq_zero (by omega)))
          · exact .inl (List.eq_nil_of_length_eq_zero (by omega))
        · refine .inr (.inr ⟨_, _, getD_some (by omega), getD_some (by omega), ?_⟩)
          have q1 : L.getD (M - 1 - sn) default = Y1.getD (Y1.length - 1) default := by
            rw [gY _ (by omega) (by omega), ey, getD_app1 (by omega)]
            congr 1; omega
          have q2 : L.getD sn default = X2.getD 0 default := by
            rw [gX _ (by omega) (by omega), ex, getD_app2 (by omega)]
            congr 1; omega
          rw [← q1, ← q2]
          exact V.le_of_lt h'
      clear gX gY k4 k5 hX1 hX2 hY1 hY2
      have fX1 : ∀ v ∈ X1, v.fine := fun v hv => fX v (by rw [ex]; exact List.mem_append_left _ hv)
      have fX2 : ∀ v ∈ X2, v.fine := fun v hv => fX v (by rw [ex]; exact List.mem_append_right _ hv)
      have fY1 : ∀ v ∈ Y1, v.fine := fun v hv => fY v (by rw [ey]; exact List.mem_append_left _ hv)
      have fY2 : ∀ v ∈ Y2, v.fine := fun v hv => fY v (by rw [ey]; exact List.mem_append_right _ hv)
      rw [ex] at sX
      rw [ey] at sY
      obtain ⟨sX1, sX2, _⟩ := Srt.app.1 sX
      obtain ⟨sY1, sY2, _⟩ := Srt.app.1 sY
      have fin : ∀ Z W, (X1 ++ Y1).Perm Z → Srt Z → (X2 ++ Y2).Perm W → Srt W → sorts A (X ++ Y) B (.tup []) [grV (A ++ (Z ++ W) ++ B)] := fun Z W p1 p2 p3 p4 => by
        obtain ⟨g1, g2⟩ := merge_cut sX sY h1 h2 p1 p3 p2 p4
        refine ⟨rfl, Z ++ W, ?_, g2, rfl⟩
        rw [ex, ey]
        exact g1
      have hz0 : (X1.length = 0 ∨ Y1.length = 0) → Srt (X1 ++ Y1) := fun h => by
        rcases h with h | h
        · rw [List.eq_nil_of_length_eq_zero h]; exact sY1
        · rw [List.eq_nil_of_length_eq_zero h, List.append_nil]; exact sX1
      have hw0 : (X2.length = 0 ∨ Y2.length = 0) → Srt (X2 ++ Y2) := fun h => by
        rcases h with h | h
        · rw [List.eq_nil_of_length_eq_zero h]; exact sY2
        · rw [List.eq_nil_of_length_eq_zero h, List.append_nil]; exact sX2
      obtain ⟨L1, hL1⟩ : ∃ L1, A ++ (X1 ++ Y1) ++ (X2 ++ (Y2 ++ B)) = L1 := ⟨_, rfl⟩
      have hLr : A ++ X1 ++ X2 ++ Y1 ++ (Y2 ++ B) = L := by rw [← hL, ex, ey]; simp
      have hLr2 : A ++ X1 ++ Y1 ++ X2 ++ (Y2 ++ B) = L1 := by rw [← hL1]; simp
      have hm1 := fun (g1 : 0 < X1.length) (g2 : 0 < Y1.length) => ih A X1 Y1 (X2 ++ (Y2 ++ B)) ia s mid (by omega) ha (by omega) (by omega) g1 g2 (by simp; omega) sX1 sY1 fX1 fY1
      rw [show A ++ X1 ++ Y1 ++ (X2 ++ (Y2 ++ B)) = L1 by rw [← hL1]; simp] at hm1
      have hm2 : ∀ Z : List V, Z.length = X1.length + Y1.length → 0 < X2.length → 0 < Y2.length → FunQ env.P 306 [.og 0 0, vI .i64 mid, vI .i64 (mid + im - s), vI .i64 ib, cmpT] [grV (A ++ Z ++ (X2 ++ (Y2 ++ B)))] (sorts (A ++ Z) (X2 ++ Y2) B) := fun Z hZ g1 g2 => by
        have := ih (A ++ Z) X2 Y2 B mid (mid + im - s) ib (by omega) (by simp; omega) (by simp; omega) (by simp; omega) g1 g2 (by simp; omega) sX2 sY2 fX2 fY2
        rwa [show A ++ Z ++ X2 ++ Y2 ++ B = A ++ Z ++ (X2 ++ (Y2 ++ B)) by simp] at this
      have hm2b := hm2 (X1 ++ Y1) (by simp)
      rw [hL1] at hm2b
      by_cases hq : 0 < X2.length ∧ 0 < Y1.length
      · have hrot := rotate_fn (A ++ X1) X2 Y1 (Y2 ++ B) s im (mid + im - s) (by simp; omega) (by simp; omega) (by simp; omega) hq.1 hq.2 (by simp; omega)
        rw [hLr, hLr2] at hrot
        repeat' (first | refine W.seq ?_ | refine W.rg ?_ | refine W.dra' ?_ | refine W.block ?_ | refine W.skip ?_ | refine W.exit ?_ | refine W.cond_true' ?_ | refine W.cond_false' ?_ | refine WG.nil ?_ | refine WG.run' (E := env) ?_ | refine WG.gt' ?_ | refine WG.gf' ?_ | refine WG.ixm' (E := env) ?_ | refine WG.ixo' (E := env) ?_ | refine WG.legm' (E := env) ?_ | refine WG.slS' (E := env) ?_ | refine WG.slD' (E := env) ?_ | refine WG.ap' (E := env) ?_ | refine WD.nil ?_ | refine WD.bs' (E := env) ?_ | refine WD.s' (E := env) (t := .d _) ?_ | refine WD.p' ?_ | refine WD.px' ?_ | refine WD.s' (E := env) (t := .ea _ _) ?_ | refine WD.s' (E := env) (t := .lp _ _) ?_ | refine WD.s' (E := env) (t := .og _ _) ?_ | refine WD.s' (E := env) (t := .agg _) ?_ | refine WD.s' (E := env) (t := .tup _) ?_ | refine WD.s' (E := env) (t := .clo _ _) ?_ | refine WD.ixm' (E := env) ?_ | refine WD.ixo' (E := env) ?_ | refine WD.legm' (E := env) ?_ | refine WD.slS' (E := env) ?_ | refine WD.slD' (E := env) ?_ | (refine WG.cQ (E := env) [0] [0] false rfl rfl (hm1 (by omega) (by omega)) rfl rfl rfl rfl rfl rfl rfl ⟨rfl, trivial⟩ (.inl rfl) (fun t ob ⟨e1, X', _, _, e2⟩ => ⟨by subst e2; rfl, fun h => nomatch h⟩) ?_; rintro _ _ ⟨rfl, Z, hZp, hZs, rfl⟩; refine (show WG _ _ _ _ _ _ ⟨upd _ _ (.tup []), [grV (A ++ Z ++ (X2 ++ (Y2 ++ B)))]⟩ from ?_)) | (refine WG.cQ (E := env) [0] [0] false rfl rfl (hm2 Z (by have := hZp.length_eq; rw [List.length_append] at this; omega) (by omega) (by omega)) rfl rfl rfl rfl rfl rfl rfl ⟨rfl, trivial⟩ (.inl rfl) (fun t ob ⟨e1, X', _, _, e2⟩ => ⟨by subst e2; rfl, fun h => nomatch h⟩) ?_; rintro _ _ ⟨rfl, W, hWp, hWs, rfl⟩; refine (show WG _ _ _ _ _ _ ⟨upd _ _ (.tup []), [grV ((A ++ Z) ++ W ++ B)]⟩ from ?_)) | (refine WG.cQ (E := env) [0] [0] false rfl rfl (hm2b (by omega) (by omega)) rfl rfl rfl rfl rfl rfl rfl ⟨rfl, trivial⟩ (.inl rfl) (fun t ob ⟨e1, X', _, _, e2⟩ => ⟨by subst e2; rfl, fun h => nomatch h⟩) ?_; rintro _ _ ⟨rfl, W, hWp, hWs, rfl⟩; refine (show WG _ _ _ _ _ _ ⟨upd _ _ (.tup []), [grV ((A ++ (X1 ++ Y1)) ++ W ++ B)]⟩ from ?_)) | refine WG.cq (E := env) [0] [0] false rfl rfl (hrot) rfl rfl rfl rfl rfl rfl rfl (by first | exact trivial | exact ⟨rfl, trivial⟩ | exact ⟨rfl, rfl, trivial⟩) (.inl rfl) rfl (fun h => nomatch h) rfl rfl ?_ | refine WG.cqx (E := env) [0] [0] false rfl (hrot) rfl rfl rfl rfl rfl rfl rfl (by first | exact trivial | exact ⟨rfl, trivial⟩ | exact ⟨rfl, rfl, trivial⟩) (.inl rfl) rfl (fun h => nomatch h) rfl ?_ | ((first | refine WG.sp' (fun h => ?_) fun h => ?_ | refine W.cond' (fun h => ?_) fun h => ?_ | refine WD.sp' (fun h => ?_) fun h => ?_) <;> (try simp only [decide_eq_true_eq, decide_eq_false_iff_not, Bool.not_eq_true', Bool.not_eq_false', Bool.and_eq_true, Bool.or_eq_true, Bool.and_eq_false_iff, Bool.or_eq_false_iff, Bool.not_eq_true, Bool.not_eq_false, Int.not_lt, Int.not_le, List.length_map, beq_self_eq_true, Bool.true_eq_false, Bool.false_eq_true] at h) <;> (try (exfalso; first | contradiction | omega))))
        all_goals first | (exfalso; omega) | skip
        all_goals first | exact RetR.own (ob' := [grV ((A ++ Z) ++ W ++ B)]) ⟨[0], [0], 1⟩ (.inr rfl) rfl (by first | trivial | exact resOK_of (E := env) rfl) rfl rfl rfl rfl rfl rfl ⟨rfl, trivial⟩ rfl (by have := fin Z W hZp hZs hWp hWs; simpa [List.append_assoc] using this) | exact RetR.own (ob' := [grV (A ++ Z ++ (X2 ++ (Y2 ++ B)))]) ⟨[0], [0], 1⟩ (.inr rfl) rfl (by first | trivial | exact resOK_of (E := env) rfl) rfl rfl rfl rfl rfl rfl ⟨rfl, trivial⟩ rfl (by have := fin Z (X2 ++ Y2) hZp hZs (List.Perm.refl _) (hw0 (by omega)); simpa [List.append_assoc] using this) | exact RetR.own (ob' := [grV ((A ++ (X1 ++ Y1)) ++ W ++ B)]) ⟨[0], [0], 1⟩ (.inr rfl) rfl (by first | trivial | exact resOK_of (E := env) rfl) rfl rfl rfl rfl rfl rfl ⟨rfl, trivial⟩ rfl (by have := fin (X1 ++ Y1) W (List.Perm.refl _) (hz0 (by omega)) hWp hWs; simpa [List.append_assoc] using this) | exact RetR.own (ob' := [grV (L1)]) ⟨[0], [0], 1⟩ (.inr rfl) rfl (by first | trivial | exact resOK_of (E := env) rfl) rfl rfl rfl rfl rfl rfl ⟨rfl, trivial⟩ rfl (by rw [← hL1]; have := fin (X1 ++ Y1) (X2 ++ Y2) (List.Perm.refl _) (hz0 (by omega)) (List.Perm.refl _) (hw0 (by omega)); simpa [List.append_assoc] using this)
      · have e : L = L1 := by
          rw [← hLr, ← hLr2]
          by_cases h : 0 < X2.length
          · rw [List.eq_nil_of_length_eq_zero (show Y1.length = 0 by omega)]; simp
          · rw [List.eq_nil_of_length_eq_zero (show X2.length = 0 by omega)]; simp
        subst e
        repeat' (first | refine W.seq ?_ | refine W.rg ?_ | refine W.dra' ?_ | refine W.block ?_ | refine W.skip ?_ | refine W.exit ?_ | refine W.cond_true' ?_ | refine W.cond_false' ?_ | refine WG.nil ?_ | refine WG.run' (E := env) ?_ | refine WG.gt' ?_ | refine WG.gf' ?_ | refine WG.ixm' (E := env) ?_ | refine WG.ixo' (E := env) ?_ | refine WG.legm' (E := env) ?_ | refine WG.slS' (E := env) ?_ | refine WG.slD' (E := env) ?_ | refine WG.ap' (E := env) ?_ | refine WD.nil ?_ | refine WD.bs' (E := env) ?_ | refine WD.s' (E := env) (t := .d _) ?_ | refine WD.p' ?_ | refine WD.px' ?_ | refine WD.s' (E := env) (t := .ea _ _) ?_ | refine WD.s' (E := env) (t := .lp _ _) ?_ | refine WD.s' (E := env) (t := .og _ _) ?_ | refine WD.s' (E := env) (t := .agg _) ?_ | refine WD.s' (E := env) (t := .tup _) ?_ | refine WD.s' (E := env) (t := .clo _ _) ?_ | refine WD.ixm' (E := env) ?_ | refine WD.ixo' (E := env) ?_ | refine WD.legm' (E := env) ?_ | refine WD.slS' (E := env) ?_ | refine WD.slD' (E := env) ?_ | (refine WG.cQ (E := env) [0] [0] false rfl rfl (hm1 (by omega) (by omega)) rfl rfl rfl rfl rfl rfl rfl ⟨rfl, trivial⟩ (.inl rfl) (fun t ob ⟨e1, X', _, _, e2⟩ => ⟨by subst e2; rfl, fun h => nomatch h⟩) ?_; rintro _ _ ⟨rfl, Z, hZp, hZs, rfl⟩; refine (show WG _ _ _ _ _ _ ⟨upd _ _ (.tup []), [grV (A ++ Z ++ (X2 ++ (Y2 ++ B)))]⟩ from ?_)) | (refine WG.cQ (E := env) [0] [0] false rfl rfl (hm2 Z (by have := hZp.length_eq; rw [List.length_append] at this; omega) (by omega) (by omega)) rfl rfl rfl rfl rfl rfl rfl ⟨rfl, trivial⟩ (.inl rfl) (fun t ob ⟨e1, X', _, _, e2⟩ => ⟨by subst e2; rfl, fun h => nomatch h⟩) ?_; rintro _ _ ⟨rfl, W, hWp, hWs, rfl⟩; refine (show WG _ _ _ _ _ _ ⟨upd _ _ (.tup []), [grV ((A ++ Z) ++ W ++ B)]⟩ from ?_)) | (refine WG.cQ (E := env) [0] [0] false rfl rfl (hm2b (by omega) (by omega)) rfl rfl rfl rfl rfl rfl rfl ⟨rfl, trivial⟩ (.inl rfl) (fun t ob ⟨e1, X', _, _, e2⟩ => ⟨by subst e2; rfl, fun h => nomatch h⟩) ?_; rintro _ _ ⟨rfl, W, hWp, hWs, rfl⟩; refine (show WG _ _ _ _ _ _ ⟨upd _ _ (.tup []), [grV ((A ++ (X1 ++ Y1)) ++ W ++ B)]⟩ from ?_)) | fail | ((first | refine WG.sp' (fun h => ?_) fun h => ?_ | refine W.cond' (fun h => ?_) fun h => ?_ | refine WD.sp' (fun h => ?_) fun h => ?_) <;> (try simp only [decide_eq_true_eq, decide_eq_false_iff_not, Bool.not_eq_true', Bool.not_eq_false', Bool.and_eq_true, Bool.or_eq_true, Bool.and_eq_false_iff, Bool.or_eq_false_iff, Bool.not_eq_true, Bool.not_eq_false, Int.not_lt, Int.not_le, List.length_map, beq_self_eq_true, Bool.true_eq_false, Bool.false_eq_true] at h) <;> (try (exfalso; first | contradiction | omega))))
        all_goals first | (exfalso; omega) | skip
        all_goals first | exact RetR.own (ob' := [grV ((A ++ Z) ++ W ++ B)]) ⟨[0], [0], 1⟩ (.inr rfl) rfl (by first | trivial | exact resOK_of (E := env) rfl) rfl rfl rfl rfl rfl rfl ⟨rfl, trivial⟩ rfl (by have := fin Z W hZp hZs hWp hWs; simpa [List.append_assoc] using this) | exact RetR.own (ob' := [grV (A ++ Z ++ (X2 ++ (Y2 ++ B)))]) ⟨[0], [0], 1⟩ (.inr rfl) rfl (by first | trivial | exact resOK_of (E := env) rfl) rfl rfl rfl rfl rfl rfl ⟨rfl, trivial⟩ rfl (by have := fin Z (X2 ++ Y2) hZp hZs (List.Perm.refl _) (hw0 (by omega)); simpa [List.append_assoc] using this) | exact RetR.own (ob' := [grV ((A ++ (X1 ++ Y1)) ++ W ++ B)]) ⟨[0], [0], 1⟩ (.inr rfl) rfl (by first | trivial | exact resOK_of (E := env) rfl) rfl rfl rfl rfl rfl rfl ⟨rfl, trivial⟩ rfl (by have := fin (X1 ++ Y1) W (List.Perm.refl _) (hz0 (by omega)) hWp hWs; simpa [List.append_assoc] using this) | exact RetR.own (ob' := [grV (L)]) ⟨[0], [0], 1⟩ (.inr rfl) rfl (by first | trivial | exact resOK_of (E := env) rfl) rfl rfl rfl rfl rfl rfl ⟨rfl, trivial⟩ rfl (by rw [← hL1]; have := fin (X1 ++ Y1) (X2 ++ Y2) (List.Perm.refl _) (hz0 (by omega)) (List.Perm.refl _) (hw0 (by omega)); simpa [List.append_assoc] using this))

end Go.Proofs.Ytlegadpbjccelaa
