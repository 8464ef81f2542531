/-
  The library's stable sort of values, walked: the comparison, swaps. Conditions: none.
-/
import Derived.Test.YtlegadpbjccelaaQSortsSt2
import Derived.Test.YtlegadpbjccelaaQSortsCm3
set_option linter.unusedVariables false
set_option linter.unusedSimpArgs false
set_option maxRecDepth 100000
namespace Go.Proofs.Ytlegadpbjccelaa
open Go.RowKit

abbrev rwV (l : List V) : List (List D) := l.map V.rowP
abbrev grV (l : List V) : Ob := .gr 5 112 (rwV l) 0 false
abbrev cmpT : T := .d (.v (.func (.func 233) #[] #[]))

theorem sortCmp_fn (a b : V) (ha : a.fine) : Fun env.P 233 [.agg a.rowP, .agg b.rowP] (.d (dI (V.cmp a b))) [] := by
  have hc := ha.2.1
  have h := compareValsP_fn a.count a b (Nat.le_refl _) (by omega) (V.good_few _ _ ha.1 (by omega))
  refine Fun.intro Try.func233 rfl (by kernel_rfl) rfl ?_
  repeat' (first | refine W.seq ?_ | refine W.rg ?_ | refine W.dra' ?_ | refine W.block ?_ | refine W.skip ?_ | refine W.exit ?_ | refine W.cond_true' ?_ | refine W.cond_false' ?_ | refine WG.nil ?_ | refine WG.run' (E := env) ?_ | refine WG.gt' ?_ | refine WG.gf' ?_ | refine WG.ixm' (E := env) ?_ | refine WG.ixo' (E := env) ?_ | refine WG.legm' (E := env) ?_ | refine WG.slS' (E := env) ?_ | refine WG.slD' (E := env) ?_ | refine WG.ap' (E := env) ?_ | refine WD.nil ?_ | refine WD.bs' (E := env) ?_ | refine WD.s' (E := env) (t := .d _) ?_ | refine WD.p' ?_ | refine WD.px' ?_ | refine WD.s' (E := env) (t := .ea _ _) ?_ | refine WD.s' (E := env) (t := .lp _ _) ?_ | refine WD.s' (E := env) (t := .og _ _) ?_ | refine WD.s' (E := env) (t := .agg _) ?_ | refine WD.s' (E := env) (t := .tup _) ?_ | refine WD.s' (E := env) (t := .clo _ _) ?_ | refine WD.ixm' (E := env) ?_ | refine WD.ixo' (E := env) ?_ | refine WD.legm' (E := env) ?_ | refine WD.slS' (E := env) ?_ | refine WD.slD' (E := env) ?_ | refine WG.c (E := env) rfl rfl (h) rfl rfl ?_ | refine WD.c (E := env) rfl rfl (h) rfl rfl ?_ | refine WG.co (E := env) rfl rfl (h) rfl rfl rfl rfl ?_ | refine WG.cx (E := env) rfl (h) rfl ?_ | ((first | refine WG.sp' (fun h => ?_) fun h => ?_ | refine W.cond' (fun h => ?_) fun h => ?_ | refine WD.sp' (fun h => ?_) fun h => ?_) <;> (try simp only [decide_eq_true_eq, decide_eq_false_iff_not, Bool.not_eq_true', Bool.not_eq_false', Bool.and_eq_true, Bool.or_eq_true, Bool.and_eq_false_iff, Bool.or_eq_false_iff, Bool.not_eq_true, Bool.not_eq_false, Int.not_lt, Int.not_le, List.length_map, beq_self_eq_true, Bool.true_eq_false, Bool.false_eq_true] at h) <;> (try (exfalso; first | contradiction | omega))))
  all_goals (refine W.ret ?_; (first | refine RetQ.b' ?_ | refine RetQ.i' ?_ | refine RetQ.d' ?_ | refine RetQ.t2' ?_ ?_ | refine RetQ.t3' ?_ ?_ ?_))
  all_goals rfl

/-- Two that change places. -/
def swp (l : List V) (i j : Nat) : List V := (l.set i (l.getD j default)).set j (l.getD i default)

theorem rwV_at {l : List V} {i : Nat} (hi : i < l.length) : (rwV l)[i]? = some (V.rowP (l.getD i default)) := by simp [hi]

theorem rwV_swp (l : List V) (i j : Nat) : ((rwV l).set i (V.rowP (l.getD j default))).set j (V.rowP (l.getD i default)) = rwV (swp l i j) := by
  unfold swp rwV
  rw [List.map_set, List.map_set]

/-- Neighbours change places. -/
theorem swp_next (A : List V) (x y : V) (B : List V) (i j : Nat) (hi : i = A.length) (hj : j = A.length + 1) : swp (A ++ x :: y :: B) i j = A ++ y :: x :: B := by
  subst hi; subst hj
  unfold swp
  simp [List.getD_eq_getElem?_getD, List.getElem?_append_right, List.set_append_right]

theorem swp_gen (P : List V) (x : V) (Q : List V) (y : V) (R : List V) (i j : Nat) (hi : i = P.length) (hj : j = P.length + 1 + Q.length) : swp (P ++ x :: (Q ++ y :: R)) i j = P ++ y :: (Q ++ x :: R) := by
  subst hi; subst hj
  have e1 : P.length + 1 + Q.length = P.length + (Q.length + 1) := by omega
  unfold swp
  rw [e1]
  simp [List.getD_eq_getElem?_getD, List.getElem?_append_right, List.set_append_right]

/-- The first k of Y, then what is left of X. -/
def mixV (Y X : List V) (k : Nat) : List V := Y.take k ++ X.drop k

theorem mixV_step {X Y A M B : List V} {n k : Nat} (hX : X.length = n) (hY : Y.length = n) (hk : k < n) :
    swp (A ++ mixV Y X k ++ M ++ mixV X Y k ++ B) (A.length + k) (A.length + n + M.length + k) = A ++ mixV Y X (k + 1) ++ M ++ mixV X Y (k + 1) ++ B := by
  obtain ⟨x, hx⟩ : ∃ x, X[k]? = some x := ⟨X[k]'(by omega), List.getElem?_eq_getElem _⟩
  obtain ⟨y, hy⟩ : ∃ y, Y[k]? = some y := ⟨Y[k]'(by omega), List.getElem?_eq_getElem _⟩
  have ex : X.drop k = x :: X.drop (k + 1) := by
    obtain ⟨h1, h2⟩ := List.getElem?_eq_some_iff.1 hx
    rw [← h2]; exact List.drop_eq_getElem_cons h1
  have ey : Y.drop k = y :: Y.drop (k + 1) := by
    obtain ⟨h1, h2⟩ := List.getElem?_eq_some_iff.1 hy
    rw [← h2]; exact List.drop_eq_getElem_cons h1
  have tx : X.take (k + 1) = X.take k ++ [x] := by rw [List.take_add_one, hx]; rfl
  have ty : Y.take (k + 1) = Y.take k ++ [y] := by rw [List.take_add_one, hy]; rfl
  have h := swp_gen (A ++ Y.take k) x (X.drop (k + 1) ++ M ++ X.take k) y (Y.drop (k + 1) ++ B) (A.length + k) (A.length + n + M.length + k) (by simp; omega) (by simp; omega)
  unfold mixV
  rw [ex, ey, tx, ty]
  simp only [List.append_assoc, List.cons_append, List.nil_append, List.singleton_append] at h ⊢
  exact h

set_option maxHeartbeats 4000000 in
theorem swapRange_fn (A X M Y B : List V) (n : Nat) (hX : X.length = n) (hY : Y.length = n) (hl : A.length + X.length + M.length + Y.length + B.length ≤ 4096) :
    FunQ env.P 317 [.og 0 0, vI .i64 A.length, vI .i64 (A.length + n + M.length : Nat), vI .i64 n, cmpT] [grV (A ++ X ++ M ++ Y ++ B)]
      (just (.tup []) [grV (A ++ Y ++ M ++ X ++ B)]) := by
  refine FunQ.intro Try.func317 rfl (by kernel_rfl) rfl ?_
  generalize ha : A.length = a at *
  generalize hb : a + n + M.length = b at *
  repeat' (first | refine W.seq ?_ | refine W.rg ?_ | refine W.dra' ?_ | refine W.block ?_ | refine W.skip ?_ | refine W.exit ?_ | refine W.cond_true' ?_ | refine W.cond_false' ?_ | refine WG.nil ?_ | refine WG.run' (E := env) ?_ | refine WG.gt' ?_ | refine WG.gf' ?_ | refine WG.ixm' (E := env) ?_ | refine WG.ixo' (E := env) ?_ | refine WG.legm' (E := env) ?_ | refine WG.slS' (E := env) ?_ | refine WG.slD' (E := env) ?_ | refine WG.ap' (E := env) ?_ | refine WD.nil ?_ | refine WD.bs' (E := env) ?_ | refine WD.s' (E := env) (t := .d _) ?_ | refine WD.p' ?_ | refine WD.px' ?_ | refine WD.s' (E := env) (t := .ea _ _) ?_ | refine WD.s' (E := env) (t := .lp _ _) ?_ | refine WD.s' (E := env) (t := .og _ _) ?_ | refine WD.s' (E := env) (t := .agg _) ?_ | refine WD.s' (E := env) (t := .tup _) ?_ | refine WD.s' (E := env) (t := .clo _ _) ?_ | refine WD.ixm' (E := env) ?_ | refine WD.ixo' (E := env) ?_ | refine WD.legm' (E := env) ?_ | refine WD.slS' (E := env) ?_ | refine WD.slD' (E := env) ?_ | ((first | refine WG.sp' (fun h => ?_) fun h => ?_ | refine W.cond' (fun h => ?_) fun h => ?_ | refine WD.sp' (fun h => ?_) fun h => ?_) <;> (try simp only [decide_eq_true_eq, decide_eq_false_iff_not, Bool.not_eq_true', Bool.not_eq_false', Bool.and_eq_true, Bool.or_eq_true, Bool.and_eq_false_iff, Bool.or_eq_false_iff, Bool.not_eq_true, Bool.not_eq_false, Int.not_lt, Int.not_le, List.length_map, beq_self_eq_true, Bool.true_eq_false, Bool.false_eq_true] at h) <;> (try (exfalso; first | contradiction | omega))))
  refine W.loopI (fun m S => ∃ (k : Nat) (R : List (List D)), m = n - k ∧ (k ≤ n ∧ R = rwV (A ++ mixV Y X k ++ M ++ mixV X Y k ++ B)) ∧ S = ⟨ofL [(0, .og 0 0), (1, vI .i64 a), (2, vI .i64 b), (3, vI .i64 n), (4, cmpT), (10, vI .i64 k)], [.gr 5 112 R 0 false]⟩) _ _
    ⟨0, rwV (A ++ X ++ M ++ Y ++ B), rfl, ⟨by omega, by simp [mixV]⟩, rfl⟩ (St.imp.of_le (by (refine le_ofL rfl ?_ ?_ <;> (repeat (first | exact trivial | refine ⟨⟨rfl, rfl⟩, ?_⟩ | refine ⟨rfl, .inl rfl, ?_⟩ | refine ⟨rfl, .inr rfl, ?_⟩))))) ?_
  rintro m S ⟨k, R, rfl, ⟨hk, hR⟩, rfl⟩
  generalize hL : A ++ mixV Y X k ++ M ++ mixV X Y k ++ B = L at hR
  have hLl : L.length = a + n + M.length + n + B.length := by rw [← hL]; simp [mixV]; omega
  have hRl : R.length = L.length := by rw [hR]; simp
  by_cases hlt : k < n
  · have i1 : Int.toNat ((a : Int) + (k : Int)) = a + k := by omega
    have i2 : Int.toNat ((b : Int) + (k : Int)) = b + k := by omega
    have h1 : R[Int.toNat ((a : Int) + (k : Int))]? = some (V.rowP (L.getD (a + k) default)) := by rw [hR, i1]; exact rwV_at (by omega)
    have h2 : R[Int.toNat ((b : Int) + (k : Int))]? = some (V.rowP (L.getD (b + k) default)) := by rw [hR, i2]; exact rwV_at (by omega)
    have h3 : (R.set (Int.toNat ((a : Int) + (k : Int))) (V.rowP (L.getD (b + k) default)))[Int.toNat ((b : Int) + (k : Int))]? = some (V.rowP (L.getD (b + k) default)) := by rw [List.getElem?_set_ne (by omega)]; exact h2
    have he : ((R.set (Int.toNat ((a : Int) + (k : Int))) (V.rowP (L.getD (b + k) default))).set (Int.toNat ((b : Int) + (k : Int))) (V.rowP (L.getD (a + k) default))) = rwV (A ++ mixV Y X (k + 1) ++ M ++ mixV X Y (k + 1) ++ B) := by
      rw [hR, i1, i2, rwV_swp, ← hL]
      have := mixV_step (A := A) (M := M) (B := B) hX hY hlt
      rw [ha, hb] at this
      rw [this]
    generalize L.getD (a + k) default = va at h1 he
    generalize L.getD (b + k) default = vb at h2 h3 he
    repeat' (first | (refine W.dre' (id := 3) [21, 23] (fun f => bif bt f 2 then [.gr 5 112 ((R.set (Int.toNat ((a : Int) + (k : Int))) (V.rowP vb)).set (Int.toNat ((b : Int) + (k : Int))) (V.rowP va)) 0 false] else bif bt f 1 then [.gr 5 112 (R.set (Int.toNat ((a : Int) + (k : Int))) (V.rowP vb)) 0 false] else [.gr 5 112 R 0 false]) [(0, [0]), (0, [0]), (0, [0]), (0, [0]), (0, [0, 1]), (0, [0, 1]), (0, [0, 1]), (0, [0, 1]), (0, [0]), (0, [0]), (0, [0]), (0, [0]), (0, [0]), (0, [0]), (0, [0]), (0, [0]), (0, [0]), (0, [0]), (0, [0]), (0, [0]), (0, [0]), (1, [0]), (0, [1]), (2, [1])] [.gr 5 112 ((R.set (Int.toNat ((a : Int) + (k : Int))) (V.rowP vb)).set (Int.toNat ((b : Int) + (k : Int))) (V.rowP va)) 0 false] ?_) | refine WE.nil ?_ | refine WE.ixP' ?_ | refine WE.s' (E := env) (t := .d _) ?_ | refine WE.p' ?_ | refine WE.px' ?_ | refine WE.s' (E := env) (t := .lp _ _) ?_ | refine WE.s' (E := env) (t := .og _ _) ?_ | refine WE.s' (E := env) (t := .ea _ _) ?_ | refine WE.s' (E := env) (t := .agg _) ?_ | refine WE.s' (E := env) (t := .tup _) ?_ | refine WE.ixm' (E := env) ?_ | refine WE.ixo' (E := env) ?_ | refine WE.leg' (E := env) ?_ | refine WE.slS' (E := env) ?_ | refine WE.slD' (E := env) ?_ | refine WE.ap' (E := env) ?_ | refine WE.st' (E := env) ?_ | refine WE.seg' (E := env) ?_ | refine WE.bs' (E := env) ?_ | refine W.seq ?_ | refine W.rg ?_ | refine W.dra' ?_ | refine W.block ?_ | refine W.skip ?_ | refine W.exit ?_ | refine W.cond_true' ?_ | refine W.cond_false' ?_ | refine WG.nil ?_ | refine WG.run' (E := env) ?_ | refine WG.gt' ?_ | refine WG.gf' ?_ | refine WG.ixm' (E := env) ?_ | refine WG.ixo' (E := env) ?_ | refine WG.legm' (E := env) ?_ | refine WG.slS' (E := env) ?_ | refine WG.slD' (E := env) ?_ | refine WG.ap' (E := env) ?_ | refine WD.nil ?_ | refine WD.bs' (E := env) ?_ | refine WD.s' (E := env) (t := .d _) ?_ | refine WD.p' ?_ | refine WD.px' ?_ | refine WD.s' (E := env) (t := .ea _ _) ?_ | refine WD.s' (E := env) (t := .lp _ _) ?_ | refine WD.s' (E := env) (t := .og _ _) ?_ | refine WD.s' (E := env) (t := .agg _) ?_ | refine WD.s' (E := env) (t := .tup _) ?_ | refine WD.s' (E := env) (t := .clo _ _) ?_ | refine WD.ixm' (E := env) ?_ | refine WD.ixo' (E := env) ?_ | refine WD.legm' (E := env) ?_ | refine WD.slS' (E := env) ?_ | refine WD.slD' (E := env) ?_ | fail | ((first | refine WG.sp' (fun h => ?_) fun h => ?_ | refine W.cond' (fun h => ?_) fun h => ?_ | refine WD.sp' (fun h => ?_) fun h => ?_) <;> (try simp only [decide_eq_true_eq, decide_eq_false_iff_not, Bool.not_eq_true', Bool.not_eq_false', Bool.and_eq_true, Bool.or_eq_true, Bool.and_eq_false_iff, Bool.or_eq_false_iff, Bool.not_eq_true, Bool.not_eq_false, Int.not_lt, Int.not_le, List.length_map, beq_self_eq_true, Bool.true_eq_false, Bool.false_eq_true] at h) <;> (try (exfalso; first | contradiction | omega))))
    exact ⟨_, _, by omega, ⟨k + 1, _, rfl, ⟨by omega, he⟩, rfl⟩, (St.imp.of_le (by (refine le_ofL rfl ?_ ?_ <;> (repeat (first | exact trivial | refine ⟨⟨rfl, rfl⟩, ?_⟩ | refine ⟨rfl, .inl rfl, ?_⟩ | refine ⟨rfl, .inr rfl, ?_⟩)))))⟩
  · obtain rfl : k = n := by omega
    have e1 : L = A ++ Y ++ M ++ X ++ B := by rw [← hL]; unfold mixV; rw [List.take_of_length_le (by omega), List.take_of_length_le (by omega), List.drop_eq_nil_of_le (by omega), List.drop_eq_nil_of_le (by omega)]; simp
    subst e1; subst hR
    repeat' (first | refine W.seq ?_ | refine W.rg ?_ | refine W.dra' ?_ | refine W.block ?_ | refine W.skip ?_ | refine W.exit ?_ | refine W.cond_true' ?_ | refine W.cond_false' ?_ | refine WG.nil ?_ | refine WG.run' (E := env) ?_ | refine WG.gt' ?_ | refine WG.gf' ?_ | refine WG.ixm' (E := env) ?_ | refine WG.ixo' (E := env) ?_ | refine WG.legm' (E := env) ?_ | refine WG.slS' (E := env) ?_ | refine WG.slD' (E := env) ?_ | refine WG.ap' (E := env) ?_ | refine WD.nil ?_ | refine WD.bs' (E := env) ?_ | refine WD.s' (E := env) (t := .d _) ?_ | refine WD.p' ?_ | refine WD.px' ?_ | refine WD.s' (E := env) (t := .ea _ _) ?_ | refine WD.s' (E := env) (t := .lp _ _) ?_ | refine WD.s' (E := env) (t := .og _ _) ?_ | refine WD.s' (E := env) (t := .agg _) ?_ | refine WD.s' (E := env) (t := .tup _) ?_ | refine WD.s' (E := env) (t := .clo _ _) ?_ | refine WD.ixm' (E := env) ?_ | refine WD.ixo' (E := env) ?_ | refine WD.legm' (E := env) ?_ | refine WD.slS' (E := env) ?_ | refine WD.slD' (E := env) ?_ | ((first | refine WG.sp' (fun h => ?_) fun h => ?_ | refine W.cond' (fun h => ?_) fun h => ?_ | refine WD.sp' (fun h => ?_) fun h => ?_) <;> (try simp only [decide_eq_true_eq, decide_eq_false_iff_not, Bool.not_eq_true', Bool.not_eq_false', Bool.and_eq_true, Bool.or_eq_true, Bool.and_eq_false_iff, Bool.or_eq_false_iff, Bool.not_eq_true, Bool.not_eq_false, Int.not_lt, Int.not_le, List.length_map, beq_self_eq_true, Bool.true_eq_false, Bool.false_eq_true] at h) <;> (try (exfalso; first | contradiction | omega))))
    exact RetR.own (ob' := [grV (A ++ Y ++ M ++ X ++ B)]) ⟨[0], [0], 1⟩ (.inr rfl) rfl (by first | trivial | exact resOK_of (E := env) rfl) rfl rfl rfl rfl rfl rfl ⟨rfl, trivial⟩ rfl ⟨rfl, rfl⟩

end Go.Proofs.Ytlegadpbjccelaa
