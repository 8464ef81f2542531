/-
  The library's stable sort of values, walked: blocks, and merging them. Conditions: at most 4096 values, each fine.
-/
import Derived.Test.YtlegadpbjccelaaQSortsSt8
set_option linter.unusedVariables false
set_option linter.unusedSimpArgs false
set_option maxRecDepth 100000
namespace Go.Proofs.Ytlegadpbjccelaa
open Go.RowKit

theorem Blk.nil (bs : Nat) : Blk bs [] := Blk.of_srt Srt.nil

set_option maxHeartbeats 8000000 in
theorem stable_fn (X : List V) (n : Int) (hn : n = X.length) (hl : X.length ≤ 4096) (hf : ∀ v ∈ X, v.fine) :
    FunQ env.P 284 [.og 0 0, vI .i64 n, cmpT] [grV X] (sorts [] X []) := by
  refine FunQ.intro Try.func284 rfl (by kernel_rfl) rfl ?_
  repeat' (first | refine W.seq ?_ | refine W.rg ?_ | refine W.dra' ?_ | refine W.block ?_ | refine W.skip ?_ | refine W.exit ?_ | refine W.cond_true' ?_ | refine W.cond_false' ?_ | refine WG.nil ?_ | refine WG.run' (E := env) ?_ | refine WG.gt' ?_ | refine WG.gf' ?_ | refine WG.ixm' (E := env) ?_ | refine WG.ixo' (E := env) ?_ | refine WG.legm' (E := env) ?_ | refine WG.slS' (E := env) ?_ | refine WG.slD' (E := env) ?_ | refine WG.ap' (E := env) ?_ | refine WD.nil ?_ | refine WD.bs' (E := env) ?_ | refine WD.s' (E := env) (t := .d _) ?_ | refine WD.p' ?_ | refine WD.px' ?_ | refine WD.s' (E := env) (t := .ea _ _) ?_ | refine WD.s' (E := env) (t := .lp _ _) ?_ | refine WD.s' (E := env) (t := .og _ _) ?_ | refine WD.s' (E := env) (t := .agg _) ?_ | refine WD.s' (E := env) (t := .tup _) ?_ | refine WD.s' (E := env) (t := .clo _ _) ?_ | refine WD.ixm' (E := env) ?_ | refine WD.ixo' (E := env) ?_ | refine WD.legm' (E := env) ?_ | refine WD.slS' (E := env) ?_ | refine WD.slD' (E := env) ?_ | ((first | refine WG.sp' (fun h => ?_) fun h => ?_ | refine W.cond' (fun h => ?_) fun h => ?_ | refine WD.sp' (fun h => ?_) fun h => ?_) <;> (try simp only [decide_eq_true_eq, decide_eq_false_iff_not, Bool.not_eq_true', Bool.not_eq_false', Bool.and_eq_true, Bool.or_eq_true, Bool.and_eq_false_iff, Bool.or_eq_false_iff, Bool.not_eq_true, Bool.not_eq_false, Int.not_lt, Int.not_le, List.length_map, beq_self_eq_true, Bool.true_eq_false, Bool.false_eq_true] at h) <;> (try (exfalso; first | contradiction | omega))))
  refine W.loopI (fun m S => ∃ (q : Nat) (D R L : List V) (a b : Int), m = R.length ∧ (L = D ++ R ∧ L.Perm X ∧ D.length = q * 20 ∧ Blk 20 D ∧ a = D.length ∧ b = a + 20) ∧
    S = ⟨ofL [(0, .og 0 0), (1, vI .i64 n), (2, cmpT), (6, vI .i64 20), (7, vI .i64 a), (8, vI .i64 b)], [grV L]⟩) _ _
    ⟨0, [], X, X, 0, 20, rfl, ⟨rfl, List.Perm.refl _, rfl, Blk.nil _, rfl, rfl⟩, rfl⟩ (St.imp.of_le (by (refine le_ofL rfl ?_ ?_ <;> (repeat (first | exact trivial | refine ⟨⟨rfl, rfl⟩, ?_⟩ | refine ⟨rfl, .inl rfl, ?_⟩ | refine ⟨rfl, .inr rfl, ?_⟩))))) ?_
  rintro m S ⟨q, D, R, L, a, b, rfl, ⟨hL, hp, hD, hB, ha, hb⟩, rfl⟩
  have hpl := hp.length_eq
  have hLl : L.length = D.length + R.length := by rw [hL, List.length_append]
  by_cases hge : 20 ≤ R.length
  · have e3 := (List.take_append_drop 20 R).symm
    have l1 : (R.take 20).length = 20 := by rw [List.length_take]; omega
    have l2 : (R.drop 20).length = R.length - 20 := List.length_drop ..
    generalize R.take 20 = R1 at e3 l1
    generalize R.drop 20 = R2 at e3 l2
    have hi := insertion_fn D R1 R2 a b ha (by omega) (by omega) (fun v hv => hf v (hp.mem_iff.1 (by rw [hL, e3]; simp [hv])))
    rw [show D ++ R1 ++ R2 = L by rw [hL, e3]; simp] at hi
    repeat' (first | refine W.seq ?_ | refine W.rg ?_ | refine W.dra' ?_ | refine W.block ?_ | refine W.skip ?_ | refine W.exit ?_ | refine W.cond_true' ?_ | refine W.cond_false' ?_ | refine WG.nil ?_ | refine WG.run' (E := env) ?_ | refine WG.gt' ?_ | refine WG.gf' ?_ | refine WG.ixm' (E := env) ?_ | refine WG.ixo' (E := env) ?_ | refine WG.legm' (E := env) ?_ | refine WG.slS' (E := env) ?_ | refine WG.slD' (E := env) ?_ | refine WG.ap' (E := env) ?_ | refine WD.nil ?_ | refine WD.bs' (E := env) ?_ | refine WD.s' (E := env) (t := .d _) ?_ | refine WD.p' ?_ | refine WD.px' ?_ | refine WD.s' (E := env) (t := .ea _ _) ?_ | refine WD.s' (E := env) (t := .lp _ _) ?_ | refine WD.s' (E := env) (t := .og _ _) ?_ | refine WD.s' (E := env) (t := .agg _) ?_ | refine WD.s' (E := env) (t := .tup _) ?_ | refine WD.s' (E := env) (t := .clo _ _) ?_ | refine WD.ixm' (E := env) ?_ | refine WD.ixo' (E := env) ?_ | refine WD.legm' (E := env) ?_ | refine WD.slS' (E := env) ?_ | refine WD.slD' (E := env) ?_ | (refine WG.cQ (E := env) [0] [0] false rfl rfl hi rfl rfl rfl rfl rfl rfl rfl ⟨rfl, trivial⟩ (.inl rfl) (fun t ob ⟨e1, X', _, _, e2⟩ => ⟨by subst e2; rfl, fun h => nomatch h⟩) ?_; rintro _ _ ⟨rfl, Z, hZp, hZs, rfl⟩; refine (show WG _ _ _ _ _ _ ⟨upd _ _ (.tup []), [grV (D ++ Z ++ R2)]⟩ from ?_)) | fail | ((first | refine WG.sp' (fun h => ?_) fun h => ?_ | refine W.cond' (fun h => ?_) fun h => ?_ | refine WD.sp' (fun h => ?_) fun h => ?_) <;> (try simp only [decide_eq_true_eq, decide_eq_false_iff_not, Bool.not_eq_true', Bool.not_eq_false', Bool.and_eq_true, Bool.or_eq_true, Bool.and_eq_false_iff, Bool.or_eq_false_iff, Bool.not_eq_true, Bool.not_eq_false, Int.not_lt, Int.not_le, List.length_map, beq_self_eq_true, Bool.true_eq_false, Bool.false_eq_true] at h) <;> (try (exfalso; first | contradiction | omega))))
    all_goals first | (exfalso; omega) | skip
    have hzl := hZp.length_eq
    refine ⟨_, _, ?_, ⟨q + 1, D ++ Z, R2, D ++ Z ++ R2, b, b + 20, rfl, ⟨rfl, ?_, by rw [List.length_append]; omega, hB.app hD (Blk.of_srt hZs), by rw [List.length_append]; omega, rfl⟩, rfl⟩, (St.imp.of_le (by (refine le_ofL rfl ?_ ?_ <;> (repeat (first | exact trivial | refine ⟨⟨rfl, rfl⟩, ?_⟩ | refine ⟨rfl, .inl rfl, ?_⟩ | refine ⟨rfl, .inr rfl, ?_⟩)))))⟩
    · omega
    · refine List.Perm.trans ?_ hp
      rw [hL, e3, List.append_assoc]
      exact List.Perm.append_left _ (List.Perm.append_right _ hZp.symm)
  · have hi := insertion_fn D R [] a n ha (by omega) (by simp; omega) (fun v hv => hf v (hp.mem_iff.1 (by rw [hL]; simp [hv])))
    rw [List.append_nil, ← hL] at hi
    repeat' (first | refine W.seq ?_ | refine W.rg ?_ | refine W.dra' ?_ | refine W.block ?_ | refine W.skip ?_ | refine W.exit ?_ | refine W.cond_true' ?_ | refine W.cond_false' ?_ | refine WG.nil ?_ | refine WG.run' (E := env) ?_ | refine WG.gt' ?_ | refine WG.gf' ?_ | refine WG.ixm' (E := env) ?_ | refine WG.ixo' (E := env) ?_ | refine WG.legm' (E := env) ?_ | refine WG.slS' (E := env) ?_ | refine WG.slD' (E := env) ?_ | refine WG.ap' (E := env) ?_ | refine WD.nil ?_ | refine WD.bs' (E := env) ?_ | refine WD.s' (E := env) (t := .d _) ?_ | refine WD.p' ?_ | refine WD.px' ?_ | refine WD.s' (E := env) (t := .ea _ _) ?_ | refine WD.s' (E := env) (t := .lp _ _) ?_ | refine WD.s' (E := env) (t := .og _ _) ?_ | refine WD.s' (E := env) (t := .agg _) ?_ | refine WD.s' (E := env) (t := .tup _) ?_ | refine WD.s' (E := env) (t := .clo _ _) ?_ | refine WD.ixm' (E := env) ?_ | refine WD.ixo' (E := env) ?_ | refine WD.legm' (E := env) ?_ | refine WD.slS' (E := env) ?_ | refine WD.slD' (E := env) ?_ | (refine WG.cQ (E := env) [0] [0] false rfl rfl hi rfl rfl rfl rfl rfl rfl rfl ⟨rfl, trivial⟩ (.inl rfl) (fun t ob ⟨e1, X', _, _, e2⟩ => ⟨by subst e2; rfl, fun h => nomatch h⟩) ?_; rintro _ _ ⟨rfl, Z, hZp, hZs, rfl⟩; refine (show WG _ _ _ _ _ _ ⟨upd _ _ (.tup []), [grV (D ++ Z ++ [])]⟩ from ?_)) | fail | ((first | refine WG.sp' (fun h => ?_) fun h => ?_ | refine W.cond' (fun h => ?_) fun h => ?_ | refine WD.sp' (fun h => ?_) fun h => ?_) <;> (try simp only [decide_eq_true_eq, decide_eq_false_iff_not, Bool.not_eq_true', Bool.not_eq_false', Bool.and_eq_true, Bool.or_eq_true, Bool.and_eq_false_iff, Bool.or_eq_false_iff, Bool.not_eq_true, Bool.not_eq_false, Int.not_lt, Int.not_le, List.length_map, beq_self_eq_true, Bool.true_eq_false, Bool.false_eq_true] at h) <;> (try (exfalso; first | contradiction | omega))))
    all_goals first | (exfalso; omega) | skip
    have hB1 : Blk 20 (D ++ Z ++ []) := by rw [List.append_nil]; exact hB.app hD (Blk.of_srt hZs)
    have hp1 : (D ++ Z ++ []).Perm X := by
      refine List.Perm.trans ?_ hp
      rw [hL, List.append_nil]
      exact List.Perm.append_left _ hZp.symm
    generalize D ++ Z ++ [] = L0 at hB1 hp1
    refine W.loopI (fun m S => ∃ (bs : Nat) (L : List V) (bi : Int), m = X.length - bs ∧ (bi = bs ∧ 20 ≤ bs ∧ L.Perm X ∧ Blk bs L) ∧
      S = ⟨ofL [(0, .og 0 0), (1, vI .i64 n), (2, cmpT), (6, vI .i64 bi)], [grV L]⟩) _ _
      ⟨20, L0, 20, rfl, ⟨rfl, by omega, hp1, hB1⟩, rfl⟩ (St.imp.of_le (by (refine le_ofL rfl ?_ ?_ <;> (repeat (first | exact trivial | refine ⟨⟨rfl, rfl⟩, ?_⟩ | refine ⟨rfl, .inl rfl, ?_⟩ | refine ⟨rfl, .inr rfl, ?_⟩))))) ?_
    clear hB1 hp1 hL hp hB hLl hpl hi hD ha hb hge
    rintro m S ⟨bs, L, bi, rfl, ⟨hbi, hbs, hp, hB⟩, rfl⟩
    have hpl := hp.length_eq
    by_cases hlt : bs < X.length
    · repeat' (first | refine W.seq ?_ | refine W.rg ?_ | refine W.dra' ?_ | refine W.block ?_ | refine W.skip ?_ | refine W.exit ?_ | refine W.cond_true' ?_ | refine W.cond_false' ?_ | refine WG.nil ?_ | refine WG.run' (E := env) ?_ | refine WG.gt' ?_ | refine WG.gf' ?_ | refine WG.ixm' (E := env) ?_ | refine WG.ixo' (E := env) ?_ | refine WG.legm' (E := env) ?_ | refine WG.slS' (E := env) ?_ | refine WG.slD' (E := env) ?_ | refine WG.ap' (E := env) ?_ | refine WD.nil ?_ | refine WD.bs' (E := env) ?_ | refine WD.s' (E := env) (t := .d _) ?_ | refine WD.p' ?_ | refine WD.px' ?_ | refine WD.s' (E := env) (t := .ea _ _) ?_ | refine WD.s' (E := env) (t := .lp _ _) ?_ | refine WD.s' (E := env) (t := .og _ _) ?_ | refine WD.s' (E := env) (t := .agg _) ?_ | refine WD.s' (E := env) (t := .tup _) ?_ | refine WD.s' (E := env) (t := .clo _ _) ?_ | refine WD.ixm' (E := env) ?_ | refine WD.ixo' (E := env) ?_ | refine WD.legm' (E := env) ?_ | refine WD.slS' (E := env) ?_ | refine WD.slD' (E := env) ?_ | ((first | refine WG.sp' (fun h => ?_) fun h => ?_ | refine W.cond' (fun h => ?_) fun h => ?_ | refine WD.sp' (fun h => ?_) fun h => ?_) <;> (try simp only [decide_eq_true_eq, decide_eq_false_iff_not, Bool.not_eq_true', Bool.not_eq_false', Bool.and_eq_true, Bool.or_eq_true, Bool.and_eq_false_iff, Bool.or_eq_false_iff, Bool.not_eq_true, Bool.not_eq_false, Int.not_lt, Int.not_le, List.length_map, beq_self_eq_true, Bool.true_eq_false, Bool.false_eq_true] at h) <;> (try (exfalso; first | contradiction | omega))))
      all_goals first | (exfalso; omega) | skip
      refine W.loopI (fun m S => ∃ (q : Nat) (D R L : List V) (a b : Int), m = R.length ∧ (L = D ++ R ∧ L.Perm X ∧ D.length = q * (2 * bs) ∧ Blk (2 * bs) D ∧ Blk bs R ∧ a = D.length ∧ b = a + 2 * bi) ∧
        S = ⟨ofL [(0, .og 0 0), (1, vI .i64 n), (2, cmpT), (6, vI .i64 bi), (7, vI .i64 a), (8, vI .i64 b)], [grV L]⟩) _ _
        ⟨0, [], L, L, 0, 2 * bi, rfl, ⟨rfl, hp, by simp, Blk.nil _, hB, rfl, by omega⟩, rfl⟩ (St.imp.of_le (by (refine le_ofL rfl ?_ ?_ <;> (repeat (first | exact trivial | refine ⟨⟨rfl, rfl⟩, ?_⟩ | refine ⟨rfl, .inl rfl, ?_⟩ | refine ⟨rfl, .inr rfl, ?_⟩))))) ?_
      clear hp hpl hB
      rintro m S ⟨q, D, R, L, a, b, rfl, ⟨hL, hp, hD, hB, hR, ha, hb⟩, rfl⟩
      have hpl := hp.length_eq
      have hLl : L.length = D.length + R.length := by rw [hL, List.length_append]
      have hfR : ∀ v ∈ R, v.fine := fun v hv => hf v (hp.mem_iff.1 (by rw [hL]; simp [hv]))
      have s0 := hR 0
      have s1 := hR 1
      rw [Nat.zero_mul, List.drop_zero] at s0
      rw [Nat.one_mul] at s1
      by_cases hge : 2 * bs ≤ R.length
      · have e3 := (List.take_append_drop bs R).symm
        have e4 := (List.take_append_drop bs (R.drop bs)).symm
        have l1 : (R.take bs).length = bs := by rw [List.length_take]; omega
        have l2 : ((R.drop bs).take bs).length = bs := by rw [List.length_take, List.length_drop]; omega
        have hRt := hR.tail 2
        rw [show R.drop (2 * bs) = (R.drop bs).drop bs by rw [List.drop_drop, Nat.two_mul]] at hRt
        generalize R.take bs = X1 at e3 l1 s0
        generalize (R.drop bs).take bs = Y1 at e4 l2 s1
        generalize (R.drop bs).drop bs = R2 at e4 hRt
        have e5 : R = X1 ++ (Y1 ++ R2) := by rw [e3, e4]
        have hR2 : R.length = bs + bs + R2.length := by rw [e5, List.length_append, List.length_append]; omega
        have hi := symMerge_fn (2 * bs) D X1 Y1 R2 a (a + bi) b (by omega) ha (by omega) (by omega) (by omega) (by omega) (by omega) s0 s1 (fun v hv => hfR v (by rw [e5]; simp [hv])) (fun v hv => hfR v (by rw [e5]; simp [hv]))
        rw [show D ++ X1 ++ Y1 ++ R2 = L by rw [hL, e5]; simp] at hi
        repeat' (first | refine W.seq ?_ | refine W.rg ?_ | refine W.dra' ?_ | refine W.block ?_ | refine W.skip ?_ | refine W.exit ?_ | refine W.cond_true' ?_ | refine W.cond_false' ?_ | refine WG.nil ?_ | refine WG.run' (E := env) ?_ | refine WG.gt' ?_ | refine WG.gf' ?_ | refine WG.ixm' (E := env) ?_ | refine WG.ixo' (E := env) ?_ | refine WG.legm' (E := env) ?_ | refine WG.slS' (E := env) ?_ | refine WG.slD' (E := env) ?_ | refine WG.ap' (E := env) ?_ | refine WD.nil ?_ | refine WD.bs' (E := env) ?_ | refine WD.s' (E := env) (t := .d _) ?_ | refine WD.p' ?_ | refine WD.px' ?_ | refine WD.s' (E := env) (t := .ea _ _) ?_ | refine WD.s' (E := env) (t := .lp _ _) ?_ | refine WD.s' (E := env) (t := .og _ _) ?_ | refine WD.s' (E := env) (t := .agg _) ?_ | refine WD.s' (E := env) (t := .tup _) ?_ | refine WD.s' (E := env) (t := .clo _ _) ?_ | refine WD.ixm' (E := env) ?_ | refine WD.ixo' (E := env) ?_ | refine WD.legm' (E := env) ?_ | refine WD.slS' (E := env) ?_ | refine WD.slD' (E := env) ?_ | (refine WG.cQ (E := env) [0] [0] false rfl rfl hi rfl rfl rfl rfl rfl rfl rfl ⟨rfl, trivial⟩ (.inl rfl) (fun t ob ⟨e1, X', _, _, e2⟩ => ⟨by subst e2; rfl, fun h => nomatch h⟩) ?_; rintro _ _ ⟨rfl, Z, hZp, hZs, rfl⟩; refine (show WG _ _ _ _ _ _ ⟨upd _ _ (.tup []), [grV (D ++ Z ++ R2)]⟩ from ?_)) | fail | ((first | refine WG.sp' (fun h => ?_) fun h => ?_ | refine W.cond' (fun h => ?_) fun h => ?_ | refine WD.sp' (fun h => ?_) fun h => ?_) <;> (try simp only [decide_eq_true_eq, decide_eq_false_iff_not, Bool.not_eq_true', Bool.not_eq_false', Bool.and_eq_true, Bool.or_eq_true, Bool.and_eq_false_iff, Bool.or_eq_false_iff, Bool.not_eq_true, Bool.not_eq_false, Int.not_lt, Int.not_le, List.length_map, beq_self_eq_true, Bool.true_eq_false, Bool.false_eq_true] at h) <;> (try (exfalso; first | contradiction | omega))))
        all_goals first | (exfalso; omega) | skip
        have hzl := hZp.length_eq
        rw [List.length_append] at hzl
        have hq : (q + 1) * (2 * bs) = q * (2 * bs) + 2 * bs := Nat.succ_mul ..
        refine ⟨_, _, ?_, ⟨q + 1, D ++ Z, R2, D ++ Z ++ R2, b, b + 2 * bi, rfl, ⟨rfl, ?_, by rw [List.length_append]; omega, hB.app hD (Blk.of_srt hZs), hRt, by rw [List.length_append]; omega, by omega⟩, rfl⟩, (St.imp.of_le (by (refine le_ofL rfl ?_ ?_ <;> (repeat (first | exact trivial | refine ⟨⟨rfl, rfl⟩, ?_⟩ | refine ⟨rfl, .inl rfl, ?_⟩ | refine ⟨rfl, .inr rfl, ?_⟩)))))⟩
        · omega
        · refine List.Perm.trans ?_ hp
          rw [hL, e5, List.append_assoc, ← List.append_assoc X1]
          exact List.Perm.append_left _ (List.Perm.append_right _ hZp.symm)
      · by_cases hmid : bs < R.length
        · have e3 := (List.take_append_drop bs R).symm
          have l1 : (R.take bs).length = bs := by rw [List.length_take]; omega
          have l2 : (R.drop bs).length = R.length - bs := List.length_drop ..
          rw [List.take_of_length_le (by omega)] at s1
          generalize R.take bs = X1 at e3 l1 s0
          generalize R.drop bs = Y1 at e3 l2 s1
          have hi := symMerge_fn (2 * bs) D X1 Y1 [] a (a + bi) n (by omega) ha (by omega) (by omega) (by omega) (by omega) (by simp; omega) s0 s1 (fun v hv => hfR v (by rw [e3]; simp [hv])) (fun v hv => hfR v (by rw [e3]; simp [hv]))
          rw [show D ++ X1 ++ Y1 ++ [] = L by rw [hL, e3]; simp] at hi
          repeat' (first | refine W.seq ?_ | refine W.rg ?_ | refine W.dra' ?_ | refine W.block ?_ | refine W.skip ?_ | refine W.exit ?_ | refine W.cond_true' ?_ | refine W.cond_false' ?_ | refine WG.nil ?_ | refine WG.run' (E := env) ?_ | refine WG.gt' ?_ | refine WG.gf' ?_ | refine WG.ixm' (E := env) ?_ | refine WG.ixo' (E := env) ?_ | refine WG.legm' (E := env) ?_ | refine WG.slS' (E := env) ?_ | refine WG.slD' (E := env) ?_ | refine WG.ap' (E := env) ?_ | refine WD.nil ?_ | refine WD.bs' (E := env) ?_ | refine WD.s' (E := env) (t := .d _) ?_ | refine WD.p' ?_ | refine WD.px' ?_ | refine WD.s' (E := env) (t := .ea _ _) ?_ | refine WD.s' (E := env) (t := .lp _ _) ?_ | refine WD.s' (E := env) (t := .og _ _) ?_ | refine WD.s' (E := env) (t := .agg _) ?_ | refine WD.s' (E := env) (t := .tup _) ?_ | refine WD.s' (E := env) (t := .clo _ _) ?_ | refine WD.ixm' (E := env) ?_ | refine WD.ixo' (E := env) ?_ | refine WD.legm' (E := env) ?_ | refine WD.slS' (E := env) ?_ | refine WD.slD' (E := env) ?_ | (refine WG.cQ (E := env) [0] [0] false rfl rfl hi rfl rfl rfl rfl rfl rfl rfl ⟨rfl, trivial⟩ (.inl rfl) (fun t ob ⟨e1, X', _, _, e2⟩ => ⟨by subst e2; rfl, fun h => nomatch h⟩) ?_; rintro _ _ ⟨rfl, Z, hZp, hZs, rfl⟩; refine (show WG _ _ _ _ _ _ ⟨upd _ _ (.tup []), [grV (D ++ Z ++ [])]⟩ from ?_)) | fail | ((first | refine WG.sp' (fun h => ?_) fun h => ?_ | refine W.cond' (fun h => ?_) fun h => ?_ | refine WD.sp' (fun h => ?_) fun h => ?_) <;> (try simp only [decide_eq_true_eq, decide_eq_false_iff_not, Bool.not_eq_true', Bool.not_eq_false', Bool.and_eq_true, Bool.or_eq_true, Bool.and_eq_false_iff, Bool.or_eq_false_iff, Bool.not_eq_true, Bool.not_eq_false, Int.not_lt, Int.not_le, List.length_map, beq_self_eq_true, Bool.true_eq_false, Bool.false_eq_true] at h) <;> (try (exfalso; first | contradiction | omega))))
          all_goals first | (exfalso; omega) | skip
          refine ⟨_, _, ?_, ⟨2 * bs, D ++ Z ++ [], bi * 2, rfl, ⟨by omega, by omega, ?_, by rw [List.append_nil]; exact hB.app hD (Blk.of_srt hZs)⟩, rfl⟩, (St.imp.of_le (by (refine le_ofL rfl ?_ ?_ <;> (repeat (first | exact trivial | refine ⟨⟨rfl, rfl⟩, ?_⟩ | refine ⟨rfl, .inl rfl, ?_⟩ | refine ⟨rfl, .inr rfl, ?_⟩)))))⟩
          · omega
          · refine List.Perm.trans ?_ hp
            rw [hL, e3, List.append_nil]
            exact List.Perm.append_left _ hZp.symm
        · repeat' (first | refine W.seq ?_ | refine W.rg ?_ | refine W.dra' ?_ | refine W.block ?_ | refine W.skip ?_ | refine W.exit ?_ | refine W.cond_true' ?_ | refine W.cond_false' ?_ | refine WG.nil ?_ | refine WG.run' (E := env) ?_ | refine WG.gt' ?_ | refine WG.gf' ?_ | refine WG.ixm' (E := env) ?_ | refine WG.ixo' (E := env) ?_ | refine WG.legm' (E := env) ?_ | refine WG.slS' (E := env) ?_ | refine WG.slD' (E := env) ?_ | refine WG.ap' (E := env) ?_ | refine WD.nil ?_ | refine WD.bs' (E := env) ?_ | refine WD.s' (E := env) (t := .d _) ?_ | refine WD.p' ?_ | refine WD.px' ?_ | refine WD.s' (E := env) (t := .ea _ _) ?_ | refine WD.s' (E := env) (t := .lp _ _) ?_ | refine WD.s' (E := env) (t := .og _ _) ?_ | refine WD.s' (E := env) (t := .agg _) ?_ | refine WD.s' (E := env) (t := .tup _) ?_ | refine WD.s' (E := env) (t := .clo _ _) ?_ | refine WD.ixm' (E := env) ?_ | refine WD.ixo' (E := env) ?_ | refine WD.legm' (E := env) ?_ | refine WD.slS' (E := env) ?_ | refine WD.slD' (E := env) ?_ | ((first | refine WG.sp' (fun h => ?_) fun h => ?_ | refine W.cond' (fun h => ?_) fun h => ?_ | refine WD.sp' (fun h => ?_) fun h => ?_) <;> (try simp only [decide_eq_true_eq, decide_eq_false_iff_not, Bool.not_eq_true', Bool.not_eq_false', Bool.and_eq_true, Bool.or_eq_true, Bool.and_eq_false_iff, Bool.or_eq_false_iff, Bool.not_eq_true, Bool.not_eq_false, Int.not_lt, Int.not_le, List.length_map, beq_self_eq_true, Bool.true_eq_false, Bool.false_eq_true] at h) <;> (try (exfalso; first | contradiction | omega))))
          all_goals first | (exfalso; omega) | skip
          refine ⟨_, _, ?_, ⟨2 * bs, L, bi * 2, rfl, ⟨by omega, by omega, hp, by rw [hL]; exact hB.app hD (Blk.of_srt (hR.all (by omega)))⟩, rfl⟩, (St.imp.of_le (by (refine le_ofL rfl ?_ ?_ <;> (repeat (first | exact trivial | refine ⟨⟨rfl, rfl⟩, ?_⟩ | refine ⟨rfl, .inl rfl, ?_⟩ | refine ⟨rfl, .inr rfl, ?_⟩)))))⟩
          omega
    · repeat' (first | refine W.seq ?_ | refine W.rg ?_ | refine W.dra' ?_ | refine W.block ?_ | refine W.skip ?_ | refine W.exit ?_ | refine W.cond_true' ?_ | refine W.cond_false' ?_ | refine WG.nil ?_ | refine WG.run' (E := env) ?_ | refine WG.gt' ?_ | refine WG.gf' ?_ | refine WG.ixm' (E := env) ?_ | refine WG.ixo' (E := env) ?_ | refine WG.legm' (E := env) ?_ | refine WG.slS' (E := env) ?_ | refine WG.slD' (E := env) ?_ | refine WG.ap' (E := env) ?_ | refine WD.nil ?_ | refine WD.bs' (E := env) ?_ | refine WD.s' (E := env) (t := .d _) ?_ | refine WD.p' ?_ | refine WD.px' ?_ | refine WD.s' (E := env) (t := .ea _ _) ?_ | refine WD.s' (E := env) (t := .lp _ _) ?_ | refine WD.s' (E := env) (t := .og _ _) ?_ | refine WD.s' (E := env) (t := .agg _) ?_ | refine WD.s' (E := env) (t := .tup _) ?_ | refine WD.s' (E := env) (t := .clo _ _) ?_ | refine WD.ixm' (E := env) ?_ | refine WD.ixo' (E := env) ?_ | refine WD.legm' (E := env) ?_ | refine WD.slS' (E := env) ?_ | refine WD.slD' (E := env) ?_ | ((first | refine WG.sp' (fun h => ?_) fun h => ?_ | refine W.cond' (fun h => ?_) fun h => ?_ | refine WD.sp' (fun h => ?_) fun h => ?_) <;> (try simp only [decide_eq_true_eq, decide_eq_false_iff_not, Bool.not_eq_true', Bool.not_eq_false', Bool.and_eq_true, Bool.or_eq_true, Bool.and_eq_false_iff, Bool.or_eq_false_iff, Bool.not_eq_true, Bool.not_eq_false, Int.not_lt, Int.not_le, List.length_map, beq_self_eq_true, Bool.true_eq_false, Bool.false_eq_true] at h) <;> (try (exfalso; first | contradiction | omega))))
      all_goals first | (exfalso; omega) | skip
      exact RetR.own (ob' := [grV L]) ⟨[0], [0], 1⟩ (.inr rfl) rfl (by first | trivial | exact resOK_of (E := env) rfl) rfl rfl rfl rfl rfl rfl ⟨rfl, trivial⟩ rfl ⟨rfl, L, hp.symm, hB.all (by omega), by simp⟩

theorem sortStable_fn (X : List V) (hl : X.length ≤ 4096) (hf : ∀ v ∈ X, v.fine) :
    FunQ env.P 232 [.og 0 0, cmpT] [grV X] (sorts [] X []) := by
  refine FunQ.intro Try.func232 rfl (by kernel_rfl) rfl ?_
  have hi := stable_fn X (rwV X).length (by simp) hl hf
  repeat' (first | refine W.seq ?_ | refine W.rg ?_ | refine W.dra' ?_ | refine W.block ?_ | refine W.skip ?_ | refine W.exit ?_ | refine W.cond_true' ?_ | refine W.cond_false' ?_ | refine WG.nil ?_ | refine WG.run' (E := env) ?_ | refine WG.gt' ?_ | refine WG.gf' ?_ | refine WG.ixm' (E := env) ?_ | refine WG.ixo' (E := env) ?_ | refine WG.legm' (E := env) ?_ | refine WG.slS' (E := env) ?_ | refine WG.slD' (E := env) ?_ | refine WG.ap' (E := env) ?_ | refine WD.nil ?_ | refine WD.bs' (E := env) ?_ | refine WD.s' (E := env) (t := .d _) ?_ | refine WD.p' ?_ | refine WD.px' ?_ | refine WD.s' (E := env) (t := .ea _ _) ?_ | refine WD.s' (E := env) (t := .lp _ _) ?_ | refine WD.s' (E := env) (t := .og _ _) ?_ | refine WD.s' (E := env) (t := .agg _) ?_ | refine WD.s' (E := env) (t := .tup _) ?_ | refine WD.s' (E := env) (t := .clo _ _) ?_ | refine WD.ixm' (E := env) ?_ | refine WD.ixo' (E := env) ?_ | refine WD.legm' (E := env) ?_ | refine WD.slS' (E := env) ?_ | refine WD.slD' (E := env) ?_ | (refine WG.cQ (E := env) [0] [0] false rfl rfl hi rfl rfl rfl rfl rfl rfl rfl ⟨rfl, trivial⟩ (.inl rfl) (fun t ob ⟨e1, X', _, _, e2⟩ => ⟨by subst e2; rfl, fun h => nomatch h⟩) ?_; rintro _ _ ⟨rfl, Z, hZp, hZs, rfl⟩; refine (show WG _ _ _ _ _ _ ⟨upd _ _ (.tup []), [grV ([] ++ Z ++ [])]⟩ from ?_)) | fail | ((first | refine WG.sp' (fun h => ?_) fun h => ?_ | refine W.cond' (fun h => ?_) fun h => ?_ | refine WD.sp' (fun h => ?_) fun h => ?_) <;> (try simp only [decide_eq_true_eq, decide_eq_false_iff_not, Bool.not_eq_true', Bool.not_eq_false', Bool.and_eq_true, Bool.or_eq_true, Bool.and_eq_false_iff, Bool.or_eq_false_iff, Bool.not_eq_true, Bool.not_eq_false, Int.not_lt, Int.not_le, List.length_map, beq_self_eq_true, Bool.true_eq_false, Bool.false_eq_true] at h) <;> (try (exfalso; first | contradiction | omega))))
  exact RetR.own (ob' := [grV ([] ++ Z ++ [])]) ⟨[0], [0], 1⟩ (.inr rfl) rfl (by first | trivial | exact resOK_of (E := env) rfl) rfl rfl rfl rfl rfl rfl ⟨rfl, trivial⟩ rfl ⟨rfl, Z, hZp, hZs, rfl⟩

end Go.Proofs.Ytlegadpbjccelaa
