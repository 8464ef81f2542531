/-
  The parts of a value put together again: the law. Conditions: none.
-/
import Derived.Test.YtlegadpbjccelaaQPartsPa4
set_option linter.unusedVariables false
set_option linter.unusedSimpArgs false
set_option maxRecDepth 100000
namespace Go.Proofs.Ytlegadpbjccelaa
open Go.RowKit

set_option maxHeartbeats 8000000 in
theorem lawParts_fn (bs : List Int) (hm : bs.length ≤ maxLen) (h8 : ∀ b ∈ bs, 0 ≤ b ∧ b ≤ 255) : Fun env.P 12 [bytD bs] (.d (dB true)) [] := by
  have hbig := lwBig_fn bs
  by_cases hl : 1048576 < bs.length
  · refine Fun.intro Try.func12 rfl (by kernel_rfl) rfl ?_
    repeat' (first | refine W.seq ?_ | refine W.rg ?_ | refine W.dra' ?_ | refine W.block ?_ | refine W.skip ?_ | refine W.exit ?_ | refine W.cond_true' ?_ | refine W.cond_false' ?_ | refine WG.nil ?_ | refine WG.run' (E := env) ?_ | refine WG.gt' ?_ | refine WG.gf' ?_ | refine WG.ixm' (E := env) ?_ | refine WG.ixo' (E := env) ?_ | refine WG.legm' (E := env) ?_ | refine WG.slS' (E := env) ?_ | refine WG.slD' (E := env) ?_ | refine WG.ap' (E := env) ?_ | refine WD.nil ?_ | refine WD.bs' (E := env) ?_ | refine WD.s' (E := env) (t := .d _) ?_ | refine WD.p' ?_ | refine WD.px' ?_ | refine WD.s' (E := env) (t := .ea _ _) ?_ | refine WD.s' (E := env) (t := .lp _ _) ?_ | refine WD.s' (E := env) (t := .og _ _) ?_ | refine WD.s' (E := env) (t := .agg _) ?_ | refine WD.s' (E := env) (t := .tup _) ?_ | refine WD.s' (E := env) (t := .clo _ _) ?_ | refine WD.ixm' (E := env) ?_ | refine WD.ixo' (E := env) ?_ | refine WD.legm' (E := env) ?_ | refine WD.slS' (E := env) ?_ | refine WD.slD' (E := env) ?_ | refine WG.c (E := env) rfl rfl (hbig) rfl rfl ?_ | refine WD.c (E := env) rfl rfl (hbig) rfl rfl ?_ | refine WG.co (E := env) rfl rfl (hbig) rfl rfl rfl rfl ?_ | refine WG.cx (E := env) rfl (hbig) rfl ?_ | ((first | refine WG.sp' (fun h => ?_) fun h => ?_ | refine W.cond' (fun h => ?_) fun h => ?_ | refine WD.sp' (fun h => ?_) fun h => ?_) <;> (try simp only [decide_eq_true_eq, decide_eq_false_iff_not, Bool.not_eq_true', Bool.not_eq_false', Bool.and_eq_true, Bool.or_eq_true, Bool.and_eq_false_iff, Bool.or_eq_false_iff, Bool.not_eq_true, Bool.not_eq_false, Int.not_lt, Int.not_le, List.length_map, beq_self_eq_true, Bool.true_eq_false, Bool.false_eq_true] at h) <;> (try (exfalso; first | contradiction | omega))))
    all_goals first | (exfalso; simp at *; omega) | skip
    all_goals (refine W.ret ?_; (first | refine RetQ.b' ?_ | refine RetQ.i' ?_ | refine RetQ.d' ?_ | refine RetQ.t2' ?_ ?_ | refine RetQ.t3' ?_ ?_ ?_))
    all_goals rfl
  have hb : okB bs := ⟨by omega, h8⟩
  refine Fun.intro Try.func12 rfl (by kernel_rfl) rfl ?_
  repeat' (first | refine W.seq ?_ | refine W.rg ?_ | refine W.dra' ?_ | refine W.block ?_ | refine W.skip ?_ | refine W.exit ?_ | refine W.cond_true' ?_ | refine W.cond_false' ?_ | refine WG.nil ?_ | refine WG.run' (E := env) ?_ | refine WG.gt' ?_ | refine WG.gf' ?_ | refine WG.ixm' (E := env) ?_ | refine WG.ixo' (E := env) ?_ | refine WG.legm' (E := env) ?_ | refine WG.slS' (E := env) ?_ | refine WG.slD' (E := env) ?_ | refine WG.ap' (E := env) ?_ | refine WD.nil ?_ | refine WD.bs' (E := env) ?_ | refine WD.s' (E := env) (t := .d _) ?_ | refine WD.p' ?_ | refine WD.px' ?_ | refine WD.s' (E := env) (t := .ea _ _) ?_ | refine WD.s' (E := env) (t := .lp _ _) ?_ | refine WD.s' (E := env) (t := .og _ _) ?_ | refine WD.s' (E := env) (t := .agg _) ?_ | refine WD.s' (E := env) (t := .tup _) ?_ | refine WD.s' (E := env) (t := .clo _ _) ?_ | refine WD.ixm' (E := env) ?_ | refine WD.ixo' (E := env) ?_ | refine WD.legm' (E := env) ?_ | refine WD.slS' (E := env) ?_ | refine WD.slD' (E := env) ?_ | (refine WG.cQ (E := env) [] [] false rfl rfl (DrawEachOf_fn bs hb) rfl rfl rfl rfl rfl rfl rfl trivial (.inl rfl) (fun t ob ⟨a, e1, e2, _⟩ => ⟨by subst e2; rfl, fun h => nomatch h⟩) ?_; rintro _ _ ⟨a, rfl, rfl, ha⟩; refine (show WG _ _ _ _ _ _ ⟨upd _ _ (.d (cellsD a)), []⟩ from ?_)) | refine WG.c (E := env) rfl rfl (hbig) rfl rfl ?_ | refine WD.c (E := env) rfl rfl (hbig) rfl rfl ?_ | refine WG.co (E := env) rfl rfl (hbig) rfl rfl rfl rfl ?_ | refine WG.cx (E := env) rfl (hbig) rfl ?_ | ((first | refine WG.sp' (fun h => ?_) fun h => ?_ | refine W.cond' (fun h => ?_) fun h => ?_ | refine WD.sp' (fun h => ?_) fun h => ?_) <;> (try simp only [decide_eq_true_eq, decide_eq_false_iff_not, Bool.not_eq_true', Bool.not_eq_false', Bool.and_eq_true, Bool.or_eq_true, Bool.and_eq_false_iff, Bool.or_eq_false_iff, Bool.not_eq_true, Bool.not_eq_false, Int.not_lt, Int.not_le, List.length_map, beq_self_eq_true, Bool.true_eq_false, Bool.false_eq_true] at h) <;> (try (exfalso; first | contradiction | omega))))
  all_goals first | (exfalso; simp at *; omega) | skip
  have h1 := EachOfD_fn a ha
  have h2 := EachOfS_fn a ha
  by_cases hc : eachC a = 0
  case neg =>
    generalize eachC a = code at h1 h2 hc
    generalize eachL a = rs at h1 h2
    repeat' (first | refine W.seq ?_ | refine W.rg ?_ | refine W.dra' ?_ | refine W.block ?_ | refine W.skip ?_ | refine W.exit ?_ | refine W.cond_true' ?_ | refine W.cond_false' ?_ | refine WG.nil ?_ | refine WG.run' (E := env) ?_ | refine WG.gt' ?_ | refine WG.gf' ?_ | refine WG.ixm' (E := env) ?_ | refine WG.ixo' (E := env) ?_ | refine WG.legm' (E := env) ?_ | refine WG.slS' (E := env) ?_ | refine WG.slD' (E := env) ?_ | refine WG.ap' (E := env) ?_ | refine WD.nil ?_ | refine WD.bs' (E := env) ?_ | refine WD.s' (E := env) (t := .d _) ?_ | refine WD.p' ?_ | refine WD.px' ?_ | refine WD.s' (E := env) (t := .ea _ _) ?_ | refine WD.s' (E := env) (t := .lp _ _) ?_ | refine WD.s' (E := env) (t := .og _ _) ?_ | refine WD.s' (E := env) (t := .agg _) ?_ | refine WD.s' (E := env) (t := .tup _) ?_ | refine WD.s' (E := env) (t := .clo _ _) ?_ | refine WD.ixm' (E := env) ?_ | refine WD.ixo' (E := env) ?_ | refine WD.legm' (E := env) ?_ | refine WD.slS' (E := env) ?_ | refine WD.slD' (E := env) ?_ | refine WG.c (E := env) rfl rfl (h1) rfl rfl ?_ | refine WD.c (E := env) rfl rfl (h1) rfl rfl ?_ | refine WG.co (E := env) rfl rfl (h1) rfl rfl rfl rfl ?_ | refine WG.cx (E := env) rfl (h1) rfl ?_ | refine WG.c (E := env) rfl rfl (h2) rfl rfl ?_ | refine WD.c (E := env) rfl rfl (h2) rfl rfl ?_ | refine WG.co (E := env) rfl rfl (h2) rfl rfl rfl rfl ?_ | refine WG.cx (E := env) rfl (h2) rfl ?_ | ((first | refine WG.sp' (fun h => ?_) fun h => ?_ | refine W.cond' (fun h => ?_) fun h => ?_ | refine WD.sp' (fun h => ?_) fun h => ?_) <;> (try simp only [decide_eq_true_eq, decide_eq_false_iff_not, Bool.not_eq_true', Bool.not_eq_false', Bool.and_eq_true, Bool.or_eq_true, Bool.and_eq_false_iff, Bool.or_eq_false_iff, Bool.not_eq_true, Bool.not_eq_false, Int.not_lt, Int.not_le, List.length_map, beq_self_eq_true, Bool.true_eq_false, Bool.false_eq_true] at h) <;> (try (exfalso; first | contradiction | omega))))
    all_goals first | (exfalso; omega) | skip
    all_goals (refine W.ret ?_; (first | refine RetQ.b' ?_ | refine RetQ.i' ?_ | refine RetQ.d' ?_ | refine RetQ.t2' ?_ ?_ | refine RetQ.t3' ?_ ?_ ?_))
    all_goals simp
  have h0 : (valOfM a).2 = 0 := Classical.byContradiction fun h => h (by rw [← hc, eachC, if_neg h])
  have hk : (valOfM a).1.kind = 5 ∨ (valOfM a).1.kind = 6 := Classical.byContradiction fun h => by rw [eachC, if_pos h0, if_neg h] at hc; exact absurd hc (by decide)
  have hel : eachL a = (valOfM a).1.kids := by rw [eachL, if_pos h0, if_pos hk]
  rw [hc, hel] at h1
  clear h2 hc hel
  obtain ⟨hf, ea⟩ := valOfM_fine h0
  generalize (valOfM a).1 = v at *
  subst ea
  have c1 := chM_fn hf
  have hlen := V.ats_length v 0 v.kids.length
  have hml : (v.kids.map partR).length = v.kids.length := by simp
  have hal : ((v.ats 0 v.kids.length).map intRow).length = v.kids.length := by rw [List.length_map, hlen]
  repeat' (first | refine W.seq ?_ | refine W.rg ?_ | refine W.dra' ?_ | refine W.block ?_ | refine W.skip ?_ | refine W.exit ?_ | refine W.cond_true' ?_ | refine W.cond_false' ?_ | refine WG.nil ?_ | refine WG.run' (E := env) ?_ | refine WG.gt' ?_ | refine WG.gf' ?_ | refine WG.ixm' (E := env) ?_ | refine WG.ixo' (E := env) ?_ | refine WG.legm' (E := env) ?_ | refine WG.slS' (E := env) ?_ | refine WG.slD' (E := env) ?_ | refine WG.ap' (E := env) ?_ | refine WD.nil ?_ | refine WD.bs' (E := env) ?_ | refine WD.s' (E := env) (t := .d _) ?_ | refine WD.p' ?_ | refine WD.px' ?_ | refine WD.s' (E := env) (t := .ea _ _) ?_ | refine WD.s' (E := env) (t := .lp _ _) ?_ | refine WD.s' (E := env) (t := .og _ _) ?_ | refine WD.s' (E := env) (t := .agg _) ?_ | refine WD.s' (E := env) (t := .tup _) ?_ | refine WD.s' (E := env) (t := .clo _ _) ?_ | refine WD.ixm' (E := env) ?_ | refine WD.ixo' (E := env) ?_ | refine WD.legm' (E := env) ?_ | refine WD.slS' (E := env) ?_ | refine WD.slD' (E := env) ?_ | refine WG.c (E := env) rfl rfl (h1) rfl rfl ?_ | refine WD.c (E := env) rfl rfl (h1) rfl rfl ?_ | refine WG.co (E := env) rfl rfl (h1) rfl rfl rfl rfl ?_ | refine WG.cx (E := env) rfl (h1) rfl ?_ | refine WG.c (E := env) rfl rfl (c1) rfl rfl ?_ | refine WD.c (E := env) rfl rfl (c1) rfl rfl ?_ | refine WG.co (E := env) rfl rfl (c1) rfl rfl rfl rfl ?_ | refine WG.cx (E := env) rfl (c1) rfl ?_ | ((first | refine WG.sp' (fun h => ?_) fun h => ?_ | refine W.cond' (fun h => ?_) fun h => ?_ | refine WD.sp' (fun h => ?_) fun h => ?_) <;> (try simp only [decide_eq_true_eq, decide_eq_false_iff_not, Bool.not_eq_true', Bool.not_eq_false', Bool.and_eq_true, Bool.or_eq_true, Bool.and_eq_false_iff, Bool.or_eq_false_iff, Bool.not_eq_true, Bool.not_eq_false, Int.not_lt, Int.not_le, List.length_map, beq_self_eq_true, Bool.true_eq_false, Bool.false_eq_true] at h) <;> (try (exfalso; first | contradiction | omega))))
  refine W.loopI (fun m S => ∃ (i : Nat) (rk : List (List D)), m = v.kids.length - i ∧ (i ≤ v.kids.length ∧ rk.length ≤ i ∧ rk = (v.keysL i).map keyRow) ∧
    S = ⟨ofL [(3, .d (cellsD v.cells)), (4, .lp 0 0), (5, .lp 1 0), (6, .og 2 0), (7, vI .i64 i)],
      [.pv [.d (dI 0), .d (.sl 1 (v.kids.map partR))], .pv [.d (dI 0), .d (.sl 1 ((v.ats 0 v.kids.length).map intRow))], .gr 1 9 rk 0 false]⟩) _ _ ⟨0, [], rfl, ⟨by omega, by simp, rfl⟩, rfl⟩ (St.imp.of_le (by (refine le_ofL rfl ?_ ?_ <;> (repeat (first | exact trivial | refine ⟨⟨rfl, rfl⟩, ?_⟩ | refine ⟨rfl, .inl rfl, ?_⟩ | refine ⟨rfl, .inr rfl, ?_⟩))))) ?_
  rintro m S ⟨i, rk, rfl, ⟨hi, hrk, ek⟩, rfl⟩
  have hlc := V.length_counts v.kids
  have hce := V.count_eq v
  have hv200 := hf.2.1
  by_cases hlt : i < v.kids.length
  · obtain ⟨p1, p2, p3⟩ := part_kid hf hlt
    have hat : (v.ats 0 v.kids.length).getD (Int.toNat (i : Int)) default = ((v.at 0 i : Nat) : Int) := by rw [Int.toNat_natCast]; exact V.ats_at v 0 _ i hlt
    have pt := ptM_fn hf hlt
    have sm := sameM_fn ((V.fine_kids hf _ (getD_mem' hlt)).1)
    rw [← hat] at pt
    rw [show i = Int.toNat (i : Int) from (Int.toNat_natCast i).symm] at sm pt
    have hb1 : 0 ≤ (v.ats 0 v.kids.length).getD (Int.toNat (i : Int)) default ∧ (v.ats 0 v.kids.length).getD (Int.toNat (i : Int)) default < (v.cells.length : Int) := by rw [hat]; omega
    repeat' (first | refine W.seq ?_ | refine W.rg ?_ | refine W.dra' ?_ | refine W.block ?_ | refine W.skip ?_ | refine W.exit ?_ | refine W.cond_true' ?_ | refine W.cond_false' ?_ | refine WG.nil ?_ | refine WG.run' (E := env) ?_ | refine WG.gt' ?_ | refine WG.gf' ?_ | refine WG.ixm' (E := env) ?_ | refine WG.ixo' (E := env) ?_ | refine WG.legm' (E := env) ?_ | refine WG.slS' (E := env) ?_ | refine WG.slD' (E := env) ?_ | refine WG.ap' (E := env) ?_ | refine WD.nil ?_ | refine WD.bs' (E := env) ?_ | refine WD.s' (E := env) (t := .d _) ?_ | refine WD.p' ?_ | refine WD.px' ?_ | refine WD.s' (E := env) (t := .ea _ _) ?_ | refine WD.s' (E := env) (t := .lp _ _) ?_ | refine WD.s' (E := env) (t := .og _ _) ?_ | refine WD.s' (E := env) (t := .agg _) ?_ | refine WD.s' (E := env) (t := .tup _) ?_ | refine WD.s' (E := env) (t := .clo _ _) ?_ | refine WD.ixm' (E := env) ?_ | refine WD.ixo' (E := env) ?_ | refine WD.legm' (E := env) ?_ | refine WD.slS' (E := env) ?_ | refine WD.slD' (E := env) ?_ | refine WG.c (E := env) rfl rfl (pt) rfl rfl ?_ | refine WD.c (E := env) rfl rfl (pt) rfl rfl ?_ | refine WG.co (E := env) rfl rfl (pt) rfl rfl rfl rfl ?_ | refine WG.cx (E := env) rfl (pt) rfl ?_ | refine WG.c (E := env) rfl rfl (sm) rfl rfl ?_ | refine WD.c (E := env) rfl rfl (sm) rfl rfl ?_ | refine WG.co (E := env) rfl rfl (sm) rfl rfl rfl rfl ?_ | refine WG.cx (E := env) rfl (sm) rfl ?_ | ((first | refine WG.sp' (fun h => ?_) fun h => ?_ | refine W.cond' (fun h => ?_) fun h => ?_ | refine WD.sp' (fun h => ?_) fun h => ?_) <;> (try simp only [decide_eq_true_eq, decide_eq_false_iff_not, Bool.not_eq_true', Bool.not_eq_false', Bool.and_eq_true, Bool.or_eq_true, Bool.and_eq_false_iff, Bool.or_eq_false_iff, Bool.not_eq_true, Bool.not_eq_false, Int.not_lt, Int.not_le, List.length_map, beq_self_eq_true, Bool.true_eq_false, Bool.false_eq_true] at h) <;> (try (exfalso; first | contradiction | omega))))
    all_goals first | (exfalso; simp at *; done) | skip
    refine ⟨_, _, by omega, ⟨i + 1, rk ++ [keyRow (v.cells.getD (Int.toNat ((v.ats 0 v.kids.length).getD (Int.toNat (i : Int)) default)) default).key], rfl, ⟨by omega, by rw [List.length_append, List.length_singleton]; omega, ?_⟩, rfl⟩, (St.imp.rev 2 1 rfl).trans (St.imp.of_le (by (refine le_ofL rfl ?_ ?_ <;> (repeat (first | exact trivial | refine ⟨⟨rfl, rfl⟩, ?_⟩ | refine ⟨rfl, .inl rfl, ?_⟩ | refine ⟨rfl, .inr rfl, ?_⟩)))))⟩
    have ekey : (v.cells.getD (Int.toNat ((v.ats 0 v.kids.length).getD (Int.toNat (i : Int)) default)) default).key = v.keys.getD i noS := by rw [hat, Int.toNat_natCast]; exact p2
    rw [V.keysL_succ, List.map_append, ← ek, ← ekey]
    rfl
  obtain rfl : i = v.kids.length := by omega
  obtain ⟨f1, f2, f3⟩ := kids_firstV hf
  have hl1 := cells_pos v
  have eD : cellssD (v.kids.map V.cells) = .sl 1 (v.kids.map partR) := by rw [cellssD, List.map_map]; rfl
  have sv := sameM_fn hf
  have en := EndAt_fn v.cells 0 (fine_fits hf)
  rw [endAtM, place_fine hf (Int.le_refl 0) (by omega), if_neg (by simp)] at en
  have eE : endM v.cells (Int.toNat 0) = v.cells.length := by
    unfold endM
    rw [show Int.toNat 0 = 0 from rfl, V.valA_cells v hf.1]
    exact (V.cellsK_length v noS).symm
  rw [eE] at en
  have ekd : (v.cells.getD (Int.toNat 0) default).kind = v.kind := by
    obtain ⟨r, hr⟩ := V.cells_cons v
    rw [hr]; rfl
  rcases hk with hk | hk
  · have ar := arM_fn hf hk
    rw [eD] at ar
    refine W.pub 2 rfl ?_
    repeat' (first | refine W.seq ?_ | refine W.rg ?_ | refine W.dra' ?_ | refine W.block ?_ | refine W.skip ?_ | refine W.exit ?_ | refine W.cond_true' ?_ | refine W.cond_false' ?_ | refine WG.nil ?_ | refine WG.run' (E := env) ?_ | refine WG.gt' ?_ | refine WG.gf' ?_ | refine WG.ixm' (E := env) ?_ | refine WG.ixo' (E := env) ?_ | refine WG.legm' (E := env) ?_ | refine WG.slS' (E := env) ?_ | refine WG.slD' (E := env) ?_ | refine WG.ap' (E := env) ?_ | refine WD.nil ?_ | refine WD.bs' (E := env) ?_ | refine WD.s' (E := env) (t := .d _) ?_ | refine WD.p' ?_ | refine WD.px' ?_ | refine WD.s' (E := env) (t := .ea _ _) ?_ | refine WD.s' (E := env) (t := .lp _ _) ?_ | refine WD.s' (E := env) (t := .og _ _) ?_ | refine WD.s' (E := env) (t := .agg _) ?_ | refine WD.s' (E := env) (t := .tup _) ?_ | refine WD.s' (E := env) (t := .clo _ _) ?_ | refine WD.ixm' (E := env) ?_ | refine WD.ixo' (E := env) ?_ | refine WD.legm' (E := env) ?_ | refine WD.slS' (E := env) ?_ | refine WD.slD' (E := env) ?_ | refine WG.c (E := env) rfl rfl (ar) rfl rfl ?_ | refine WD.c (E := env) rfl rfl (ar) rfl rfl ?_ | refine WG.co (E := env) rfl rfl (ar) rfl rfl rfl rfl ?_ | refine WG.cx (E := env) rfl (ar) rfl ?_ | refine WG.c (E := env) rfl rfl (sv) rfl rfl ?_ | refine WD.c (E := env) rfl rfl (sv) rfl rfl ?_ | refine WG.co (E := env) rfl rfl (sv) rfl rfl rfl rfl ?_ | refine WG.cx (E := env) rfl (sv) rfl ?_ | refine WG.c (E := env) rfl rfl (en) rfl rfl ?_ | refine WD.c (E := env) rfl rfl (en) rfl rfl ?_ | refine WG.co (E := env) rfl rfl (en) rfl rfl rfl rfl ?_ | refine WG.cx (E := env) rfl (en) rfl ?_ | ((first | refine WG.sp' (fun h => ?_) fun h => ?_ | refine W.cond' (fun h => ?_) fun h => ?_ | refine WD.sp' (fun h => ?_) fun h => ?_) <;> (try simp only [decide_eq_true_eq, decide_eq_false_iff_not, Bool.not_eq_true', Bool.not_eq_false', Bool.and_eq_true, Bool.or_eq_true, Bool.and_eq_false_iff, Bool.or_eq_false_iff, Bool.not_eq_true, Bool.not_eq_false, Int.not_lt, Int.not_le, List.length_map, beq_self_eq_true, Bool.true_eq_false, Bool.false_eq_true] at h) <;> (try (exfalso; first | contradiction | omega))))
    all_goals rw [ekd] at *
    all_goals first | (exfalso; omega) | skip
    all_goals (refine W.ret ?_; (first | refine RetQ.b' ?_ | refine RetQ.i' ?_ | refine RetQ.d' ?_ | refine RetQ.t2' ?_ ?_ | refine RetQ.t3' ?_ ?_ ?_))
    all_goals first | rfl | simp
  · have ar := FunQ.pubA rfl (ArrayValue_fn (v.kids.map V.cells) f3)
    generalize arrC (v.kids.map V.cells) = ac at ar
    generalize arrR (v.kids.map V.cells) = ax at ar
    rw [eD] at ar
    have ob := obM_fn hf hk
    rw [eD] at ob
    have hkl : v.keysL v.kids.length = v.keys := V.keysL_obj hf.1 hk
    rw [hkl] at ek
    subst ek
    refine W.pub 2 rfl ?_
    repeat' (first | refine W.seq ?_ | refine W.rg ?_ | refine W.dra' ?_ | refine W.block ?_ | refine W.skip ?_ | refine W.exit ?_ | refine W.cond_true' ?_ | refine W.cond_false' ?_ | refine WG.nil ?_ | refine WG.run' (E := env) ?_ | refine WG.gt' ?_ | refine WG.gf' ?_ | refine WG.ixm' (E := env) ?_ | refine WG.ixo' (E := env) ?_ | refine WG.legm' (E := env) ?_ | refine WG.slS' (E := env) ?_ | refine WG.slD' (E := env) ?_ | refine WG.ap' (E := env) ?_ | refine WD.nil ?_ | refine WD.bs' (E := env) ?_ | refine WD.s' (E := env) (t := .d _) ?_ | refine WD.p' ?_ | refine WD.px' ?_ | refine WD.s' (E := env) (t := .ea _ _) ?_ | refine WD.s' (E := env) (t := .lp _ _) ?_ | refine WD.s' (E := env) (t := .og _ _) ?_ | refine WD.s' (E := env) (t := .agg _) ?_ | refine WD.s' (E := env) (t := .tup _) ?_ | refine WD.s' (E := env) (t := .clo _ _) ?_ | refine WD.ixm' (E := env) ?_ | refine WD.ixo' (E := env) ?_ | refine WD.legm' (E := env) ?_ | refine WD.slS' (E := env) ?_ | refine WD.slD' (E := env) ?_ | refine WG.c (E := env) rfl rfl (ar) rfl rfl ?_ | refine WD.c (E := env) rfl rfl (ar) rfl rfl ?_ | refine WG.co (E := env) rfl rfl (ar) rfl rfl rfl rfl ?_ | refine WG.cx (E := env) rfl (ar) rfl ?_ | refine WG.c (E := env) rfl rfl (ob) rfl rfl ?_ | refine WD.c (E := env) rfl rfl (ob) rfl rfl ?_ | refine WG.co (E := env) rfl rfl (ob) rfl rfl rfl rfl ?_ | refine WG.cx (E := env) rfl (ob) rfl ?_ | refine WG.c (E := env) rfl rfl (sv) rfl rfl ?_ | refine WD.c (E := env) rfl rfl (sv) rfl rfl ?_ | refine WG.co (E := env) rfl rfl (sv) rfl rfl rfl rfl ?_ | refine WG.cx (E := env) rfl (sv) rfl ?_ | refine WG.c (E := env) rfl rfl (en) rfl rfl ?_ | refine WD.c (E := env) rfl rfl (en) rfl rfl ?_ | refine WG.co (E := env) rfl rfl (en) rfl rfl rfl rfl ?_ | refine WG.cx (E := env) rfl (en) rfl ?_ | ((first | refine WG.sp' (fun h => ?_) fun h => ?_ | refine W.cond' (fun h => ?_) fun h => ?_ | refine WD.sp' (fun h => ?_) fun h => ?_) <;> (try simp only [decide_eq_true_eq, decide_eq_false_iff_not, Bool.not_eq_true', Bool.not_eq_false', Bool.and_eq_true, Bool.or_eq_true, Bool.and_eq_false_iff, Bool.or_eq_false_iff, Bool.not_eq_true, Bool.not_eq_false, Int.not_lt, Int.not_le, List.length_map, beq_self_eq_true, Bool.true_eq_false, Bool.false_eq_true] at h) <;> (try (exfalso; first | contradiction | omega))))
    all_goals rw [ekd] at *
    all_goals first | (exfalso; omega) | skip
    all_goals (refine W.ret ?_; (first | refine RetQ.b' ?_ | refine RetQ.i' ?_ | refine RetQ.d' ?_ | refine RetQ.t2' ?_ ?_ | refine RetQ.t3' ?_ ?_ ?_))
    all_goals first | rfl | simp

theorem lawParts (xs : List D) (h : wfAs env.P [22] xs) : Fun env.P 12 xs (.d (dB true)) [] := by
  match xs, h with
  | [x], ⟨h, _⟩ =>
    obtain ⟨rows, rfl, hm, n, hr⟩ := wfA_sl (e := 5) (by kernel_rfl) h
    obtain ⟨bs, rfl, hbs⟩ := rows_map (f := fun b : Int => [dY b]) (p := fun b => 0 ≤ b ∧ b ≤ 255) fun r hmem => by
      obtain ⟨hl, hw⟩ := hr r hmem
      rw [show env.P.cellsOf 5 = 1 by kernel_rfl] at hl
      match r, hl, hw with
      | [y], _, hw =>
        obtain ⟨i, hi, rfl⟩ := wfD_int (k := .u8) (by kernel_rfl) hw
        refine ⟨i, ?_, rfl⟩
        simp only [Lit.wf, Bool.and_eq_true, decide_eq_true_eq] at hi
        have e1 : IntKind.min .u8 = 0 := by decide
        have e2 : IntKind.max .u8 = 255 := by decide
        omega
    rw [show env.P.cellsOf 5 = 1 by kernel_rfl]
    exact lawParts_fn bs (by simpa using hm) hbs

end Go.Proofs.Ytlegadpbjccelaa
