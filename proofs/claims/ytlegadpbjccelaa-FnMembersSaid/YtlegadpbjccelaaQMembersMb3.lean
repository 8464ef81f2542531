/-
  A member that is set is got, one that is dropped is not: the law. Conditions: none.
-/
import Derived.Test.YtlegadpbjccelaaQMembersMb2
set_option linter.unusedVariables false
set_option linter.unusedSimpArgs false
set_option maxRecDepth 100000
namespace Go.Proofs.Ytlegadpbjccelaa
open Go.RowKit

def zS : ByteArray := { data := #[122] }
theorem zS_ne (s : ByteArray) : s ++ zS ≠ s := fun h => by
  have h1 := congrArg ByteArray.size h
  rw [ByteArray.size_append, show zS.size = 1 from rfl] at h1
  omega

set_option maxHeartbeats 8000000 in
theorem lawMembers_fn (bs : List Int) (hm : bs.length ≤ maxLen) (h8 : ∀ b ∈ bs, 0 ≤ b ∧ b ≤ 255) : Fun env.P 13 [bytD bs] (.d (dB true)) [] := by
  have hbig := lwBig_fn bs
  by_cases hl : 1048576 < bs.length
  · refine Fun.intro Try.func13 rfl (by kernel_rfl) rfl ?_
    repeat' (first | refine W.seq ?_ | refine W.rg ?_ | refine W.dra' ?_ | refine W.block ?_ | refine W.skip ?_ | refine W.exit ?_ | refine W.cond_true' ?_ | refine W.cond_false' ?_ | refine WG.nil ?_ | refine WG.run' (E := env) ?_ | refine WG.gt' ?_ | refine WG.gf' ?_ | refine WG.ixm' (E := env) ?_ | refine WG.ixo' (E := env) ?_ | refine WG.legm' (E := env) ?_ | refine WG.slS' (E := env) ?_ | refine WG.slD' (E := env) ?_ | refine WG.ap' (E := env) ?_ | refine WD.nil ?_ | refine WD.bs' (E := env) ?_ | refine WD.s' (E := env) (t := .d _) ?_ | refine WD.p' ?_ | refine WD.px' ?_ | refine WD.s' (E := env) (t := .ea _ _) ?_ | refine WD.s' (E := env) (t := .lp _ _) ?_ | refine WD.s' (E := env) (t := .og _ _) ?_ | refine WD.s' (E := env) (t := .agg _) ?_ | refine WD.s' (E := env) (t := .tup _) ?_ | refine WD.s' (E := env) (t := .clo _ _) ?_ | refine WD.ixm' (E := env) ?_ | refine WD.ixo' (E := env) ?_ | refine WD.legm' (E := env) ?_ | refine WD.slS' (E := env) ?_ | refine WD.slD' (E := env) ?_ | refine WG.c (E := env) rfl rfl (hbig) rfl rfl ?_ | refine WD.c (E := env) rfl rfl (hbig) rfl rfl ?_ | refine WG.co (E := env) rfl rfl (hbig) rfl rfl rfl rfl ?_ | refine WG.cx (E := env) rfl (hbig) rfl ?_ | ((first | refine WG.sp' (fun h => ?_) fun h => ?_ | refine W.cond' (fun h => ?_) fun h => ?_ | refine WD.sp' (fun h => ?_) fun h => ?_) <;> (try simp only [decide_eq_true_eq, decide_eq_false_iff_not, Bool.not_eq_true', Bool.not_eq_false', Bool.and_eq_true, Bool.or_eq_true, Bool.and_eq_false_iff, Bool.or_eq_false_iff, Bool.not_eq_true, Bool.not_eq_false, Int.not_lt, Int.not_le, List.length_map, beq_self_eq_true, Bool.true_eq_false, Bool.false_eq_true] at h) <;> (try (exfalso; first | contradiction | omega))))
    all_goals first | (exfalso; simp at *; omega) | skip
    all_goals (refine W.ret ?_; (first | refine RetQ.b' ?_ | refine RetQ.i' ?_ | refine RetQ.d' ?_ | refine RetQ.t2' ?_ ?_ | refine RetQ.t3' ?_ ?_ ?_))
    all_goals rfl
  have hb : okB bs := ⟨by omega, h8⟩
  refine Fun.intro Try.func13 rfl (by kernel_rfl) rfl ?_
  repeat' (first | refine W.seq ?_ | refine W.rg ?_ | refine W.dra' ?_ | refine W.block ?_ | refine W.skip ?_ | refine W.exit ?_ | refine W.cond_true' ?_ | refine W.cond_false' ?_ | refine WG.nil ?_ | refine WG.run' (E := env) ?_ | refine WG.gt' ?_ | refine WG.gf' ?_ | refine WG.ixm' (E := env) ?_ | refine WG.ixo' (E := env) ?_ | refine WG.legm' (E := env) ?_ | refine WG.slS' (E := env) ?_ | refine WG.slD' (E := env) ?_ | refine WG.ap' (E := env) ?_ | refine WD.nil ?_ | refine WD.bs' (E := env) ?_ | refine WD.s' (E := env) (t := .d _) ?_ | refine WD.p' ?_ | refine WD.px' ?_ | refine WD.s' (E := env) (t := .ea _ _) ?_ | refine WD.s' (E := env) (t := .lp _ _) ?_ | refine WD.s' (E := env) (t := .og _ _) ?_ | refine WD.s' (E := env) (t := .agg _) ?_ | refine WD.s' (E := env) (t := .tup _) ?_ | refine WD.s' (E := env) (t := .clo _ _) ?_ | refine WD.ixm' (E := env) ?_ | refine WD.ixo' (E := env) ?_ | refine WD.legm' (E := env) ?_ | refine WD.slS' (E := env) ?_ | refine WD.slD' (E := env) ?_ | (refine WG.cQ (E := env) [] [] false rfl rfl (DrawSetKey_fn bs hb) rfl rfl rfl rfl rfl rfl rfl trivial (.inl rfl) (fun t ob ⟨a, s, b, e1, e2, _⟩ => ⟨by subst e2; rfl, fun h => nomatch h⟩) ?_; rintro _ _ ⟨a, s, b, rfl, rfl, ha, hs, hbb⟩; refine (show WG _ _ _ _ _ _ ⟨upd _ _ (.tup [.d (cellsD a), .d (dS s), .d (cellsD b)]), []⟩ from ?_)) | refine WG.c (E := env) rfl rfl (hbig) rfl rfl ?_ | refine WD.c (E := env) rfl rfl (hbig) rfl rfl ?_ | refine WG.co (E := env) rfl rfl (hbig) rfl rfl rfl rfl ?_ | refine WG.cx (E := env) rfl (hbig) rfl ?_ | ((first | refine WG.sp' (fun h => ?_) fun h => ?_ | refine W.cond' (fun h => ?_) fun h => ?_ | refine WD.sp' (fun h => ?_) fun h => ?_) <;> (try simp only [decide_eq_true_eq, decide_eq_false_iff_not, Bool.not_eq_true', Bool.not_eq_false', Bool.and_eq_true, Bool.or_eq_true, Bool.and_eq_false_iff, Bool.or_eq_false_iff, Bool.not_eq_true, Bool.not_eq_false, Int.not_lt, Int.not_le, List.length_map, beq_self_eq_true, Bool.true_eq_false, Bool.false_eq_true] at h) <;> (try (exfalso; first | contradiction | omega))))
  all_goals first | (exfalso; simp at *; omega) | skip
  have h1 := FunQ.pubA rfl (SetKey_fn a s b ha hbb (by omega))
  have h2 := SetKeyS_fn a s b ha hbb (by omega)
  by_cases hc : twoCode a b (setO (valOfM a).1 s (valOfM b).1).1 = 0
  case neg =>
    generalize twoCode a b (setO (valOfM a).1 s (valOfM b).1).1 = code at h1 h2 hc
    generalize twoCells a b (setO (valOfM a).1 s (valOfM b).1).1 (setO (valOfM a).1 s (valOfM b).1).2 = rs at h1 h2
    repeat' (first | refine W.seq ?_ | refine W.rg ?_ | refine W.dra' ?_ | refine W.block ?_ | refine W.skip ?_ | refine W.exit ?_ | refine W.cond_true' ?_ | refine W.cond_false' ?_ | refine WG.nil ?_ | refine WG.run' (E := env) ?_ | refine WG.gt' ?_ | refine WG.gf' ?_ | refine WG.ixm' (E := env) ?_ | refine WG.ixo' (E := env) ?_ | refine WG.legm' (E := env) ?_ | refine WG.slS' (E := env) ?_ | refine WG.slD' (E := env) ?_ | refine WG.ap' (E := env) ?_ | refine WD.nil ?_ | refine WD.bs' (E := env) ?_ | refine WD.s' (E := env) (t := .d _) ?_ | refine WD.p' ?_ | refine WD.px' ?_ | refine WD.s' (E := env) (t := .ea _ _) ?_ | refine WD.s' (E := env) (t := .lp _ _) ?_ | refine WD.s' (E := env) (t := .og _ _) ?_ | refine WD.s' (E := env) (t := .agg _) ?_ | refine WD.s' (E := env) (t := .tup _) ?_ | refine WD.s' (E := env) (t := .clo _ _) ?_ | refine WD.ixm' (E := env) ?_ | refine WD.ixo' (E := env) ?_ | refine WD.legm' (E := env) ?_ | refine WD.slS' (E := env) ?_ | refine WD.slD' (E := env) ?_ | refine WG.c (E := env) rfl rfl (h1) rfl rfl ?_ | refine WD.c (E := env) rfl rfl (h1) rfl rfl ?_ | refine WG.co (E := env) rfl rfl (h1) rfl rfl rfl rfl ?_ | refine WG.cx (E := env) rfl (h1) rfl ?_ | refine WG.c (E := env) rfl rfl (h2) rfl rfl ?_ | refine WD.c (E := env) rfl rfl (h2) rfl rfl ?_ | refine WG.co (E := env) rfl rfl (h2) rfl rfl rfl rfl ?_ | refine WG.cx (E := env) rfl (h2) rfl ?_ | ((first | refine WG.sp' (fun h => ?_) fun h => ?_ | refine W.cond' (fun h => ?_) fun h => ?_ | refine WD.sp' (fun h => ?_) fun h => ?_) <;> (try simp only [decide_eq_true_eq, decide_eq_false_iff_not, Bool.not_eq_true', Bool.not_eq_false', Bool.and_eq_true, Bool.or_eq_true, Bool.and_eq_false_iff, Bool.or_eq_false_iff, Bool.not_eq_true, Bool.not_eq_false, Int.not_lt, Int.not_le, List.length_map, beq_self_eq_true, Bool.true_eq_false, Bool.false_eq_true] at h) <;> (try (exfalso; first | contradiction | omega))))
    all_goals first | (exfalso; omega) | skip
    all_goals (refine W.ret ?_; (first | refine RetQ.b' ?_ | refine RetQ.i' ?_ | refine RetQ.d' ?_ | refine RetQ.t2' ?_ ?_ | refine RetQ.t3' ?_ ?_ ?_))
    all_goals simp
  have h0a : (valOfM a).2 = 0 := Classical.byContradiction fun h => h (by rw [← hc, twoCode, if_neg h])
  have h0b : (valOfM b).2 = 0 := Classical.byContradiction fun h => h (by rw [← hc, twoCode, if_pos h0a, oneCode, if_neg h])
  obtain ⟨fa, ea⟩ := valOfM_fine h0a
  obtain ⟨fb, eb⟩ := valOfM_fine h0b
  unfold twoCells oneCells outC at h1
  rw [hc] at h1
  have hq : (setO (valOfM a).1 s (valOfM b).1).1 = 0 := by rw [← hc, twoCode, if_pos h0a, oneCode, if_pos h0b]
  rw [if_pos h0a, if_pos h0b, if_pos hq] at h1
  clear h2 hc
  generalize (valOfM a).1 = V0 at *
  generalize (valOfM b).1 = X0 at *
  subst ea eb
  have hk : okText s = true := Classical.byContradiction fun h => by rw [setO, if_neg h] at hq; exact absurd hq (by decide)
  have hv : V0.kind = 0 ∨ V0.kind = 6 := Classical.byContradiction fun h => by rw [setO, if_pos hk, if_pos (by omega)] at hq; exact absurd hq (by decide)
  obtain ⟨hw1, hw2⟩ := withV_good fa fb hk hv
  rw [setO, if_pos hk, if_neg (by omega)] at hq h1
  have fo : (withV V0 s X0).fine := by
    have := givenV_fine hw1
    rwa [givenV, if_pos hq] at this
  have eo : givenV (withV V0 s X0) = withV V0 s X0 := by rw [givenV, if_pos hq]
  simp only [eo] at h1
  obtain ⟨hin, hll⟩ := keys_ok fa hv
  have mw := memV_with (x := X0) (key := s) hin hll
  have ko : (withV V0 s X0).kind = 6 := rfl
  have q1 := faultM_fn fo
  have q2 := getM_fn fo (.inr ko) hk (by omega)
  rw [mw s, if_pos rfl] at q2
  have q3 := sameM_fn fb
  have q4 := dropM_fn fo ko hk (by omega)
  have fd : (objV (dropKs s (withV V0 s X0).keys) (dropVs s (withV V0 s X0).keys (withV V0 s X0).kids)).fine := dropV_fine fo ko s
  have q5 := getM_fn fd (.inr rfl) hk (by omega)
  rw [memV_drop, show V.zero.cells = [⟨0, 0, noS, noS, 0⟩] from rfl] at q5
  have hz2 : (s ++ zS).size ≤ 1048576 := by rw [ByteArray.size_append, show zS.size = 1 from rfl]; omega
  have esz : ({ data := #[122] } : ByteArray).size = 1 := rfl
  generalize objV (dropKs s (withV V0 s X0).keys) (dropVs s (withV V0 s X0).keys (withV V0 s X0).kids) = od at q4 q5
  by_cases hkz : okText (s ++ zS) = true
  · have q6 := getM_fn fa hv hkz hz2
    have q7 := getM_fn fo (.inr ko) hkz hz2
    rw [mw (s ++ zS), if_neg (zS_ne s)] at q7
    have q8 := sameM_fn (mem_fine fa hv hkz)
    generalize (memV V0 (s ++ zS)).cells = mc at q6 q7 q8
    generalize (withV V0 s X0).cells = oc at *
    generalize V0.cells = vc at *
    generalize X0.cells = xc at *
    generalize od.cells = dc at *
    repeat' (first | refine WG.ixm (E := env) (f := Cell.row) (f' := Cell.row) (xs := [⟨0, 0, noS, noS, 0⟩]) rfl rfl rfl rfl rfl rfl rfl (fun _ => rfl) ⟨by decide, by simp⟩ ?_ | refine W.seq ?_ | refine W.rg ?_ | refine W.dra' ?_ | refine W.block ?_ | refine W.skip ?_ | refine W.exit ?_ | refine W.cond_true' ?_ | refine W.cond_false' ?_ | refine WG.nil ?_ | refine WG.run' (E := env) ?_ | refine WG.gt' ?_ | refine WG.gf' ?_ | refine WG.ixm' (E := env) ?_ | refine WG.ixo' (E := env) ?_ | refine WG.legm' (E := env) ?_ | refine WG.slS' (E := env) ?_ | refine WG.slD' (E := env) ?_ | refine WG.ap' (E := env) ?_ | refine WD.nil ?_ | refine WD.bs' (E := env) ?_ | refine WD.s' (E := env) (t := .d _) ?_ | refine WD.p' ?_ | refine WD.px' ?_ | refine WD.s' (E := env) (t := .ea _ _) ?_ | refine WD.s' (E := env) (t := .lp _ _) ?_ | refine WD.s' (E := env) (t := .og _ _) ?_ | refine WD.s' (E := env) (t := .agg _) ?_ | refine WD.s' (E := env) (t := .tup _) ?_ | refine WD.s' (E := env) (t := .clo _ _) ?_ | refine WD.ixm' (E := env) ?_ | refine WD.ixo' (E := env) ?_ | refine WD.legm' (E := env) ?_ | refine WD.slS' (E := env) ?_ | refine WD.slD' (E := env) ?_ | refine WG.c (E := env) rfl rfl (h1) rfl rfl ?_ | refine WD.c (E := env) rfl rfl (h1) rfl rfl ?_ | refine WG.co (E := env) rfl rfl (h1) rfl rfl rfl rfl ?_ | refine WG.cx (E := env) rfl (h1) rfl ?_ | refine WG.c (E := env) rfl rfl (q1) rfl rfl ?_ | refine WD.c (E := env) rfl rfl (q1) rfl rfl ?_ | refine WG.co (E := env) rfl rfl (q1) rfl rfl rfl rfl ?_ | refine WG.cx (E := env) rfl (q1) rfl ?_ | refine WG.c (E := env) rfl rfl (q2) rfl rfl ?_ | refine WD.c (E := env) rfl rfl (q2) rfl rfl ?_ | refine WG.co (E := env) rfl rfl (q2) rfl rfl rfl rfl ?_ | refine WG.cx (E := env) rfl (q2) rfl ?_ | refine WG.c (E := env) rfl rfl (q3) rfl rfl ?_ | refine WD.c (E := env) rfl rfl (q3) rfl rfl ?_ | refine WG.co (E := env) rfl rfl (q3) rfl rfl rfl rfl ?_ | refine WG.cx (E := env) rfl (q3) rfl ?_ | refine WG.c (E := env) rfl rfl (q4) rfl rfl ?_ | refine WD.c (E := env) rfl rfl (q4) rfl rfl ?_ | refine WG.co (E := env) rfl rfl (q4) rfl rfl rfl rfl ?_ | refine WG.cx (E := env) rfl (q4) rfl ?_ | refine WG.c (E := env) rfl rfl (q5) rfl rfl ?_ | refine WD.c (E := env) rfl rfl (q5) rfl rfl ?_ | refine WG.co (E := env) rfl rfl (q5) rfl rfl rfl rfl ?_ | refine WG.cx (E := env) rfl (q5) rfl ?_ | refine WG.c (E := env) rfl rfl (q6) rfl rfl ?_ | refine WD.c (E := env) rfl rfl (q6) rfl rfl ?_ | refine WG.co (E := env) rfl rfl (q6) rfl rfl rfl rfl ?_ | refine WG.cx (E := env) rfl (q6) rfl ?_ | refine WG.c (E := env) rfl rfl (q7) rfl rfl ?_ | refine WD.c (E := env) rfl rfl (q7) rfl rfl ?_ | refine WG.co (E := env) rfl rfl (q7) rfl rfl rfl rfl ?_ | refine WG.cx (E := env) rfl (q7) rfl ?_ | refine WG.c (E := env) rfl rfl (q8) rfl rfl ?_ | refine WD.c (E := env) rfl rfl (q8) rfl rfl ?_ | refine WG.co (E := env) rfl rfl (q8) rfl rfl rfl rfl ?_ | refine WG.cx (E := env) rfl (q8) rfl ?_ | ((first | refine WG.sp' (fun h => ?_) fun h => ?_ | refine W.cond' (fun h => ?_) fun h => ?_ | refine WD.sp' (fun h => ?_) fun h => ?_) <;> (try simp only [decide_eq_true_eq, decide_eq_false_iff_not, Bool.not_eq_true', Bool.not_eq_false', Bool.and_eq_true, Bool.or_eq_true, Bool.and_eq_false_iff, Bool.or_eq_false_iff, Bool.not_eq_true, Bool.not_eq_false, Int.not_lt, Int.not_le, List.length_map, beq_self_eq_true, Bool.true_eq_false, Bool.false_eq_true] at h) <;> (try (exfalso; first | contradiction | omega))))
    all_goals first | (exfalso; simp at *; done) | skip
    all_goals (refine W.ret ?_; (first | refine RetQ.b' ?_ | refine RetQ.i' ?_ | refine RetQ.d' ?_ | refine RetQ.t2' ?_ ?_ | refine RetQ.t3' ?_ ?_ ?_))
    all_goals first | rfl | simp
  · have q6 := getBad_fn fa hkz hz2
    have q7 := getBad_fn fo hkz hz2
    generalize (withV V0 s X0).cells = oc at *
    generalize V0.cells = vc at *
    generalize X0.cells = xc at *
    generalize od.cells = dc at *
    repeat' (first | refine WG.ixm (E := env) (f := Cell.row) (f' := Cell.row) (xs := [⟨0, 0, noS, noS, 0⟩]) rfl rfl rfl rfl rfl rfl rfl (fun _ => rfl) ⟨by decide, by simp⟩ ?_ | refine W.seq ?_ | refine W.rg ?_ | refine W.dra' ?_ | refine W.block ?_ | refine W.skip ?_ | refine W.exit ?_ | refine W.cond_true' ?_ | refine W.cond_false' ?_ | refine WG.nil ?_ | refine WG.run' (E := env) ?_ | refine WG.gt' ?_ | refine WG.gf' ?_ | refine WG.ixm' (E := env) ?_ | refine WG.ixo' (E := env) ?_ | refine WG.legm' (E := env) ?_ | refine WG.slS' (E := env) ?_ | refine WG.slD' (E := env) ?_ | refine WG.ap' (E := env) ?_ | refine WD.nil ?_ | refine WD.bs' (E := env) ?_ | refine WD.s' (E := env) (t := .d _) ?_ | refine WD.p' ?_ | refine WD.px' ?_ | refine WD.s' (E := env) (t := .ea _ _) ?_ | refine WD.s' (E := env) (t := .lp _ _) ?_ | refine WD.s' (E := env) (t := .og _ _) ?_ | refine WD.s' (E := env) (t := .agg _) ?_ | refine WD.s' (E := env) (t := .tup _) ?_ | refine WD.s' (E := env) (t := .clo _ _) ?_ | refine WD.ixm' (E := env) ?_ | refine WD.ixo' (E := env) ?_ | refine WD.legm' (E := env) ?_ | refine WD.slS' (E := env) ?_ | refine WD.slD' (E := env) ?_ | refine WG.c (E := env) rfl rfl (h1) rfl rfl ?_ | refine WD.c (E := env) rfl rfl (h1) rfl rfl ?_ | refine WG.co (E := env) rfl rfl (h1) rfl rfl rfl rfl ?_ | refine WG.cx (E := env) rfl (h1) rfl ?_ | refine WG.c (E := env) rfl rfl (q1) rfl rfl ?_ | refine WD.c (E := env) rfl rfl (q1) rfl rfl ?_ | refine WG.co (E := env) rfl rfl (q1) rfl rfl rfl rfl ?_ | refine WG.cx (E := env) rfl (q1) rfl ?_ | refine WG.c (E := env) rfl rfl (q2) rfl rfl ?_ | refine WD.c (E := env) rfl rfl (q2) rfl rfl ?_ | refine WG.co (E := env) rfl rfl (q2) rfl rfl rfl rfl ?_ | refine WG.cx (E := env) rfl (q2) rfl ?_ | refine WG.c (E := env) rfl rfl (q3) rfl rfl ?_ | refine WD.c (E := env) rfl rfl (q3) rfl rfl ?_ | refine WG.co (E := env) rfl rfl (q3) rfl rfl rfl rfl ?_ | refine WG.cx (E := env) rfl (q3) rfl ?_ | refine WG.c (E := env) rfl rfl (q4) rfl rfl ?_ | refine WD.c (E := env) rfl rfl (q4) rfl rfl ?_ | refine WG.co (E := env) rfl rfl (q4) rfl rfl rfl rfl ?_ | refine WG.cx (E := env) rfl (q4) rfl ?_ | refine WG.c (E := env) rfl rfl (q5) rfl rfl ?_ | refine WD.c (E := env) rfl rfl (q5) rfl rfl ?_ | refine WG.co (E := env) rfl rfl (q5) rfl rfl rfl rfl ?_ | refine WG.cx (E := env) rfl (q5) rfl ?_ | refine WG.c (E := env) rfl rfl (q6) rfl rfl ?_ | refine WD.c (E := env) rfl rfl (q6) rfl rfl ?_ | refine WG.co (E := env) rfl rfl (q6) rfl rfl rfl rfl ?_ | refine WG.cx (E := env) rfl (q6) rfl ?_ | refine WG.c (E := env) rfl rfl (q7) rfl rfl ?_ | refine WD.c (E := env) rfl rfl (q7) rfl rfl ?_ | refine WG.co (E := env) rfl rfl (q7) rfl rfl rfl rfl ?_ | refine WG.cx (E := env) rfl (q7) rfl ?_ | ((first | refine WG.sp' (fun h => ?_) fun h => ?_ | refine W.cond' (fun h => ?_) fun h => ?_ | refine WD.sp' (fun h => ?_) fun h => ?_) <;> (try simp only [decide_eq_true_eq, decide_eq_false_iff_not, Bool.not_eq_true', Bool.not_eq_false', Bool.and_eq_true, Bool.or_eq_true, Bool.and_eq_false_iff, Bool.or_eq_false_iff, Bool.not_eq_true, Bool.not_eq_false, Int.not_lt, Int.not_le, List.length_map, beq_self_eq_true, Bool.true_eq_false, Bool.false_eq_true] at h) <;> (try (exfalso; first | contradiction | omega))))
    all_goals first | (exfalso; simp at *; done) | skip
    all_goals (refine W.ret ?_; (first | refine RetQ.b' ?_ | refine RetQ.i' ?_ | refine RetQ.d' ?_ | refine RetQ.t2' ?_ ?_ | refine RetQ.t3' ?_ ?_ ?_))
    all_goals first | rfl | simp

theorem lawMembers (xs : List D) (h : wfAs env.P [22] xs) : Fun env.P 13 xs (.d (dB true)) [] := by
  match xs, h with
  | [x], ⟨h, _⟩ =>
    obtain ⟨rows, rfl, hm, n, hr⟩ := wfA_sl (e := 5) (by kernel_rfl) h
    obtain ⟨bs, rfl, hbs⟩ := rows_map (f := fun b : Int => [dY b]) (p := fun b => 0 ≤ b ∧ b ≤ 255) fun r hmem => by
      obtain ⟨hl, hw⟩ := hr r hmem
      rw [show env.P.cellsOf 5 = 1 by kernel_rfl] at hl
      match r, hl, hw with
      | [y], _, hw =>
        obtain ⟨i, hi, rfl⟩ := wfD_int (k := .u8) (by kernel_rfl) hw
        refine ⟨i, ?_, rfl⟩
        simp only [Lit.wf, Bool.and_eq_true, decide_eq_true_eq] at hi
        have e1 : IntKind.min .u8 = 0 := by decide
        have e2 : IntKind.max .u8 = 255 := by decide
        omega
    rw [show env.P.cellsOf 5 = 1 by kernel_rfl]
    exact lawMembers_fn bs (by simpa using hm) hbs

end Go.Proofs.Ytlegadpbjccelaa
