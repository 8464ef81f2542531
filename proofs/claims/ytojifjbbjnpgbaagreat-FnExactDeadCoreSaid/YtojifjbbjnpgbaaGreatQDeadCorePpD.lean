/-
  What stands in place of what makes nothing: the reference's walk. Conditions: none.
-/
import Derived.Test.YtojifjbbjnpgbaaGreatQDeadCorePpB
import Derived.Test.YtojifjbbjnpgbaaGreatQDeadCorePp8
set_option linter.unusedVariables false
set_option linter.unusedSimpArgs false
set_option maxRecDepth 100000
namespace Go.Proofs.YtojifjbbjnpgbaaGreat
open Go.RowKit

def deadM (n : Co) (kids : List Pt) (X : List Co) (b : Bool) : Prop := Fun env.P 139 [.agg n.bare.row, .sl 1 (kids.map flR)] (.tup [.d (coresD X), .d (dB b)]) []

structure DeadH1 (n : Co) (a : Pt) : Prop where
  no1 : n.op = 10 → deadM n [a] [] false
  A1 : n.op = 8 ∨ n.op = 9 → deadM n [a] ((Pt.leaf 17).flat 0) (decide (a.n.op = 17))
structure DeadH3 (n : Co) (a b c : Pt) : Prop where
  A3 : n.op = 12 → deadM n [a, b, c] ((Pt.leaf 17).flat 0) (decide (a.n.op = 17))
  B3 : n.op = 13 → deadM n [a, b, c] ((Pt.leaf 17).flat 0) (decide (b.n.op = 17))
structure DeadH2 (n : Co) (a b : Pt) : Prop where
  A2 : n.op = 3 ∨ n.op = 14 ∨ n.op = 7 ∨ n.op = 11 → deadM n [a, b] ((Pt.leaf 17).flat 0) (decide (a.n.op = 17))
  B2 : n.op = 6 → deadM n [a, b] ((Pt.leaf 17).flat 0) (decide (b.n.op = 17))
  C1 : n.op = 4 ∧ a.n.op = 17 → deadM n [a, b] (b.flat 0) true
  C0 : n.op = 4 ∧ a.n.op ≠ 17 → deadM n [a, b] (a.flat 0) (decide (b.n.op = 17))
  D1 : n.op = 5 ∧ a.n.op = 2 → 1 ≤ a.n.val.length ∧ a.n.holds = true → deadM n [a, b] (a.flat 0) true
  D2 : n.op = 5 ∧ a.n.op = 2 → 1 ≤ a.n.val.length ∧ a.n.holds = false → deadM n [a, b] (b.flat 0) true
  D3 : n.op = 5 ∧ a.n.op = 17 → deadM n [a, b] (b.flat 0) true
  D4 : n.op = 5 ∧ a.n.op ≠ 17 ∧ a.n.op ≠ 2 → deadM n [a, b] [] false

set_option maxHeartbeats 20000000 in
theorem l10Dead_G1 (n : Co) (a : Pt) (hac : a.count ≤ 1000) : DeadH1 n a := by
  have hl : ([a].map flR).length = 1 := rfl
  have hk : [a].length = 1 := rfl
  have ta := l10TopP_fn a hac
  have tao : (topOf a).op = a.n.op := rfl
  have tav : (topOf a).val = a.n.val := rfl
  constructor
  all_goals unfold deadM
  all_goals try rw [← tao]
  all_goals intro h
  all_goals generalize topOf a = ta0 at *
  all_goals refine Fun.intro Tryz.func139 rfl (by kernel_rfl) rfl ?_
  all_goals repeat' (first | refine W.pubD 1 rfl ?_ | refine WG.ixeP (E := env) (r := [coresD (a.flat 0)]) (xs := [a]) (f := flR) rfl rfl rfl rfl rfl rfl rfl rfl ⟨by decide, by simp⟩ ?_ | refine W.seq ?_ | refine W.rg ?_ | refine W.dra' ?_ | refine W.block ?_ | refine W.skip ?_ | refine W.exit ?_ | refine W.cond_true' ?_ | refine W.cond_false' ?_ | refine WG.nil ?_ | refine WG.run' (E := env) ?_ | refine WG.gt' ?_ | refine WG.gf' ?_ | refine WG.ixm' (E := env) ?_ | refine WG.ixo' (E := env) ?_ | refine WG.legm' (E := env) ?_ | refine WG.slS' (E := env) ?_ | refine WG.slD' (E := env) ?_ | refine WG.ap' (E := env) ?_ | refine WD.nil ?_ | refine WD.bs' (E := env) ?_ | refine WD.s' (E := env) (t := .d _) ?_ | refine WD.p' ?_ | refine WD.px' ?_ | refine WD.s' (E := env) (t := .ea _ _) ?_ | refine WD.s' (E := env) (t := .lp _ _) ?_ | refine WD.s' (E := env) (t := .og _ _) ?_ | refine WD.s' (E := env) (t := .agg _) ?_ | refine WD.s' (E := env) (t := .tup _) ?_ | refine WD.s' (E := env) (t := .clo _ _) ?_ | refine WD.ixm' (E := env) ?_ | refine WD.ixo' (E := env) ?_ | refine WD.legm' (E := env) ?_ | refine WD.slS' (E := env) ?_ | refine WD.slD' (E := env) ?_ | refine WG.c (E := env) rfl rfl (ta) rfl rfl ?_ | refine WD.c (E := env) rfl rfl (ta) rfl rfl ?_ | refine WG.co (E := env) rfl rfl (ta) rfl rfl rfl rfl ?_ | refine WG.cx (E := env) rfl (ta) rfl ?_ | ((first | refine WG.sp' (fun h => ?_) fun h => ?_ | refine W.cond' (fun h => ?_) fun h => ?_ | refine WD.sp' (fun h => ?_) fun h => ?_) <;> (try simp only [decide_eq_true_eq, decide_eq_false_iff_not, Bool.not_eq_true', Bool.not_eq_false', Bool.and_eq_true, Bool.or_eq_true, Bool.and_eq_false_iff, Bool.or_eq_false_iff, Bool.not_eq_true, Bool.not_eq_false, Int.not_lt, Int.not_le, List.length_map, beq_self_eq_true, Bool.true_eq_false, Bool.false_eq_true] at h) <;> (try (exfalso; first | contradiction | omega))))
  all_goals first | (exfalso; simp only [Co.bare] at *; omega) | skip
  all_goals (refine W.ret ?_; (first | refine RetQ.b' ?_ | refine RetQ.i' ?_ | refine RetQ.d' ?_ | refine RetQ.t2' ?_ ?_ | refine RetQ.t3' ?_ ?_ ?_))
  all_goals rfl

set_option maxHeartbeats 20000000 in
theorem l10Dead_G2 (n : Co) (a b : Pt) (hac : a.count ≤ 1000) (hbc : b.count ≤ 1000) : DeadH2 n a b := by
  have hl : ([a, b].map flR).length = 2 := rfl
  have hk : [a, b].length = 2 := rfl
  have ta := l10TopP_fn a hac
  have tao : (topOf a).op = a.n.op := rfl
  have tav : (topOf a).val = a.n.val := rfl
  have tb := l10TopP_fn b hbc
  have tbo : (topOf b).op = b.n.op := rfl
  constructor
  all_goals unfold deadM
  all_goals try rw [← tao]
  all_goals try rw [← tbo]
  all_goals intro h
  case' D1 => intro hv; have htr : Fun env.P 166 [cellsD a.n.val] (.d (dB a.n.holds)) [] := l1Truthy_fn a.n.val hv.1; rw [← tav, hv.2] at htr
  case' D2 => intro hv; have htr : Fun env.P 166 [cellsD a.n.val] (.d (dB a.n.holds)) [] := l1Truthy_fn a.n.val hv.1; rw [← tav, hv.2] at htr
  all_goals generalize topOf a = ta0 at *
  all_goals generalize topOf b = tb0 at *
  all_goals refine Fun.intro Tryz.func139 rfl (by kernel_rfl) rfl ?_
  all_goals repeat' (first | refine W.pubD 1 rfl ?_ | refine WG.ixeP (E := env) (r := [coresD (a.flat 0)]) (xs := [a, b]) (f := flR) rfl rfl rfl rfl rfl rfl rfl rfl ⟨by decide, by simp⟩ ?_ | refine WG.ixeP (E := env) (r := [coresD (b.flat 0)]) (xs := [a, b]) (f := flR) rfl rfl rfl rfl rfl rfl rfl rfl ⟨by decide, by simp⟩ ?_ | refine W.seq ?_ | refine W.rg ?_ | refine W.dra' ?_ | refine W.block ?_ | refine W.skip ?_ | refine W.exit ?_ | refine W.cond_true' ?_ | refine W.cond_false' ?_ | refine WG.nil ?_ | refine WG.run' (E := env) ?_ | refine WG.gt' ?_ | refine WG.gf' ?_ | refine WG.ixm' (E := env) ?_ | refine WG.ixo' (E := env) ?_ | refine WG.legm' (E := env) ?_ | refine WG.slS' (E := env) ?_ | refine WG.slD' (E := env) ?_ | refine WG.ap' (E := env) ?_ | refine WD.nil ?_ | refine WD.bs' (E := env) ?_ | refine WD.s' (E := env) (t := .d _) ?_ | refine WD.p' ?_ | refine WD.px' ?_ | refine WD.s' (E := env) (t := .ea _ _) ?_ | refine WD.s' (E := env) (t := .lp _ _) ?_ | refine WD.s' (E := env) (t := .og _ _) ?_ | refine WD.s' (E := env) (t := .agg _) ?_ | refine WD.s' (E := env) (t := .tup _) ?_ | refine WD.s' (E := env) (t := .clo _ _) ?_ | refine WD.ixm' (E := env) ?_ | refine WD.ixo' (E := env) ?_ | refine WD.legm' (E := env) ?_ | refine WD.slS' (E := env) ?_ | refine WD.slD' (E := env) ?_ | refine WG.c (E := env) rfl rfl (ta) rfl rfl ?_ | refine WD.c (E := env) rfl rfl (ta) rfl rfl ?_ | refine WG.co (E := env) rfl rfl (ta) rfl rfl rfl rfl ?_ | refine WG.cx (E := env) rfl (ta) rfl ?_ | refine WG.c (E := env) rfl rfl (tb) rfl rfl ?_ | refine WD.c (E := env) rfl rfl (tb) rfl rfl ?_ | refine WG.co (E := env) rfl rfl (tb) rfl rfl rfl rfl ?_ | refine WG.cx (E := env) rfl (tb) rfl ?_ | refine WG.c (E := env) rfl rfl (htr) rfl rfl ?_ | refine WD.c (E := env) rfl rfl (htr) rfl rfl ?_ | refine WG.co (E := env) rfl rfl (htr) rfl rfl rfl rfl ?_ | refine WG.cx (E := env) rfl (htr) rfl ?_ | ((first | refine WG.sp' (fun h => ?_) fun h => ?_ | refine W.cond' (fun h => ?_) fun h => ?_ | refine WD.sp' (fun h => ?_) fun h => ?_) <;> (try simp only [decide_eq_true_eq, decide_eq_false_iff_not, Bool.not_eq_true', Bool.not_eq_false', Bool.and_eq_true, Bool.or_eq_true, Bool.and_eq_false_iff, Bool.or_eq_false_iff, Bool.not_eq_true, Bool.not_eq_false, Int.not_lt, Int.not_le, List.length_map, beq_self_eq_true, Bool.true_eq_false, Bool.false_eq_true] at h) <;> (try (exfalso; first | contradiction | omega))))
  all_goals first | (exfalso; simp only [Co.bare] at *; omega) | skip
  all_goals (refine W.ret ?_; (first | refine RetQ.b' ?_ | refine RetQ.i' ?_ | refine RetQ.d' ?_ | refine RetQ.t2' ?_ ?_ | refine RetQ.t3' ?_ ?_ ?_))
  all_goals rfl

set_option maxHeartbeats 20000000 in
theorem l10Dead_G3 (n : Co) (a b c : Pt) (hac : a.count ≤ 1000) (hbc : b.count ≤ 1000) : DeadH3 n a b c := by
  have hl : ([a, b, c].map flR).length = 3 := rfl
  have hk : [a, b, c].length = 3 := rfl
  have ta := l10TopP_fn a hac
  have tao : (topOf a).op = a.n.op := rfl
  have tav : (topOf a).val = a.n.val := rfl
  have tb := l10TopP_fn b hbc
  have tbo : (topOf b).op = b.n.op := rfl
  constructor
  all_goals unfold deadM
  all_goals try rw [← tao]
  all_goals try rw [← tbo]
  all_goals intro h
  all_goals generalize topOf a = ta0 at *
  all_goals generalize topOf b = tb0 at *
  all_goals refine Fun.intro Tryz.func139 rfl (by kernel_rfl) rfl ?_
  all_goals repeat' (first | refine W.pubD 1 rfl ?_ | refine WG.ixeP (E := env) (r := [coresD (a.flat 0)]) (xs := [a, b, c]) (f := flR) rfl rfl rfl rfl rfl rfl rfl rfl ⟨by decide, by simp⟩ ?_ | refine WG.ixeP (E := env) (r := [coresD (b.flat 0)]) (xs := [a, b, c]) (f := flR) rfl rfl rfl rfl rfl rfl rfl rfl ⟨by decide, by simp⟩ ?_ | refine W.seq ?_ | refine W.rg ?_ | refine W.dra' ?_ | refine W.block ?_ | refine W.skip ?_ | refine W.exit ?_ | refine W.cond_true' ?_ | refine W.cond_false' ?_ | refine WG.nil ?_ | refine WG.run' (E := env) ?_ | refine WG.gt' ?_ | refine WG.gf' ?_ | refine WG.ixm' (E := env) ?_ | refine WG.ixo' (E := env) ?_ | refine WG.legm' (E := env) ?_ | refine WG.slS' (E := env) ?_ | refine WG.slD' (E := env) ?_ | refine WG.ap' (E := env) ?_ | refine WD.nil ?_ | refine WD.bs' (E := env) ?_ | refine WD.s' (E := env) (t := .d _) ?_ | refine WD.p' ?_ | refine WD.px' ?_ | refine WD.s' (E := env) (t := .ea _ _) ?_ | refine WD.s' (E := env) (t := .lp _ _) ?_ | refine WD.s' (E := env) (t := .og _ _) ?_ | refine WD.s' (E := env) (t := .agg _) ?_ | refine WD.s' (E := env) (t := .tup _) ?_ | refine WD.s' (E := env) (t := .clo _ _) ?_ | refine WD.ixm' (E := env) ?_ | refine WD.ixo' (E := env) ?_ | refine WD.legm' (E := env) ?_ | refine WD.slS' (E := env) ?_ | refine WD.slD' (E := env) ?_ | refine WG.c (E := env) rfl rfl (ta) rfl rfl ?_ | refine WD.c (E := env) rfl rfl (ta) rfl rfl ?_ | refine WG.co (E := env) rfl rfl (ta) rfl rfl rfl rfl ?_ | refine WG.cx (E := env) rfl (ta) rfl ?_ | refine WG.c (E := env) rfl rfl (tb) rfl rfl ?_ | refine WD.c (E := env) rfl rfl (tb) rfl rfl ?_ | refine WG.co (E := env) rfl rfl (tb) rfl rfl rfl rfl ?_ | refine WG.cx (E := env) rfl (tb) rfl ?_ | ((first | refine WG.sp' (fun h => ?_) fun h => ?_ | refine W.cond' (fun h => ?_) fun h => ?_ | refine WD.sp' (fun h => ?_) fun h => ?_) <;> (try simp only [decide_eq_true_eq, decide_eq_false_iff_not, Bool.not_eq_true', Bool.not_eq_false', Bool.and_eq_true, Bool.or_eq_true, Bool.and_eq_false_iff, Bool.or_eq_false_iff, Bool.not_eq_true, Bool.not_eq_false, Int.not_lt, Int.not_le, List.length_map, beq_self_eq_true, Bool.true_eq_false, Bool.false_eq_true] at h) <;> (try (exfalso; first | contradiction | omega))))
  all_goals first | (exfalso; simp only [Co.bare] at *; omega) | skip
  all_goals (refine W.ret ?_; (first | refine RetQ.b' ?_ | refine RetQ.i' ?_ | refine RetQ.d' ?_ | refine RetQ.t2' ?_ ?_ | refine RetQ.t3' ?_ ?_ ?_))
  all_goals rfl

end Go.Proofs.YtojifjbbjnpgbaaGreat
