/-
  The law of SureCore, walked. Conditions: none.
-/
import Derived.Test.YteooogngdejdgaaCoH
set_option linter.unusedVariables false
set_option linter.unusedSimpArgs false
set_option maxRecDepth 100000
namespace Go.Proofs.Yteooogngdejdgaa
open Go.RowKit

set_option maxHeartbeats 8000000 in
theorem lawSureCore_fn (ks : List Co) (hc0 : ∀ c ∈ ks, c.fit) (hm0 : ks.length ≤ maxLen) : Fun env.P 11 [coresD ks] (.d (dB true)) [] := by
  have hz0 := szCoreS_fn ks (1048576) hc0 hm0 (by omega) (by omega)
  by_cases hn0 : szK ks (1048576) < 0
  · refine Fun.intro Try.func11 rfl (by kernel_rfl) rfl ?_
    repeat' (first | refine W.seq ?_ | refine W.rg ?_ | refine W.dra' ?_ | refine W.block ?_ | refine W.skip ?_ | refine W.exit ?_ | refine W.cond_true' ?_ | refine W.cond_false' ?_ | refine WG.nil ?_ | refine WG.run' (E := env) ?_ | refine WG.gt' ?_ | refine WG.gf' ?_ | refine WG.ixm' (E := env) ?_ | refine WG.ixo' (E := env) ?_ | refine WG.legm' (E := env) ?_ | refine WG.slS' (E := env) ?_ | refine WG.slD' (E := env) ?_ | refine WG.ap' (E := env) ?_ | refine WD.nil ?_ | refine WD.bs' (E := env) ?_ | refine WD.s' (E := env) (t := .d _) ?_ | refine WD.p' ?_ | refine WD.px' ?_ | refine WD.s' (E := env) (t := .ea _ _) ?_ | refine WD.s' (E := env) (t := .lp _ _) ?_ | refine WD.s' (E := env) (t := .og _ _) ?_ | refine WD.s' (E := env) (t := .agg _) ?_ | refine WD.s' (E := env) (t := .tup _) ?_ | refine WD.s' (E := env) (t := .clo _ _) ?_ | refine WD.ixm' (E := env) ?_ | refine WD.ixo' (E := env) ?_ | refine WD.legm' (E := env) ?_ | refine WD.slS' (E := env) ?_ | refine WD.slD' (E := env) ?_ | refine WG.c (E := env) rfl rfl (hz0) rfl rfl ?_ | refine WD.c (E := env) rfl rfl (hz0) rfl rfl ?_ | refine WG.co (E := env) rfl rfl (hz0) rfl rfl rfl rfl ?_ | refine WG.cx (E := env) rfl (hz0) rfl ?_ | ((first | refine WG.sp' (fun h => ?_) fun h => ?_ | refine W.cond' (fun h => ?_) fun h => ?_ | refine WD.sp' (fun h => ?_) fun h => ?_) <;> (try simp only [decide_eq_true_eq, decide_eq_false_iff_not, Bool.not_eq_true', Bool.not_eq_false', Bool.and_eq_true, Bool.or_eq_true, Bool.and_eq_false_iff, Bool.or_eq_false_iff, Bool.not_eq_true, Bool.not_eq_false, Int.not_lt, Int.not_le, List.length_map, beq_self_eq_true, Bool.true_eq_false, Bool.false_eq_true] at h) <;> (try (exfalso; first | contradiction | omega))))
    all_goals first | ((refine W.ret ?_; (first | refine RetQ.b' ?_ | refine RetQ.i' ?_ | refine RetQ.d' ?_ | refine RetQ.t2' ?_ ?_ | refine RetQ.t3' ?_ ?_ ?_)); rfl; done) | (exfalso; omega)
  have hl0n : 0 ≤ szK ks (1048576) := Int.not_lt.1 hn0
  obtain ⟨hl0, ht0⟩ := szK_ok (Int.not_lt.1 hn0)
  obtain ⟨r, h1, h2⟩ : ∃ (r : Bool), Fun env.P 63 [coresD ks] (.d (dB r)) [] ∧ Fun env.P 62 [coresD ks] (.d (dB r)) [] := SureCore_both ks ⟨ht0, hl0⟩ 
  have d0 := toCoreS_fn ks hl0 ht0
  have e0 := eqCoreS_fn ks ks hl0 ht0
  refine Fun.intro Try.func11 rfl (by kernel_rfl) rfl ?_
  repeat' (first | refine W.seq ?_ | refine W.rg ?_ | refine W.dra' ?_ | refine W.block ?_ | refine W.skip ?_ | refine W.exit ?_ | refine W.cond_true' ?_ | refine W.cond_false' ?_ | refine WG.nil ?_ | refine WG.run' (E := env) ?_ | refine WG.gt' ?_ | refine WG.gf' ?_ | refine WG.ixm' (E := env) ?_ | refine WG.ixo' (E := env) ?_ | refine WG.legm' (E := env) ?_ | refine WG.slS' (E := env) ?_ | refine WG.slD' (E := env) ?_ | refine WG.ap' (E := env) ?_ | refine WD.nil ?_ | refine WD.bs' (E := env) ?_ | refine WD.s' (E := env) (t := .d _) ?_ | refine WD.p' ?_ | refine WD.px' ?_ | refine WD.s' (E := env) (t := .ea _ _) ?_ | refine WD.s' (E := env) (t := .lp _ _) ?_ | refine WD.s' (E := env) (t := .og _ _) ?_ | refine WD.s' (E := env) (t := .agg _) ?_ | refine WD.s' (E := env) (t := .tup _) ?_ | refine WD.s' (E := env) (t := .clo _ _) ?_ | refine WD.ixm' (E := env) ?_ | refine WD.ixo' (E := env) ?_ | refine WD.legm' (E := env) ?_ | refine WD.slS' (E := env) ?_ | refine WD.slD' (E := env) ?_ | refine WG.c (E := env) rfl rfl (h2) rfl rfl ?_ | refine WD.c (E := env) rfl rfl (h2) rfl rfl ?_ | refine WG.co (E := env) rfl rfl (h2) rfl rfl rfl rfl ?_ | refine WG.cx (E := env) rfl (h2) rfl ?_ | refine WG.c (E := env) rfl rfl (h1) rfl rfl ?_ | refine WD.c (E := env) rfl rfl (h1) rfl rfl ?_ | refine WG.co (E := env) rfl rfl (h1) rfl rfl rfl rfl ?_ | refine WG.cx (E := env) rfl (h1) rfl ?_ | refine WG.c (E := env) rfl rfl (hz0) rfl rfl ?_ | refine WD.c (E := env) rfl rfl (hz0) rfl rfl ?_ | refine WG.co (E := env) rfl rfl (hz0) rfl rfl rfl rfl ?_ | refine WG.cx (E := env) rfl (hz0) rfl ?_ | refine WG.c (E := env) rfl rfl (d0) rfl rfl ?_ | refine WD.c (E := env) rfl rfl (d0) rfl rfl ?_ | refine WG.co (E := env) rfl rfl (d0) rfl rfl rfl rfl ?_ | refine WG.cx (E := env) rfl (d0) rfl ?_ | refine WG.c (E := env) rfl rfl (e0) rfl rfl ?_ | refine WD.c (E := env) rfl rfl (e0) rfl rfl ?_ | refine WG.co (E := env) rfl rfl (e0) rfl rfl rfl rfl ?_ | refine WG.cx (E := env) rfl (e0) rfl ?_ | ((first | refine WG.sp' (fun h => ?_) fun h => ?_ | refine W.cond' (fun h => ?_) fun h => ?_ | refine WD.sp' (fun h => ?_) fun h => ?_) <;> (try simp only [decide_eq_true_eq, decide_eq_false_iff_not, Bool.not_eq_true', Bool.not_eq_false', Bool.and_eq_true, Bool.or_eq_true, Bool.and_eq_false_iff, Bool.or_eq_false_iff, Bool.not_eq_true, Bool.not_eq_false, Int.not_lt, Int.not_le, List.length_map, beq_self_eq_true, Bool.true_eq_false, Bool.false_eq_true] at h) <;> (try (exfalso; first | contradiction | omega))))
  all_goals first | ((refine W.ret ?_; (first | refine RetQ.b' ?_ | refine RetQ.i' ?_ | refine RetQ.d' ?_ | refine RetQ.t2' ?_ ?_ | refine RetQ.t3' ?_ ?_ ?_)); rfl; done) | (exfalso; simp_all; done)
  all_goals trace_state

theorem lawSureCore (xs : List D) (h : wfAs env.P [71] xs) : Fun env.P 11 xs (.d (dB true)) [] := by
  match xs, h with
  | [x0], ⟨h0, _⟩ =>
    obtain ⟨ks, hc0, hm0, rfl⟩ := cores_of h0
    exact lawSureCore_fn ks hc0 hm0

end Go.Proofs.Yteooogngdejdgaa
