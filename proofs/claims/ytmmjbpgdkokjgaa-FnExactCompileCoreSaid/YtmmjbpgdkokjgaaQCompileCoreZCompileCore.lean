/-
  The law of CompileCore, walked. Conditions: none.
-/
import Derived.Test.YtmmjbpgdkokjgaaQCompileCoreCpA
import Derived.Test.YtmmjbpgdkokjgaaQCompileCorePgF
set_option linter.unusedVariables false
set_option linter.unusedSimpArgs false
set_option maxRecDepth 100000
namespace Go.Proofs.Ytmmjbpgdkokjgaa
open Go.RowKit

set_option maxHeartbeats 8000000 in
theorem lawCompileCore_fn (ks : List Co) (hc0 : ∀ c ∈ ks, c.fit) (hm0 : ks.length ≤ maxLen) : Fun env.P 3 [coresD ks] (.d (dB true)) [] := by
  have hz0 := szCoreS_fn ks (1048576) hc0 hm0 (by omega) (by omega)
  by_cases hn0 : szK ks (1048576) < 0
  · refine Fun.intro Try.func3 rfl (by kernel_rfl) rfl ?_
    repeat' (first | refine W.seq ?_ | refine W.rg ?_ | refine W.dra' ?_ | refine W.block ?_ | refine W.skip ?_ | refine W.exit ?_ | refine W.cond_true' ?_ | refine W.cond_false' ?_ | refine WG.nil ?_ | refine WG.run' (E := env) ?_ | refine WG.gt' ?_ | refine WG.gf' ?_ | refine WG.ixm' (E := env) ?_ | refine WG.ixo' (E := env) ?_ | refine WG.legm' (E := env) ?_ | refine WG.slS' (E := env) ?_ | refine WG.slD' (E := env) ?_ | refine WG.ap' (E := env) ?_ | refine WD.nil ?_ | refine WD.bs' (E := env) ?_ | refine WD.s' (E := env) (t := .d _) ?_ | refine WD.p' ?_ | refine WD.px' ?_ | refine WD.s' (E := env) (t := .ea _ _) ?_ | refine WD.s' (E := env) (t := .lp _ _) ?_ | refine WD.s' (E := env) (t := .og _ _) ?_ | refine WD.s' (E := env) (t := .agg _) ?_ | refine WD.s' (E := env) (t := .tup _) ?_ | refine WD.s' (E := env) (t := .clo _ _) ?_ | refine WD.ixm' (E := env) ?_ | refine WD.ixo' (E := env) ?_ | refine WD.legm' (E := env) ?_ | refine WD.slS' (E := env) ?_ | refine WD.slD' (E := env) ?_ | refine WG.c (E := env) rfl rfl (hz0) rfl rfl ?_ | refine WD.c (E := env) rfl rfl (hz0) rfl rfl ?_ | refine WG.co (E := env) rfl rfl (hz0) rfl rfl rfl rfl ?_ | refine WG.cx (E := env) rfl (hz0) rfl ?_ | ((first | refine WG.sp' (fun h => ?_) fun h => ?_ | refine W.cond' (fun h => ?_) fun h => ?_ | refine WD.sp' (fun h => ?_) fun h => ?_) <;> (try simp only [atS, List.length_map, beq_self_eq_true] at h) <;> (try (exfalso; first | contradiction | omega))))
    all_goals first | ((refine W.ret ?_; (first | refine RetQ.b' ?_ | refine RetQ.i' ?_ | refine RetQ.d' ?_ | refine RetQ.t2' ?_ ?_ | refine RetQ.t3' ?_ ?_ ?_)); rfl; done) | (exfalso; omega)
  have hl0n : 0 ≤ szK ks (1048576) := Int.not_lt.1 hn0
  obtain ⟨hl0, ht0⟩ := szK_ok (Int.not_lt.1 hn0)
  obtain ⟨code, did, regs, rs, hrl, hrx, hrs, h1, h2⟩ : ∃ (code did regs : Int) (rs : List Ins), rs.length ≤ 1048576 ∧ (∀ n ∈ rs, n.fine) ∧ sumI rs ≤ 6300000000 ∧ Fun env.P 7 [coresD ks] (.agg [vI .i64 code, vI .i64 did, .og 0 0, vI .i64 regs]) [.x (neI (rs.map insN) (some (rs.map Ins.row))) 0] ∧
      Fun env.P 5 [coresD ks] (.d (cdD code did rs regs)) [] := CompileCore_both ks ⟨ht0, hl0⟩ 
  have h2d := h2
  have h1d := FunQ.fin h1 (Fin.pubX4 rfl)
  have hv0 := szK_sumV hl0n
  have o0 := toCoreSown_fn ks hl0 ht0
  have d0 := toCoreS_fn ks hl0 ht0
  have e0 := eqCoreS_fn ks ks hl0 ht0
  have m0 := markCoreS_fn ks (some (ks.map Co.row)) (1) (by omega)
  have er := eqCodeResult_fn code code did did regs regs rs rs hrl hrx
  have mr := markCodeResult_fn code did regs rs (some (rs.map Ins.row)) 1 (by omega)
  have qr := heldCodeResult_fn code did regs (rs.map fun n => n.val.length) 1 (by rw [endI_le]; omega) (by simpa using hrl)
  rw [endI_le] at qr
  refine Fun.intro Try.func3 rfl (by kernel_rfl) rfl ?_
  repeat' (first | refine WG.coX (E := env) (K := 1) rfl rfl o0 rfl rfl ?_ | refine WG.cq (E := env) (K := 2) (t' := .agg [vI .i64 code, vI .i64 did, .og 2 0, vI .i64 regs]) (ob2 := [.pv [.d (dI code), .d (dI did), .d (.sl 3 (rs.map Ins.row)), .d (dI regs)], .x (neC (ks.map coN) (some (ks.map Co.row))) 0, .x (neI (rs.map insN) (some (rs.map Ins.row))) 0]) [] [] true rfl rfl h1 rfl rfl rfl rfl rfl rfl rfl trivial (.inr rfl) rfl (fun _ => ⟨rfl, by intro o ho; cases ho with | head => exact neI_flat _ _ _ | tail _ h => cases h⟩) rfl rfl ?_ | refine WG.cq (E := env) (t' := vI .i64 ((1 + 5 * ks.length + 5 * sumV ks : Nat) : Int)) (ob2 := [.pv [.d (dI code), .d (dI did), .d (.sl 3 (rs.map Ins.row)), .d (dI regs)], .x (neC ((marksK (1) (ks.map fun n => n.val.length)).map coN) (some ((marksK (1) (ks.map fun n => n.val.length)).map Co.row))) 0, .x (neI (rs.map insN) (some (rs.map Ins.row))) 0, .pv [vI .i64 code, vI .i64 did, .og 2 0, vI .i64 regs]]) [1] [0] false rfl rfl m0 rfl rfl rfl rfl rfl rfl rfl ⟨rfl, trivial⟩ (.inl rfl) rfl (fun h => nomatch h) rfl rfl ?_ | refine WG.cq (E := env) (t' := vI .i64 ((1 + 2 * rs.length + 5 * sumI rs : Nat) : Int)) (ob2 := [.pv [.d (dI code), .d (dI did), .d (.sl 3 (rs.map Ins.row)), .d (dI regs)], .x (neC ((marksK (1) (ks.map fun n => n.val.length)).map coN) (some ((marksK (1) (ks.map fun n => n.val.length)).map Co.row))) 0, .x (neI ((mkI 1 (rs.map fun n => n.val.length)).map insN) (some ((mkI 1 (rs.map fun n => n.val.length)).map Ins.row))) 0, .pv [vI .i64 code, vI .i64 did, .og 2 0, vI .i64 regs]]) [2] [0] false rfl rfl mr rfl rfl rfl rfl rfl rfl rfl ⟨rfl, trivial⟩ (.inl rfl) rfl (fun h => nomatch h) rfl rfl ?_ | refine W.seq ?_ | refine W.rg ?_ | refine W.dra' ?_ | refine W.block ?_ | refine W.skip ?_ | refine W.exit ?_ | refine W.cond_true' ?_ | refine W.cond_false' ?_ | refine WG.nil ?_ | refine WG.run' (E := env) ?_ | refine WG.gt' ?_ | refine WG.gf' ?_ | refine WG.ixm' (E := env) ?_ | refine WG.ixo' (E := env) ?_ | refine WG.legm' (E := env) ?_ | refine WG.slS' (E := env) ?_ | refine WG.slD' (E := env) ?_ | refine WG.ap' (E := env) ?_ | refine WD.nil ?_ | refine WD.bs' (E := env) ?_ | refine WD.s' (E := env) (t := .d _) ?_ | refine WD.p' ?_ | refine WD.px' ?_ | refine WD.s' (E := env) (t := .ea _ _) ?_ | refine WD.s' (E := env) (t := .lp _ _) ?_ | refine WD.s' (E := env) (t := .og _ _) ?_ | refine WD.s' (E := env) (t := .agg _) ?_ | refine WD.s' (E := env) (t := .tup _) ?_ | refine WD.s' (E := env) (t := .clo _ _) ?_ | refine WD.ixm' (E := env) ?_ | refine WD.ixo' (E := env) ?_ | refine WD.legm' (E := env) ?_ | refine WD.slS' (E := env) ?_ | refine WD.slD' (E := env) ?_ | refine WG.c (E := env) rfl rfl (h2d) rfl rfl ?_ | refine WD.c (E := env) rfl rfl (h2d) rfl rfl ?_ | refine WG.co (E := env) rfl rfl (h2d) rfl rfl rfl rfl ?_ | refine WG.cx (E := env) rfl (h2d) rfl ?_ | refine WG.c (E := env) rfl rfl (h1d) rfl rfl ?_ | refine WD.c (E := env) rfl rfl (h1d) rfl rfl ?_ | refine WG.co (E := env) rfl rfl (h1d) rfl rfl rfl rfl ?_ | refine WG.cx (E := env) rfl (h1d) rfl ?_ | refine WG.c (E := env) rfl rfl (hz0) rfl rfl ?_ | refine WD.c (E := env) rfl rfl (hz0) rfl rfl ?_ | refine WG.co (E := env) rfl rfl (hz0) rfl rfl rfl rfl ?_ | refine WG.cx (E := env) rfl (hz0) rfl ?_ | refine WG.c (E := env) rfl rfl (d0) rfl rfl ?_ | refine WD.c (E := env) rfl rfl (d0) rfl rfl ?_ | refine WG.co (E := env) rfl rfl (d0) rfl rfl rfl rfl ?_ | refine WG.cx (E := env) rfl (d0) rfl ?_ | refine WG.cL (E := env) rfl rfl (e0) rfl rfl rfl rfl ?_ | refine WG.cL (E := env) rfl rfl (er) rfl rfl rfl rfl ?_ | refine WG.cL (E := env) rfl rfl (qr) rfl rfl rfl rfl ?_ | ((first | refine WG.sp' (fun h => ?_) fun h => ?_ | refine W.cond' (fun h => ?_) fun h => ?_ | refine WD.sp' (fun h => ?_) fun h => ?_) <;> (try simp only [atS, List.length_map, beq_self_eq_true] at h) <;> (try (exfalso; first | contradiction | omega))))
  all_goals first | ((refine W.ret ?_; (first | refine RetQ.b' ?_ | refine RetQ.i' ?_ | refine RetQ.d' ?_ | refine RetQ.t2' ?_ ?_ | refine RetQ.t3' ?_ ?_ ?_)); rfl; done) | (exfalso; simp_all; done)
  all_goals trace_state

theorem lawCompileCore (xs : List D) (h : wfAs env.P [22] xs) : Fun env.P 3 xs (.d (dB true)) [] := by
  match xs, h with
  | [x0], ⟨h0, _⟩ =>
    obtain ⟨ks, hc0, hm0, rfl⟩ := cores_of h0
    exact lawCompileCore_fn ks hc0 hm0

end Go.Proofs.Ytmmjbpgdkokjgaa
