/-
  The law of SortOf, walked. Conditions: none.
-/
import Derived.Test.YtlegadpbjccelaaSuB
import Derived.Test.YtlegadpbjccelaaMk2
set_option linter.unusedVariables false
set_option linter.unusedSimpArgs false
set_option maxRecDepth 100000
namespace Go.Proofs.Ytlegadpbjccelaa
open Go.RowKit

set_option maxHeartbeats 8000000 in
theorem lawSortOf_fn (cs : List Cell) (hc0 : ∀ c ∈ cs, c.fit) (hm0 : cs.length ≤ maxLen) : Fun env.P 15 [cellsD cs] (.d (dB true)) [] := by
  have hz0 := szCellS_fn cs (1048576) hc0 hm0 (by omega) (by omega)
  by_cases hn0 : szS cs (1048576) < 0
  · refine Fun.intro Try.func15 rfl (by kernel_rfl) rfl ?_
    repeat' (first | refine W.seq ?_ | refine W.rg ?_ | refine W.dra' ?_ | refine W.block ?_ | refine W.skip ?_ | refine W.exit ?_ | refine W.cond_true' ?_ | refine W.cond_false' ?_ | refine WG.nil ?_ | refine WG.run' (E := env) ?_ | refine WG.gt' ?_ | refine WG.gf' ?_ | refine WG.ixm' (E := env) ?_ | refine WG.ixo' (E := env) ?_ | refine WG.legm' (E := env) ?_ | refine WG.slS' (E := env) ?_ | refine WG.slD' (E := env) ?_ | refine WG.ap' (E := env) ?_ | refine WD.nil ?_ | refine WD.bs' (E := env) ?_ | refine WD.s' (E := env) (t := .d _) ?_ | refine WD.p' ?_ | refine WD.px' ?_ | refine WD.s' (E := env) (t := .ea _ _) ?_ | refine WD.s' (E := env) (t := .lp _ _) ?_ | refine WD.s' (E := env) (t := .og _ _) ?_ | refine WD.s' (E := env) (t := .agg _) ?_ | refine WD.s' (E := env) (t := .tup _) ?_ | refine WD.s' (E := env) (t := .clo _ _) ?_ | refine WD.ixm' (E := env) ?_ | refine WD.ixo' (E := env) ?_ | refine WD.legm' (E := env) ?_ | refine WD.slS' (E := env) ?_ | refine WD.slD' (E := env) ?_ | refine WG.c (E := env) rfl rfl (hz0) rfl rfl ?_ | refine WD.c (E := env) rfl rfl (hz0) rfl rfl ?_ | refine WG.co (E := env) rfl rfl (hz0) rfl rfl rfl rfl ?_ | refine WG.cx (E := env) rfl (hz0) rfl ?_ | ((first | refine WG.sp' (fun h => ?_) fun h => ?_ | refine W.cond' (fun h => ?_) fun h => ?_ | refine WD.sp' (fun h => ?_) fun h => ?_) <;> (try simp only [decide_eq_true_eq, decide_eq_false_iff_not, Bool.not_eq_true', Bool.not_eq_false', Bool.and_eq_true, Bool.or_eq_true, Bool.and_eq_false_iff, Bool.or_eq_false_iff, Bool.not_eq_true, Bool.not_eq_false, Int.not_lt, Int.not_le, List.length_map, beq_self_eq_true, Bool.true_eq_false, Bool.false_eq_true] at h) <;> (try (exfalso; first | contradiction | omega))))
    all_goals first | ((refine W.ret ?_; (first | refine RetQ.b' ?_ | refine RetQ.i' ?_ | refine RetQ.d' ?_ | refine RetQ.t2' ?_ ?_ | refine RetQ.t3' ?_ ?_ ?_)); rfl; done) | (exfalso; omega)
  have hl0n : 0 ≤ szS cs (1048576) := Int.not_lt.1 hn0
  obtain ⟨hl0, ht0⟩ := szS_ok (Int.not_lt.1 hn0)
  obtain ⟨code, rs, hrl, h1, h2⟩ : ∃ (code : Int) (rs : List (Cell)), rs.length ≤ 1048576 ∧ Fun env.P 85 [cellsD cs] (.agg [vI .i64 code, .og 0 0]) [.gr 5 91 (rs.map Cell.row) 0 false] ∧
      Fun env.P 84 [cellsD cs] (.d (.agg [dI code, .sl 5 (rs.map Cell.row)])) [] := SortOf_both cs ⟨ht0, hl0⟩ 
  have h2d := h2
  have h1d := FunQ.pubA rfl h1
  have o0 := toCellSown_fn cs hl0
  have d0 := toCellS_fn cs hl0
  have e0 := eqCellS_fn cs cs hl0
  have m0 := markCellS_fn cs (1) (by omega)
  have er := eqValueResult_fn code code rs rs hrl
  have mr := markValueResult_fn code rs 1 (by omega)
  have qr := heldValueResult_fn code rs.length 1 (by omega)
  refine Fun.intro Try.func15 rfl (by kernel_rfl) rfl ?_
  repeat' (first | refine WG.coG (E := env) (K := 1) rfl rfl o0 rfl rfl ?_ | refine WG.cq (E := env) (K := 2) (t' := .agg [vI .i64 code, .og 2 0]) (ob2 := [.pv [.d (dI code), .d (.sl 5 (rs.map Cell.row))], .gr 5 91 (cs.map Cell.row) 0 false, .gr 5 91 (rs.map Cell.row) 0 false]) [] [] true rfl rfl h1 rfl rfl rfl rfl rfl rfl rfl trivial (.inr rfl) rfl (fun _ => ⟨rfl, by intro o ho; cases ho with | head => exact flat_cells _ _ _ | tail _ h => cases h⟩) rfl rfl ?_ | refine WG.cq (E := env) (t' := vI .i64 ((1 + 5 * cs.length : Nat) : Int)) (ob2 := [.pv [.d (dI code), .d (.sl 5 (rs.map Cell.row))], .gr 5 91 ((marksL (1) cs.length).map Cell.row) 0 false, .gr 5 91 (rs.map Cell.row) 0 false, .pv [vI .i64 code, .og 2 0]]) [1] [0] false rfl rfl m0 rfl rfl rfl rfl rfl rfl rfl ⟨rfl, trivial⟩ (.inl rfl) rfl (fun h => nomatch h) rfl rfl ?_ | refine WG.cq (E := env) (t' := vI .i64 ((1 + 5 * rs.length : Nat) : Int)) (ob2 := [.pv [.d (dI code), .d (.sl 5 (rs.map Cell.row))], .gr 5 91 ((marksL (1) cs.length).map Cell.row) 0 false, .gr 5 91 ((marksL 1 rs.length).map Cell.row) 0 false, .pv [vI .i64 code, .og 2 0]]) [2] [0] false rfl rfl mr rfl rfl rfl rfl rfl rfl rfl ⟨rfl, trivial⟩ (.inl rfl) rfl (fun h => nomatch h) rfl rfl ?_ | refine W.seq ?_ | refine W.rg ?_ | refine W.dra' ?_ | refine W.block ?_ | refine W.skip ?_ | refine W.exit ?_ | refine W.cond_true' ?_ | refine W.cond_false' ?_ | refine WG.nil ?_ | refine WG.run' (E := env) ?_ | refine WG.gt' ?_ | refine WG.gf' ?_ | refine WG.ixm' (E := env) ?_ | refine WG.ixo' (E := env) ?_ | refine WG.legm' (E := env) ?_ | refine WG.slS' (E := env) ?_ | refine WG.slD' (E := env) ?_ | refine WG.ap' (E := env) ?_ | refine WD.nil ?_ | refine WD.bs' (E := env) ?_ | refine WD.s' (E := env) (t := .d _) ?_ | refine WD.p' ?_ | refine WD.px' ?_ | refine WD.s' (E := env) (t := .ea _ _) ?_ | refine WD.s' (E := env) (t := .lp _ _) ?_ | refine WD.s' (E := env) (t := .og _ _) ?_ | refine WD.s' (E := env) (t := .agg _) ?_ | refine WD.s' (E := env) (t := .tup _) ?_ | refine WD.s' (E := env) (t := .clo _ _) ?_ | refine WD.ixm' (E := env) ?_ | refine WD.ixo' (E := env) ?_ | refine WD.legm' (E := env) ?_ | refine WD.slS' (E := env) ?_ | refine WD.slD' (E := env) ?_ | refine WG.c (E := env) rfl rfl (h2d) rfl rfl ?_ | refine WD.c (E := env) rfl rfl (h2d) rfl rfl ?_ | refine WG.co (E := env) rfl rfl (h2d) rfl rfl rfl rfl ?_ | refine WG.cx (E := env) rfl (h2d) rfl ?_ | refine WG.c (E := env) rfl rfl (h1d) rfl rfl ?_ | refine WD.c (E := env) rfl rfl (h1d) rfl rfl ?_ | refine WG.co (E := env) rfl rfl (h1d) rfl rfl rfl rfl ?_ | refine WG.cx (E := env) rfl (h1d) rfl ?_ | refine WG.c (E := env) rfl rfl (hz0) rfl rfl ?_ | refine WD.c (E := env) rfl rfl (hz0) rfl rfl ?_ | refine WG.co (E := env) rfl rfl (hz0) rfl rfl rfl rfl ?_ | refine WG.cx (E := env) rfl (hz0) rfl ?_ | refine WG.c (E := env) rfl rfl (d0) rfl rfl ?_ | refine WD.c (E := env) rfl rfl (d0) rfl rfl ?_ | refine WG.co (E := env) rfl rfl (d0) rfl rfl rfl rfl ?_ | refine WG.cx (E := env) rfl (d0) rfl ?_ | refine WG.cL (E := env) rfl rfl (e0) rfl rfl rfl rfl ?_ | refine WG.cL (E := env) rfl rfl (er) rfl rfl rfl rfl ?_ | refine WG.cL (E := env) rfl rfl (qr) rfl rfl rfl rfl ?_ | ((first | refine WG.sp' (fun h => ?_) fun h => ?_ | refine W.cond' (fun h => ?_) fun h => ?_ | refine WD.sp' (fun h => ?_) fun h => ?_) <;> (try simp only [decide_eq_true_eq, decide_eq_false_iff_not, Bool.not_eq_true', Bool.not_eq_false', Bool.and_eq_true, Bool.or_eq_true, Bool.and_eq_false_iff, Bool.or_eq_false_iff, Bool.not_eq_true, Bool.not_eq_false, Int.not_lt, Int.not_le, List.length_map, beq_self_eq_true, Bool.true_eq_false, Bool.false_eq_true] at h) <;> (try (exfalso; first | contradiction | omega))))
  all_goals first | ((refine W.ret ?_; (first | refine RetQ.b' ?_ | refine RetQ.i' ?_ | refine RetQ.d' ?_ | refine RetQ.t2' ?_ ?_ | refine RetQ.t3' ?_ ?_ ?_)); rfl; done) | (exfalso; simp_all; done)
  all_goals trace_state

theorem lawSortOf (xs : List D) (h : wfAs env.P [31] xs) : Fun env.P 15 xs (.d (dB true)) [] := by
  match xs, h with
  | [x0], ⟨h0, _⟩ =>
    obtain ⟨cs, hc0, hm0, rfl⟩ := cells_of h0
    exact lawSortOf_fn cs hc0 hm0

end Go.Proofs.Ytlegadpbjccelaa
