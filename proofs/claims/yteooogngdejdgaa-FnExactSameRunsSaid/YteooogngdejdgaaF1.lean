/-
  FitsCount: the program's and the reference's; the law. Conditions: none beyond the law's own.
-/
import Derived.Test.YteooogngdejdgaaC2
import Derived.Test.YteooogngdejdgaaV6
set_option linter.unusedVariables false
set_option linter.unusedSimpArgs false
set_option maxRecDepth 100000
namespace Go.Proofs.Yteooogngdejdgaa
open Go.RowKit

structure Count where
  code : Int
  low : Int
  high : Int
  fails : Bool

def Count.row (c : Count) : List D := [dI c.code, dI c.low, dI c.high, dB c.fails]

structure Run where
  code : Int
  spent : Int
  outs : List (List Cell)
  deriving DecidableEq

def Run.row (r : Run) : List D := [dI r.code, dI r.spent, cellssD r.outs]

def Run.fit (r : Run) : Prop := (∀ c ∈ r.outs, fitS c) ∧ r.outs.length ≤ maxLen

set_option maxHeartbeats 400000 in
theorem szRunResult_fn (r : Run) (l : Int) (hr : r.fit) (h0 : 0 ≤ l) (h1 : l ≤ 1048576) : Fun env.P 38 [.agg r.row, dI l] (.d (dI (szSl szS r.outs l))) [] := by
  have hq := szCellSS_fn r.outs l hr.1 hr.2 h0 h1
  have hle := szSl_le szS_ok2 r.outs l (by omega)
  refine Fun.intro Try.func38 rfl (by kernel_rfl) rfl ?_
  repeat' (first | refine W.seq ?_ | refine W.rg ?_ | refine W.dra' ?_ | refine W.block ?_ | refine W.skip ?_ | refine W.exit ?_ | refine W.cond_true' ?_ | refine W.cond_false' ?_ | refine WG.nil ?_ | refine WG.run' (E := env) ?_ | refine WG.gt' ?_ | refine WG.gf' ?_ | refine WG.ixm' (E := env) ?_ | refine WG.ixo' (E := env) ?_ | refine WG.legm' (E := env) ?_ | refine WG.slS' (E := env) ?_ | refine WG.slD' (E := env) ?_ | refine WG.ap' (E := env) ?_ | refine WD.nil ?_ | refine WD.bs' (E := env) ?_ | refine WD.s' (E := env) (t := .d _) ?_ | refine WD.p' ?_ | refine WD.px' ?_ | refine WD.s' (E := env) (t := .ea _ _) ?_ | refine WD.s' (E := env) (t := .lp _ _) ?_ | refine WD.s' (E := env) (t := .og _ _) ?_ | refine WD.s' (E := env) (t := .agg _) ?_ | refine WD.s' (E := env) (t := .tup _) ?_ | refine WD.s' (E := env) (t := .clo _ _) ?_ | refine WD.ixm' (E := env) ?_ | refine WD.ixo' (E := env) ?_ | refine WD.legm' (E := env) ?_ | refine WD.slS' (E := env) ?_ | refine WD.slD' (E := env) ?_ | refine WG.c (E := env) rfl rfl (hq) rfl rfl ?_ | refine WD.c (E := env) rfl rfl (hq) rfl rfl ?_ | refine WG.co (E := env) rfl rfl (hq) rfl rfl rfl rfl ?_ | refine WG.cx (E := env) rfl (hq) rfl ?_ | ((first | refine WG.sp' (fun h => ?_) fun h => ?_ | refine W.cond' (fun h => ?_) fun h => ?_ | refine WD.sp' (fun h => ?_) fun h => ?_) <;> (try simp only [decide_eq_true_eq, decide_eq_false_iff_not, Bool.not_eq_true', Bool.not_eq_false', Bool.and_eq_true, Bool.or_eq_true, Bool.and_eq_false_iff, Bool.or_eq_false_iff, Bool.not_eq_true, Bool.not_eq_false, Int.not_lt, Int.not_le, List.length_map, beq_self_eq_true, Bool.true_eq_false, Bool.false_eq_true] at h) <;> (try (exfalso; first | contradiction | omega))))
  all_goals (refine W.ret ?_; (first | refine RetQ.b' ?_ | refine RetQ.i' ?_ | refine RetQ.d' ?_ | refine RetQ.t2' ?_ ?_ | refine RetQ.t3' ?_ ?_ ?_))
  · omega
  · rfl


set_option maxHeartbeats 400000 in
theorem toRunResult_fn (r : Run) (hm : r.outs.length ≤ 1048576) (hx : ∀ x ∈ r.outs, x.length ≤ 1048576) : Fun env.P 40 [.agg r.row] (.d (.agg r.row)) [] := by
  have h := toCellSS_fn r.outs hm hx
  refine Fun.intro Try.func40 rfl (by kernel_rfl) rfl ?_
  repeat' (first | refine W.seq ?_ | refine W.rg ?_ | refine W.dra' ?_ | refine W.block ?_ | refine W.skip ?_ | refine W.exit ?_ | refine W.cond_true' ?_ | refine W.cond_false' ?_ | refine WG.nil ?_ | refine WG.run' (E := env) ?_ | refine WG.gt' ?_ | refine WG.gf' ?_ | refine WG.ixm' (E := env) ?_ | refine WG.ixo' (E := env) ?_ | refine WG.legm' (E := env) ?_ | refine WG.slS' (E := env) ?_ | refine WG.slD' (E := env) ?_ | refine WG.ap' (E := env) ?_ | refine WD.nil ?_ | refine WD.bs' (E := env) ?_ | refine WD.s' (E := env) (t := .d _) ?_ | refine WD.p' ?_ | refine WD.px' ?_ | refine WD.s' (E := env) (t := .ea _ _) ?_ | refine WD.s' (E := env) (t := .lp _ _) ?_ | refine WD.s' (E := env) (t := .og _ _) ?_ | refine WD.s' (E := env) (t := .agg _) ?_ | refine WD.s' (E := env) (t := .tup _) ?_ | refine WD.s' (E := env) (t := .clo _ _) ?_ | refine WD.ixm' (E := env) ?_ | refine WD.ixo' (E := env) ?_ | refine WD.legm' (E := env) ?_ | refine WD.slS' (E := env) ?_ | refine WD.slD' (E := env) ?_ | refine WG.c (E := env) rfl rfl (h) rfl rfl ?_ | refine WD.c (E := env) rfl rfl (h) rfl rfl ?_ | refine WG.co (E := env) rfl rfl (h) rfl rfl rfl rfl ?_ | refine WG.cx (E := env) rfl (h) rfl ?_ | ((first | refine WG.sp' (fun h => ?_) fun h => ?_ | refine W.cond' (fun h => ?_) fun h => ?_ | refine WD.sp' (fun h => ?_) fun h => ?_) <;> (try simp only [decide_eq_true_eq, decide_eq_false_iff_not, Bool.not_eq_true', Bool.not_eq_false', Bool.and_eq_true, Bool.or_eq_true, Bool.and_eq_false_iff, Bool.or_eq_false_iff, Bool.not_eq_true, Bool.not_eq_false, Int.not_lt, Int.not_le, List.length_map, beq_self_eq_true, Bool.true_eq_false, Bool.false_eq_true] at h) <;> (try (exfalso; first | contradiction | omega))))
  all_goals (refine W.ret ?_; (first | refine RetQ.b' ?_ | refine RetQ.i' ?_ | refine RetQ.d' ?_ | refine RetQ.t2' ?_ ?_ | refine RetQ.t3' ?_ ?_ ?_))
  rfl

set_option maxHeartbeats 400000 in
theorem eqRunResult_fn (r s : Run) (hm : r.outs.length ≤ 1048576) (hx : ∀ x ∈ r.outs, x.length ≤ 1048576) : Fun env.P 42 [.agg r.row, .agg s.row] (.d (dB (decide (r = s)))) [] := by
  have hq := eqCellSS_fn r.outs s.outs hm hx
  have e : r = s ↔ r.code = s.code ∧ r.spent = s.spent ∧ r.outs = s.outs := by cases r; cases s; simp
  refine Fun.intro Try.func42 rfl (by kernel_rfl) rfl ?_
  repeat' (first | refine W.seq ?_ | refine W.rg ?_ | refine W.dra' ?_ | refine W.block ?_ | refine W.skip ?_ | refine W.exit ?_ | refine W.cond_true' ?_ | refine W.cond_false' ?_ | refine WG.nil ?_ | refine WG.run' (E := env) ?_ | refine WG.gt' ?_ | refine WG.gf' ?_ | refine WG.ixm' (E := env) ?_ | refine WG.ixo' (E := env) ?_ | refine WG.legm' (E := env) ?_ | refine WG.slS' (E := env) ?_ | refine WG.slD' (E := env) ?_ | refine WG.ap' (E := env) ?_ | refine WD.nil ?_ | refine WD.bs' (E := env) ?_ | refine WD.s' (E := env) (t := .d _) ?_ | refine WD.p' ?_ | refine WD.px' ?_ | refine WD.s' (E := env) (t := .ea _ _) ?_ | refine WD.s' (E := env) (t := .lp _ _) ?_ | refine WD.s' (E := env) (t := .og _ _) ?_ | refine WD.s' (E := env) (t := .agg _) ?_ | refine WD.s' (E := env) (t := .tup _) ?_ | refine WD.s' (E := env) (t := .clo _ _) ?_ | refine WD.ixm' (E := env) ?_ | refine WD.ixo' (E := env) ?_ | refine WD.legm' (E := env) ?_ | refine WD.slS' (E := env) ?_ | refine WD.slD' (E := env) ?_ | refine WG.c (E := env) rfl rfl (hq) rfl rfl ?_ | refine WD.c (E := env) rfl rfl (hq) rfl rfl ?_ | refine WG.co (E := env) rfl rfl (hq) rfl rfl rfl rfl ?_ | refine WG.cx (E := env) rfl (hq) rfl ?_ | ((first | refine WG.sp' (fun h => ?_) fun h => ?_ | refine W.cond' (fun h => ?_) fun h => ?_ | refine WD.sp' (fun h => ?_) fun h => ?_) <;> (try simp only [decide_eq_true_eq, decide_eq_false_iff_not, Bool.not_eq_true', Bool.not_eq_false', Bool.and_eq_true, Bool.or_eq_true, Bool.and_eq_false_iff, Bool.or_eq_false_iff, Bool.not_eq_true, Bool.not_eq_false, Int.not_lt, Int.not_le, List.length_map, beq_self_eq_true, Bool.true_eq_false, Bool.false_eq_true] at h) <;> (try (exfalso; first | contradiction | omega))))
  all_goals (refine W.ret ?_; (first | refine RetQ.b' ?_ | refine RetQ.i' ?_ | refine RetQ.d' ?_ | refine RetQ.t2' ?_ ?_ | refine RetQ.t3' ?_ ?_ ?_))
  all_goals simp [e, *]

def fitsM (c : Count) (r : Run) : Bool :=
  if c.high < 1000 ∧ c.high < r.outs.length then false
  else if r.code = 8 ∨ r.code = 2 then true
  else if r.code = 0 then decide (c.low ≤ r.outs.length)
  else c.fails




theorem szRun_ok {r : Run} (h : 0 ≤ szSl szS r.outs 1048576) : r.outs.length ≤ 1048576 ∧ ∀ x ∈ r.outs, x.length ≤ 1048576 := by
  obtain ⟨h1, h2⟩ := szSl_each szS_ok2 _ _ h
  refine ⟨by omega, fun x hx => ?_⟩
  obtain ⟨l', h3, h4, h5⟩ := h2 x hx
  rw [szS_sl] at h5
  have := (szSl_each szC_ok _ _ h5).1
  omega



theorem cellsL_of {n : Nat} {x : D} (h : wfD env.P n 31 [x]) : ∃ cs : List Cell, fitS cs ∧ x = cellsD cs := by
  obtain ⟨rows, rfl, hm, m, hr⟩ := wfD_sl (e := 106) (by kernel_rfl) h
  obtain ⟨cs, rfl, hcs⟩ := rows_map fun r hmem => cell_of (hr r hmem).2
  rw [show env.P.cellsOf 106 = 5 by kernel_rfl]
  exact ⟨cs, ⟨hcs, by simpa using hm⟩, rfl⟩


theorem cellssL_of {n : Nat} {x : D} (h : wfD env.P n 42 [x]) : ∃ xs : List (List Cell), (∀ c ∈ xs, fitS c) ∧ xs.length ≤ maxLen ∧ x = cellssD xs := by
  obtain ⟨rows, rfl, hm, m, hr⟩ := wfD_sl (e := 31) (by kernel_rfl) h
  have e1 : env.P.cellsOf 31 = 1 := by kernel_rfl
  obtain ⟨cs, rfl, hcs⟩ := rows_map (f := cellsR) (p := fitS) fun r hmem => by
    obtain ⟨hl, hw⟩ := hr r hmem
    rw [e1] at hl
    match r, hl, hw with
    | [y], _, hw =>
      obtain ⟨cs, h1, rfl⟩ := cellsL_of hw
      exact ⟨cs, h1, rfl⟩
  rw [e1]
  exact ⟨cs, hcs, by simpa using hm, rfl⟩



end Go.Proofs.Yteooogngdejdgaa
