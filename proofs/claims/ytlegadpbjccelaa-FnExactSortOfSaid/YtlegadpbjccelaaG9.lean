/-
  Operations of one value that have captured something; a part of a value by its number. Conditions: none.
-/
import Derived.Test.YtlegadpbjccelaaCm3
set_option linter.unusedVariables false
set_option linter.unusedSimpArgs false
set_option maxRecDepth 100000
namespace Go.Proofs.Ytlegadpbjccelaa
open Go.RowKit

theorem V.fine_fault {v : V} (h : v.fine) : faultV v = 0 := by
  obtain ⟨h1, h2, h3⟩ := h
  rw [faultV, if_neg (by omega), if_neg (by omega)]

theorem V.zero_fine : V.zero.fine := ⟨zero_good, by decide, by decide⟩

theorem V.fine_gives {v : V} (h : v.fine) : Fun env.P 191 [.agg v.rowP] (.d (outD 0 v)) [] := by
  have := givesP_fn v h.1 (by have := h.2.1; omega)
  rw [V.fine_fault h, if_pos rfl] at this
  exact this

theorem V.kid_fine {v : V} (h : v.fine) {j : Nat} (hj : j < v.kids.length) : (v.kids.getD j default).fine := (V.fine_kids h _ (getD_mem' hj)).1

set_option maxHeartbeats 1000000 in
/-- An operation of one value that has captured one thing. -/
theorem ofOneC_fn {f : FuncId} (x : D) (cs : List Cell) (hf : fitsC cs) (oc : Int) (ov : V)
    (hc : (valOfM cs).2 = 0 → FunQ env.P f [.d (.agg (valOfM cs).1.rowP), .lp 0 0] [.pv [.d x]] (just (.d (outD oc ov)) [.pv [.d x]])) (hg : (valOfM cs).2 = 0 → ov.good ∧ ov.count ≤ 1048576) :
    FunQ env.P 139 [.d (cellsD cs), .clo f [.lp 0 0]] [.pv [.d x]] (just (.agg [vI .i64 (oneCode cs oc), .og 1 0]) [.pv [.d x], .gr 5 91 ((oneCells cs oc ov).map Cell.row) 0 false]) := by
  have h1 := valOf_fn' cs hf
  unfold oneCode oneCells
  by_cases h0 : (valOfM cs).2 = 0
  · have h2 := hc h0
    have h3 := resultP_fn oc ov (hg h0).1 (hg h0).2
    rw [h0] at h1
    rw [if_pos h0, if_pos h0]
    generalize (valOfM cs).1 = v at h1 h2
    refine FunQ.intro Try.func139 rfl (by kernel_rfl) rfl ?_
    repeat' (first | refine W.seq ?_ | refine W.rg ?_ | refine W.dra' ?_ | refine W.block ?_ | refine W.skip ?_ | refine W.exit ?_ | refine W.cond_true' ?_ | refine W.cond_false' ?_ | refine WG.nil ?_ | refine WG.run' (E := env) ?_ | refine WG.gt' ?_ | refine WG.gf' ?_ | refine WG.ixm' (E := env) ?_ | refine WG.ixo' (E := env) ?_ | refine WG.legm' (E := env) ?_ | refine WG.slS' (E := env) ?_ | refine WG.slD' (E := env) ?_ | refine WG.ap' (E := env) ?_ | refine WD.nil ?_ | refine WD.bs' (E := env) ?_ | refine WD.s' (E := env) (t := .d _) ?_ | refine WD.p' ?_ | refine WD.px' ?_ | refine WD.s' (E := env) (t := .ea _ _) ?_ | refine WD.s' (E := env) (t := .lp _ _) ?_ | refine WD.s' (E := env) (t := .og _ _) ?_ | refine WD.s' (E := env) (t := .agg _) ?_ | refine WD.s' (E := env) (t := .tup _) ?_ | refine WD.s' (E := env) (t := .clo _ _) ?_ | refine WD.ixm' (E := env) ?_ | refine WD.ixo' (E := env) ?_ | refine WD.legm' (E := env) ?_ | refine WD.slS' (E := env) ?_ | refine WD.slD' (E := env) ?_ | refine WG.c (E := env) rfl rfl (h1) rfl rfl ?_ | refine WD.c (E := env) rfl rfl (h1) rfl rfl ?_ | refine WG.co (E := env) rfl rfl (h1) rfl rfl rfl rfl ?_ | refine WG.cx (E := env) rfl (h1) rfl ?_ | ((first | refine WG.sp' (fun h => ?_) fun h => ?_ | refine W.cond' (fun h => ?_) fun h => ?_ | refine WD.sp' (fun h => ?_) fun h => ?_) <;> (try simp only [decide_eq_true_eq, decide_eq_false_iff_not, Bool.not_eq_true', Bool.not_eq_false', Bool.and_eq_true, Bool.or_eq_true, Bool.and_eq_false_iff, Bool.or_eq_false_iff, Bool.not_eq_true, Bool.not_eq_false, Int.not_lt, Int.not_le, List.length_map, beq_self_eq_true, Bool.true_eq_false, Bool.false_eq_true] at h) <;> (try (exfalso; first | contradiction | omega))))
    refine WG.cq (E := env) (t' := .d (outD oc ov)) (ob2 := [.pv [.d x], .pv [.d (dI 0), .d (.nl 5)], .pv (v.rowP.map .d)]) [0] [0] false rfl rfl h2 rfl rfl rfl rfl rfl rfl rfl ⟨rfl, trivial⟩ (.inl rfl) rfl (fun h => nomatch h) rfl rfl ?_
    repeat' (first | refine W.seq ?_ | refine W.rg ?_ | refine W.dra' ?_ | refine W.block ?_ | refine W.skip ?_ | refine W.exit ?_ | refine W.cond_true' ?_ | refine W.cond_false' ?_ | refine WG.nil ?_ | refine WG.run' (E := env) ?_ | refine WG.gt' ?_ | refine WG.gf' ?_ | refine WG.ixm' (E := env) ?_ | refine WG.ixo' (E := env) ?_ | refine WG.legm' (E := env) ?_ | refine WG.slS' (E := env) ?_ | refine WG.slD' (E := env) ?_ | refine WG.ap' (E := env) ?_ | refine WD.nil ?_ | refine WD.bs' (E := env) ?_ | refine WD.s' (E := env) (t := .d _) ?_ | refine WD.p' ?_ | refine WD.px' ?_ | refine WD.s' (E := env) (t := .ea _ _) ?_ | refine WD.s' (E := env) (t := .lp _ _) ?_ | refine WD.s' (E := env) (t := .og _ _) ?_ | refine WD.s' (E := env) (t := .agg _) ?_ | refine WD.s' (E := env) (t := .tup _) ?_ | refine WD.s' (E := env) (t := .clo _ _) ?_ | refine WD.ixm' (E := env) ?_ | refine WD.ixo' (E := env) ?_ | refine WD.legm' (E := env) ?_ | refine WD.slS' (E := env) ?_ | refine WD.slD' (E := env) ?_ | refine WG.coG' (E := env) rfl rfl (h3) rfl ?_ | refine WG.coA' (E := env) rfl rfl (h3) rfl ?_ | refine WG.coA3' (E := env) rfl rfl (h3) rfl ?_ | ((first | refine WG.sp' (fun h => ?_) fun h => ?_ | refine W.cond' (fun h => ?_) fun h => ?_ | refine WD.sp' (fun h => ?_) fun h => ?_) <;> (try simp only [decide_eq_true_eq, decide_eq_false_iff_not, Bool.not_eq_true', Bool.not_eq_false', Bool.and_eq_true, Bool.or_eq_true, Bool.and_eq_false_iff, Bool.or_eq_false_iff, Bool.not_eq_true, Bool.not_eq_false, Int.not_lt, Int.not_le, List.length_map, beq_self_eq_true, Bool.true_eq_false, Bool.false_eq_true] at h) <;> (try (exfalso; first | contradiction | omega))))
    refine W.ret ?_
    exact RetR.own (ob' := [.pv [.d x], .gr 5 91 ((outC oc ov).map Cell.row) 0 false]) ⟨[0, 3], [0, 0], 4⟩ (.inl rfl) rfl (by first | trivial | exact resOK_of (E := env) rfl) rfl rfl rfl rfl rfl rfl ⟨rfl, rfl, trivial⟩ rfl ⟨rfl, rfl⟩
  · rw [if_neg h0, if_neg h0]
    generalize (valOfM cs).1 = v at h1
    generalize (valOfM cs).2 = code at h1 h0
    refine FunQ.intro Try.func139 rfl (by kernel_rfl) rfl ?_
    repeat' (first | refine W.seq ?_ | refine W.rg ?_ | refine W.dra' ?_ | refine W.block ?_ | refine W.skip ?_ | refine W.exit ?_ | refine W.cond_true' ?_ | refine W.cond_false' ?_ | refine WG.nil ?_ | refine WG.run' (E := env) ?_ | refine WG.gt' ?_ | refine WG.gf' ?_ | refine WG.ixm' (E := env) ?_ | refine WG.ixo' (E := env) ?_ | refine WG.legm' (E := env) ?_ | refine WG.slS' (E := env) ?_ | refine WG.slD' (E := env) ?_ | refine WG.ap' (E := env) ?_ | refine WD.nil ?_ | refine WD.bs' (E := env) ?_ | refine WD.s' (E := env) (t := .d _) ?_ | refine WD.p' ?_ | refine WD.px' ?_ | refine WD.s' (E := env) (t := .ea _ _) ?_ | refine WD.s' (E := env) (t := .lp _ _) ?_ | refine WD.s' (E := env) (t := .og _ _) ?_ | refine WD.s' (E := env) (t := .agg _) ?_ | refine WD.s' (E := env) (t := .tup _) ?_ | refine WD.s' (E := env) (t := .clo _ _) ?_ | refine WD.ixm' (E := env) ?_ | refine WD.ixo' (E := env) ?_ | refine WD.legm' (E := env) ?_ | refine WD.slS' (E := env) ?_ | refine WD.slD' (E := env) ?_ | refine WG.c (E := env) rfl rfl (h1) rfl rfl ?_ | refine WD.c (E := env) rfl rfl (h1) rfl rfl ?_ | refine WG.co (E := env) rfl rfl (h1) rfl rfl rfl rfl ?_ | refine WG.cx (E := env) rfl (h1) rfl ?_ | ((first | refine WG.sp' (fun h => ?_) fun h => ?_ | refine W.cond' (fun h => ?_) fun h => ?_ | refine WD.sp' (fun h => ?_) fun h => ?_) <;> (try simp only [decide_eq_true_eq, decide_eq_false_iff_not, Bool.not_eq_true', Bool.not_eq_false', Bool.and_eq_true, Bool.or_eq_true, Bool.and_eq_false_iff, Bool.or_eq_false_iff, Bool.not_eq_true, Bool.not_eq_false, Int.not_lt, Int.not_le, List.length_map, beq_self_eq_true, Bool.true_eq_false, Bool.false_eq_true] at h) <;> (try (exfalso; first | contradiction | omega))))
    · refine W.adoptPv 1 1 91 rfl rfl ?_
      refine W.ret ?_
      exact RetR.own (ob' := [.pv [.d x], .gr 5 91 (([] : List Cell).map Cell.row) 0 false]) ⟨[0, 3], [0, 0], 4⟩ (.inl rfl) rfl (by first | trivial | exact resOK_of (E := env) rfl) rfl rfl rfl rfl rfl rfl ⟨rfl, rfl, trivial⟩ rfl ⟨rfl, rfl⟩
    all_goals exact absurd (by assumption) h0

theorem nullP_fn : Fun env.P 208 [] (.d (.agg V.zero.rowP)) [] := by
  refine Fun.intro Try.func208 rfl (by kernel_rfl) rfl ?_
  repeat' (first | refine W.seq ?_ | refine W.rg ?_ | refine W.dra' ?_ | refine W.block ?_ | refine W.skip ?_ | refine W.exit ?_ | refine W.cond_true' ?_ | refine W.cond_false' ?_ | refine WG.nil ?_ | refine WG.run' (E := env) ?_ | refine WG.gt' ?_ | refine WG.gf' ?_ | refine WG.ixm' (E := env) ?_ | refine WG.ixo' (E := env) ?_ | refine WG.legm' (E := env) ?_ | refine WG.slS' (E := env) ?_ | refine WG.slD' (E := env) ?_ | refine WG.ap' (E := env) ?_ | refine WD.nil ?_ | refine WD.bs' (E := env) ?_ | refine WD.s' (E := env) (t := .d _) ?_ | refine WD.p' ?_ | refine WD.px' ?_ | refine WD.s' (E := env) (t := .ea _ _) ?_ | refine WD.s' (E := env) (t := .lp _ _) ?_ | refine WD.s' (E := env) (t := .og _ _) ?_ | refine WD.s' (E := env) (t := .agg _) ?_ | refine WD.s' (E := env) (t := .tup _) ?_ | refine WD.s' (E := env) (t := .clo _ _) ?_ | refine WD.ixm' (E := env) ?_ | refine WD.ixo' (E := env) ?_ | refine WD.legm' (E := env) ?_ | refine WD.slS' (E := env) ?_ | refine WD.slD' (E := env) ?_ | ((first | refine WG.sp' (fun h => ?_) fun h => ?_ | refine W.cond' (fun h => ?_) fun h => ?_ | refine WD.sp' (fun h => ?_) fun h => ?_) <;> (try simp only [decide_eq_true_eq, decide_eq_false_iff_not, Bool.not_eq_true', Bool.not_eq_false', Bool.and_eq_true, Bool.or_eq_true, Bool.and_eq_false_iff, Bool.or_eq_false_iff, Bool.not_eq_true, Bool.not_eq_false, Int.not_lt, Int.not_le, List.length_map, beq_self_eq_true, Bool.true_eq_false, Bool.false_eq_true] at h) <;> (try (exfalso; first | contradiction | omega))))
  (refine W.ret ?_; (first | refine RetQ.b' ?_ | refine RetQ.i' ?_ | refine RetQ.d' ?_ | refine RetQ.t2' ?_ ?_ | refine RetQ.t3' ?_ ?_ ?_))
  rfl

/-- A part by its number: the code, and the value. -/
def idxO (v : V) (n : Int) : Int × V :=
  if v.kind = 0 then (0, V.zero) else if v.kind ≠ 5 then (6, V.zero)
  else if -(v.kids.length : Int) ≤ n ∧ n ≤ (v.kids.length : Int) - 1 then (0, v.kids.getD (if n < 0 then n + v.kids.length else n).toNat default) else (0, V.zero)

theorem idxO_fine {v : V} (h : v.fine) (n : Int) : (idxO v n).2.fine := by
  unfold idxO
  split
  · exact V.zero_fine
  · split
    · exact V.zero_fine
    · split
      · exact V.kid_fine h (by split <;> omega)
      · exact V.zero_fine



theorem oneOK {cs : List Cell} {ov : V} (h : (valOfM cs).2 = 0 → ov.fine) : (valOfM cs).2 = 0 → ov.good ∧ ov.count ≤ 1048576 := fun h0 => ⟨(h h0).1, by have := (h h0).2.1; omega⟩


theorem l3Null_fn : Fun env.P 205 [] (.d (cellsD V.zero.cells)) [] := by
  refine Fun.intro Try.func205 rfl (by kernel_rfl) rfl ?_
  repeat' (first | refine W.seq ?_ | refine W.rg ?_ | refine W.dra' ?_ | refine W.block ?_ | refine W.skip ?_ | refine W.exit ?_ | refine W.cond_true' ?_ | refine W.cond_false' ?_ | refine WG.nil ?_ | refine WG.run' (E := env) ?_ | refine WG.gt' ?_ | refine WG.gf' ?_ | refine WG.ixm' (E := env) ?_ | refine WG.ixo' (E := env) ?_ | refine WG.legm' (E := env) ?_ | refine WG.slS' (E := env) ?_ | refine WG.slD' (E := env) ?_ | refine WG.ap' (E := env) ?_ | refine WD.nil ?_ | refine WD.bs' (E := env) ?_ | refine WD.s' (E := env) (t := .d _) ?_ | refine WD.p' ?_ | refine WD.px' ?_ | refine WD.s' (E := env) (t := .ea _ _) ?_ | refine WD.s' (E := env) (t := .lp _ _) ?_ | refine WD.s' (E := env) (t := .og _ _) ?_ | refine WD.s' (E := env) (t := .agg _) ?_ | refine WD.s' (E := env) (t := .tup _) ?_ | refine WD.s' (E := env) (t := .clo _ _) ?_ | refine WD.ixm' (E := env) ?_ | refine WD.ixo' (E := env) ?_ | refine WD.legm' (E := env) ?_ | refine WD.slS' (E := env) ?_ | refine WD.slD' (E := env) ?_ | ((first | refine WG.sp' (fun h => ?_) fun h => ?_ | refine W.cond' (fun h => ?_) fun h => ?_ | refine WD.sp' (fun h => ?_) fun h => ?_) <;> (try simp only [decide_eq_true_eq, decide_eq_false_iff_not, Bool.not_eq_true', Bool.not_eq_false', Bool.and_eq_true, Bool.or_eq_true, Bool.and_eq_false_iff, Bool.or_eq_false_iff, Bool.not_eq_true, Bool.not_eq_false, Int.not_lt, Int.not_le, List.length_map, beq_self_eq_true, Bool.true_eq_false, Bool.false_eq_true] at h) <;> (try (exfalso; first | contradiction | omega))))
  (refine W.ret ?_; first | refine RetR.agp' ?_ ?_ | refine RetR.gp' ?_ | (first | refine RetQ.b' ?_ | refine RetQ.i' ?_ | refine RetQ.d' ?_ | refine RetQ.t2' ?_ ?_ | refine RetQ.t3' ?_ ?_ ?_))
  rfl

/-- What an operation's result is as data. -/
abbrev resD (c : Int) (cs : List Cell) : D := .agg [dI c, cellsD cs]

theorem l3Bad_fn (c : Int) : Fun env.P 118 [dI c] (.d (resD c [])) [] := FunQ.pubA rfl (l3BadS_fn c)


/-- The reference's operations of one value: their fault first. -/
theorem oneS {cs : List Cell} {c : Int} {w : V} {x : D} (h : x = resD (oneCode cs c) (oneCells cs c w)) (h0 : (valOfM cs).2 = 0) : x = resD c (outC c w) := by
  rw [h, oneCode, oneCells, if_pos h0, if_pos h0]


theorem outC_len200 (c : Int) {w : V} (h : w.fine) : (outC c w).length ≤ 1048576 := by
  unfold outC
  split
  · rw [V.cells, V.cellsK_length]; have := h.2.1; omega
  · simp
theorem oneCells_len (cs : List Cell) (c : Int) {w : V} (h : (valOfM cs).2 = 0 → w.fine) : (oneCells cs c w).length ≤ 1048576 := by
  unfold oneCells
  split
  · exact outC_len200 c (h (by assumption))
  · simp


end Go.Proofs.Ytlegadpbjccelaa
