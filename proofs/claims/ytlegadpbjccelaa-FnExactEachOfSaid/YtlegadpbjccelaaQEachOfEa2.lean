/-
  EachOf by the program and by the reference; the laws' look at parts. Conditions: cells of at most 2^20 bytes.
-/
import Derived.Test.YtlegadpbjccelaaQEachOfEa1
set_option linter.unusedVariables false
set_option linter.unusedSimpArgs false
set_option maxRecDepth 100000
namespace Go.Proofs.Ytlegadpbjccelaa
open Go.RowKit

theorem EachOf_both (cs : List Cell) (hf : fitsC cs) : ∃ (code : Int) (rs : List (List Cell)), rs.length ≤ 1048576 ∧ (∀ x ∈ rs, x.length ≤ 1048576) ∧ sumC rs ≤ 1048576 ∧
    Fun env.P 27 [cellsD cs] (.agg [vI .i64 code, .og 0 0]) [.x (neS (rs.map ceN) (some (rs.map cellsR))) 0] ∧ Fun env.P 25 [cellsD cs] (.d (.agg [dI code, cellssD rs])) [] := by
  obtain ⟨h1, h2⟩ := eachL_fine cs
  have h3 := sumC_le (eachL cs) h1
  refine ⟨eachC cs, eachR cs, by unfold eachR; rw [List.length_map]; omega, fun x hx => ?_, by unfold eachR; omega, EachOf_fn cs hf, ?_⟩
  · obtain ⟨v, hv, rfl⟩ := List.mem_map.1 hx
    have h4 := (h1 v hv).2.1
    have h5 : v.cells.length = v.count := V.cellsK_length v _
    omega
  · have h6 := EachOfS_fn cs hf
    have e1 : cellssD (eachR cs) = .sl 1 ((eachL cs).map partR) := by
      unfold eachR
      show D.sl 1 (((eachL cs).map V.cells).map cellsR) = _
      rw [List.map_map]; rfl
    rw [e1]
    exact h6

/-- Parts and a code, as data. -/
def prD (code : Int) (rs : List (List Cell)) : D := .agg [dI code, cellssD rs]

theorem eqPartsResult_fn (c1 c2 : Int) (xs ys : List (List Cell)) (hm : xs.length ≤ 1048576) (hx : ∀ x ∈ xs, x.length ≤ 1048576) :
    Fun env.P 28 [prD c1 xs, prD c2 ys] (.d (dB (decide (c1 = c2 ∧ xs = ys)))) [] := by
  refine Fun.intro Try.func28 rfl (by kernel_rfl) rfl ?_
  have cc := eqCellSS_fn xs ys hm hx
  repeat' (first | refine W.seq ?_ | refine W.rg ?_ | refine W.dra' ?_ | refine W.block ?_ | refine W.skip ?_ | refine W.exit ?_ | refine W.cond_true' ?_ | refine W.cond_false' ?_ | refine WG.nil ?_ | refine WG.run' (E := env) ?_ | refine WG.gt' ?_ | refine WG.gf' ?_ | refine WG.ixm' (E := env) ?_ | refine WG.ixo' (E := env) ?_ | refine WG.legm' (E := env) ?_ | refine WG.slS' (E := env) ?_ | refine WG.slD' (E := env) ?_ | refine WG.ap' (E := env) ?_ | refine WD.nil ?_ | refine WD.bs' (E := env) ?_ | refine WD.s' (E := env) (t := .d _) ?_ | refine WD.p' ?_ | refine WD.px' ?_ | refine WD.s' (E := env) (t := .ea _ _) ?_ | refine WD.s' (E := env) (t := .lp _ _) ?_ | refine WD.s' (E := env) (t := .og _ _) ?_ | refine WD.s' (E := env) (t := .agg _) ?_ | refine WD.s' (E := env) (t := .tup _) ?_ | refine WD.s' (E := env) (t := .clo _ _) ?_ | refine WD.ixm' (E := env) ?_ | refine WD.ixo' (E := env) ?_ | refine WD.legm' (E := env) ?_ | refine WD.slS' (E := env) ?_ | refine WD.slD' (E := env) ?_ | refine WG.c (E := env) rfl rfl (cc) rfl rfl ?_ | refine WD.c (E := env) rfl rfl (cc) rfl rfl ?_ | refine WG.co (E := env) rfl rfl (cc) rfl rfl rfl rfl ?_ | refine WG.cx (E := env) rfl (cc) rfl ?_ | ((first | refine WG.sp' (fun h => ?_) fun h => ?_ | refine W.cond' (fun h => ?_) fun h => ?_ | refine WD.sp' (fun h => ?_) fun h => ?_) <;> (try simp only [decide_eq_true_eq, decide_eq_false_iff_not, Bool.not_eq_true', Bool.not_eq_false', Bool.and_eq_true, Bool.or_eq_true, Bool.and_eq_false_iff, Bool.or_eq_false_iff, Bool.not_eq_true, Bool.not_eq_false, Int.not_lt, Int.not_le, List.length_map, beq_self_eq_true, Bool.true_eq_false, Bool.false_eq_true] at h) <;> (try (exfalso; first | contradiction | omega))))
  all_goals (refine W.ret ?_; (first | refine RetQ.b' ?_ | refine RetQ.i' ?_ | refine RetQ.d' ?_ | refine RetQ.t2' ?_ ?_ | refine RetQ.t3' ?_ ?_ ?_))
  all_goals simp [*]

set_option maxHeartbeats 2000000 in
theorem heldCellSS_fn (ls : List Nat) (k : Nat) (hk : endSS k ls ≤ 1099511000000) (hl : ls.length ≤ 1048576) :
    Fun env.P 102 [cellssD (marksSS k ls), dI k] (.d (dI ((endSS k ls : Nat) : Int))) [] := by
  have hml := marksSS_length k ls
  refine Fun.intro Try.func102 rfl (by kernel_rfl) rfl ?_
  repeat' (first | refine W.seq ?_ | refine W.rg ?_ | refine W.dra' ?_ | refine W.block ?_ | refine W.skip ?_ | refine W.exit ?_ | refine W.cond_true' ?_ | refine W.cond_false' ?_ | refine WG.nil ?_ | refine WG.run' (E := env) ?_ | refine WG.gt' ?_ | refine WG.gf' ?_ | refine WG.ixm' (E := env) ?_ | refine WG.ixo' (E := env) ?_ | refine WG.legm' (E := env) ?_ | refine WG.slS' (E := env) ?_ | refine WG.slD' (E := env) ?_ | refine WG.ap' (E := env) ?_ | refine WD.nil ?_ | refine WD.bs' (E := env) ?_ | refine WD.s' (E := env) (t := .d _) ?_ | refine WD.p' ?_ | refine WD.px' ?_ | refine WD.s' (E := env) (t := .ea _ _) ?_ | refine WD.s' (E := env) (t := .lp _ _) ?_ | refine WD.s' (E := env) (t := .og _ _) ?_ | refine WD.s' (E := env) (t := .agg _) ?_ | refine WD.s' (E := env) (t := .tup _) ?_ | refine WD.s' (E := env) (t := .clo _ _) ?_ | refine WD.ixm' (E := env) ?_ | refine WD.ixo' (E := env) ?_ | refine WD.legm' (E := env) ?_ | refine WD.slS' (E := env) ?_ | refine WD.slD' (E := env) ?_ | ((first | refine WG.sp' (fun h => ?_) fun h => ?_ | refine W.cond' (fun h => ?_) fun h => ?_ | refine WD.sp' (fun h => ?_) fun h => ?_) <;> (try simp only [decide_eq_true_eq, decide_eq_false_iff_not, Bool.not_eq_true', Bool.not_eq_false', Bool.and_eq_true, Bool.or_eq_true, Bool.and_eq_false_iff, Bool.or_eq_false_iff, Bool.not_eq_true, Bool.not_eq_false, Int.not_lt, Int.not_le, List.length_map, beq_self_eq_true, Bool.true_eq_false, Bool.false_eq_true] at h) <;> (try (exfalso; first | contradiction | omega))))
  refine W.loop (fun m S => ∃ (i : Nat) (q : Int), m = ls.length - i ∧ (i ≤ ls.length ∧ q = (endSS k (ls.take i) : Nat)) ∧ S = ⟨ofL [(0, .d (cellssD (marksSS k ls))), (1, vI .i64 q), (5, vI .i64 i)], []⟩) _ _ ⟨0, k, rfl, ⟨by omega, by simp [endSS]⟩, rfl⟩ (by (refine le_ofL rfl ?_ ?_ <;> (repeat (first | exact trivial | refine ⟨⟨rfl, rfl⟩, ?_⟩ | refine ⟨rfl, .inl rfl, ?_⟩ | refine ⟨rfl, .inr rfl, ?_⟩)))) ?_
  rintro m S ⟨i, q, rfl, ⟨hi, hq⟩, rfl⟩
  by_cases hlt : i < ls.length
  · have hmo := endSS_mono k ls i
    have hmo2 := endSS_mono k ls (i + 1)
    have het := endSS_take k ls i hlt
    have hma := marksSS_at k ls i hlt
    generalize endSS k (ls.take i) = p at *
    subst hq
    have hmk := heldCellS_fn (ls.getD i default) p (by omega)
    rw [← hma, ← het] at hmk
    rw [show (i : Nat) = Int.toNat (i : Int) from rfl] at hmk
    repeat' (first | refine W.seq ?_ | refine W.rg ?_ | refine W.dra' ?_ | refine W.block ?_ | refine W.skip ?_ | refine W.exit ?_ | refine W.cond_true' ?_ | refine W.cond_false' ?_ | refine WG.nil ?_ | refine WG.run' (E := env) ?_ | refine WG.gt' ?_ | refine WG.gf' ?_ | refine WG.ixm' (E := env) ?_ | refine WG.ixo' (E := env) ?_ | refine WG.legm' (E := env) ?_ | refine WG.slS' (E := env) ?_ | refine WG.slD' (E := env) ?_ | refine WG.ap' (E := env) ?_ | refine WD.nil ?_ | refine WD.bs' (E := env) ?_ | refine WD.s' (E := env) (t := .d _) ?_ | refine WD.p' ?_ | refine WD.px' ?_ | refine WD.s' (E := env) (t := .ea _ _) ?_ | refine WD.s' (E := env) (t := .lp _ _) ?_ | refine WD.s' (E := env) (t := .og _ _) ?_ | refine WD.s' (E := env) (t := .agg _) ?_ | refine WD.s' (E := env) (t := .tup _) ?_ | refine WD.s' (E := env) (t := .clo _ _) ?_ | refine WD.ixm' (E := env) ?_ | refine WD.ixo' (E := env) ?_ | refine WD.legm' (E := env) ?_ | refine WD.slS' (E := env) ?_ | refine WD.slD' (E := env) ?_ | refine WG.c (E := env) rfl rfl (hmk) rfl rfl ?_ | refine WD.c (E := env) rfl rfl (hmk) rfl rfl ?_ | refine WG.co (E := env) rfl rfl (hmk) rfl rfl rfl rfl ?_ | refine WG.cx (E := env) rfl (hmk) rfl ?_ | ((first | refine WG.sp' (fun h => ?_) fun h => ?_ | refine W.cond' (fun h => ?_) fun h => ?_ | refine WD.sp' (fun h => ?_) fun h => ?_) <;> (try simp only [decide_eq_true_eq, decide_eq_false_iff_not, Bool.not_eq_true', Bool.not_eq_false', Bool.and_eq_true, Bool.or_eq_true, Bool.and_eq_false_iff, Bool.or_eq_false_iff, Bool.not_eq_true, Bool.not_eq_false, Int.not_lt, Int.not_le, List.length_map, beq_self_eq_true, Bool.true_eq_false, Bool.false_eq_true] at h) <;> (try (exfalso; first | contradiction | omega))))
    all_goals first
      | (exfalso; omega)
      | exact ⟨_, _, by omega, ⟨i + 1, _, rfl, ⟨by omega, rfl⟩, rfl⟩, (by (refine le_ofL rfl ?_ ?_ <;> (repeat (first | exact trivial | refine ⟨⟨rfl, rfl⟩, ?_⟩ | refine ⟨rfl, .inl rfl, ?_⟩ | refine ⟨rfl, .inr rfl, ?_⟩))))⟩
  · obtain rfl : i = ls.length := by omega
    rw [List.take_length] at hq
    subst hq
    repeat' (first | refine W.seq ?_ | refine W.rg ?_ | refine W.dra' ?_ | refine W.block ?_ | refine W.skip ?_ | refine W.exit ?_ | refine W.cond_true' ?_ | refine W.cond_false' ?_ | refine WG.nil ?_ | refine WG.run' (E := env) ?_ | refine WG.gt' ?_ | refine WG.gf' ?_ | refine WG.ixm' (E := env) ?_ | refine WG.ixo' (E := env) ?_ | refine WG.legm' (E := env) ?_ | refine WG.slS' (E := env) ?_ | refine WG.slD' (E := env) ?_ | refine WG.ap' (E := env) ?_ | refine WD.nil ?_ | refine WD.bs' (E := env) ?_ | refine WD.s' (E := env) (t := .d _) ?_ | refine WD.p' ?_ | refine WD.px' ?_ | refine WD.s' (E := env) (t := .ea _ _) ?_ | refine WD.s' (E := env) (t := .lp _ _) ?_ | refine WD.s' (E := env) (t := .og _ _) ?_ | refine WD.s' (E := env) (t := .agg _) ?_ | refine WD.s' (E := env) (t := .tup _) ?_ | refine WD.s' (E := env) (t := .clo _ _) ?_ | refine WD.ixm' (E := env) ?_ | refine WD.ixo' (E := env) ?_ | refine WD.legm' (E := env) ?_ | refine WD.slS' (E := env) ?_ | refine WD.slD' (E := env) ?_ | ((first | refine WG.sp' (fun h => ?_) fun h => ?_ | refine W.cond' (fun h => ?_) fun h => ?_ | refine WD.sp' (fun h => ?_) fun h => ?_) <;> (try simp only [decide_eq_true_eq, decide_eq_false_iff_not, Bool.not_eq_true', Bool.not_eq_false', Bool.and_eq_true, Bool.or_eq_true, Bool.and_eq_false_iff, Bool.or_eq_false_iff, Bool.not_eq_true, Bool.not_eq_false, Int.not_lt, Int.not_le, List.length_map, beq_self_eq_true, Bool.true_eq_false, Bool.false_eq_true] at h) <;> (try (exfalso; first | contradiction | omega))))
    (refine W.ret ?_; (first | refine RetQ.b' ?_ | refine RetQ.i' ?_ | refine RetQ.d' ?_ | refine RetQ.t2' ?_ ?_ | refine RetQ.t3' ?_ ?_ ?_))
    rfl

theorem heldPartsResult_fn (code : Int) (ls : List Nat) (k : Nat) (hk : endSS k ls ≤ 1099511000000) (hl : ls.length ≤ 1048576) :
    Fun env.P 32 [prD code (marksSS k ls), dI k] (.d (dI ((endSS k ls : Nat) : Int))) [] := by
  refine Fun.intro Try.func32 rfl (by kernel_rfl) rfl ?_
  have c1 := heldCellSS_fn ls k hk hl
  repeat' (first | refine W.seq ?_ | refine W.rg ?_ | refine W.dra' ?_ | refine W.block ?_ | refine W.skip ?_ | refine W.exit ?_ | refine W.cond_true' ?_ | refine W.cond_false' ?_ | refine WG.nil ?_ | refine WG.run' (E := env) ?_ | refine WG.gt' ?_ | refine WG.gf' ?_ | refine WG.ixm' (E := env) ?_ | refine WG.ixo' (E := env) ?_ | refine WG.legm' (E := env) ?_ | refine WG.slS' (E := env) ?_ | refine WG.slD' (E := env) ?_ | refine WG.ap' (E := env) ?_ | refine WD.nil ?_ | refine WD.bs' (E := env) ?_ | refine WD.s' (E := env) (t := .d _) ?_ | refine WD.p' ?_ | refine WD.px' ?_ | refine WD.s' (E := env) (t := .ea _ _) ?_ | refine WD.s' (E := env) (t := .lp _ _) ?_ | refine WD.s' (E := env) (t := .og _ _) ?_ | refine WD.s' (E := env) (t := .agg _) ?_ | refine WD.s' (E := env) (t := .tup _) ?_ | refine WD.s' (E := env) (t := .clo _ _) ?_ | refine WD.ixm' (E := env) ?_ | refine WD.ixo' (E := env) ?_ | refine WD.legm' (E := env) ?_ | refine WD.slS' (E := env) ?_ | refine WD.slD' (E := env) ?_ | refine WG.c (E := env) rfl rfl (c1) rfl rfl ?_ | refine WD.c (E := env) rfl rfl (c1) rfl rfl ?_ | refine WG.co (E := env) rfl rfl (c1) rfl rfl rfl rfl ?_ | refine WG.cx (E := env) rfl (c1) rfl ?_ | ((first | refine WG.sp' (fun h => ?_) fun h => ?_ | refine W.cond' (fun h => ?_) fun h => ?_ | refine WD.sp' (fun h => ?_) fun h => ?_) <;> (try simp only [decide_eq_true_eq, decide_eq_false_iff_not, Bool.not_eq_true', Bool.not_eq_false', Bool.and_eq_true, Bool.or_eq_true, Bool.and_eq_false_iff, Bool.or_eq_false_iff, Bool.not_eq_true, Bool.not_eq_false, Int.not_lt, Int.not_le, List.length_map, beq_self_eq_true, Bool.true_eq_false, Bool.false_eq_true] at h) <;> (try (exfalso; first | contradiction | omega))))
  all_goals first | (exfalso; omega) | skip
  all_goals (refine W.ret ?_; (first | refine RetQ.b' ?_ | refine RetQ.i' ?_ | refine RetQ.d' ?_ | refine RetQ.t2' ?_ ?_ | refine RetQ.t3' ?_ ?_ ?_))
  all_goals rfl

set_option maxHeartbeats 2000000 in
theorem markPartsResult_fn (code : Int) (xs : List (List Cell)) (dd : Option (List (List D))) (k : Nat) (hk : k + 5 * sumC xs ≤ 1099511000000) (hl : xs.length ≤ 1048576) :
    FunQ env.P 31 [.agg [vI .i64 code, .og 0 0], vI .i64 k] [.x (neS (xs.map ceN) dd) 0]
      (just (vI .i64 ((k + 5 * sumC xs : Nat) : Int)) [.x (neS ((marksSS k (xs.map List.length)).map ceN) (some ((marksSS k (xs.map List.length)).map cellsR))) 0]) := by
  refine FunQ.intro Try.func31 rfl (by kernel_rfl) rfl ?_
  have c1 := markCellSS_fn xs dd k hk hl
  repeat' (first | refine W.seq ?_ | refine W.rg ?_ | refine W.dra' ?_ | refine W.block ?_ | refine W.skip ?_ | refine W.exit ?_ | refine W.cond_true' ?_ | refine W.cond_false' ?_ | refine WG.nil ?_ | refine WG.run' (E := env) ?_ | refine WG.gt' ?_ | refine WG.gf' ?_ | refine WG.ixm' (E := env) ?_ | refine WG.ixo' (E := env) ?_ | refine WG.legm' (E := env) ?_ | refine WG.slS' (E := env) ?_ | refine WG.slD' (E := env) ?_ | refine WG.ap' (E := env) ?_ | refine WD.nil ?_ | refine WD.bs' (E := env) ?_ | refine WD.s' (E := env) (t := .d _) ?_ | refine WD.p' ?_ | refine WD.px' ?_ | refine WD.s' (E := env) (t := .ea _ _) ?_ | refine WD.s' (E := env) (t := .lp _ _) ?_ | refine WD.s' (E := env) (t := .og _ _) ?_ | refine WD.s' (E := env) (t := .agg _) ?_ | refine WD.s' (E := env) (t := .tup _) ?_ | refine WD.s' (E := env) (t := .clo _ _) ?_ | refine WD.ixm' (E := env) ?_ | refine WD.ixo' (E := env) ?_ | refine WD.legm' (E := env) ?_ | refine WD.slS' (E := env) ?_ | refine WD.slD' (E := env) ?_ | refine WG.cq (E := env) [0] [0] false rfl rfl (c1) rfl rfl rfl rfl rfl rfl rfl (by first | exact trivial | exact ⟨rfl, trivial⟩ | exact ⟨rfl, rfl, trivial⟩) (.inl rfl) rfl (fun h => nomatch h) rfl rfl ?_ | refine WG.cqx (E := env) [0] [0] false rfl (c1) rfl rfl rfl rfl rfl rfl rfl (by first | exact trivial | exact ⟨rfl, trivial⟩ | exact ⟨rfl, rfl, trivial⟩) (.inl rfl) rfl (fun h => nomatch h) rfl ?_ | ((first | refine WG.sp' (fun h => ?_) fun h => ?_ | refine W.cond' (fun h => ?_) fun h => ?_ | refine WD.sp' (fun h => ?_) fun h => ?_) <;> (try simp only [decide_eq_true_eq, decide_eq_false_iff_not, Bool.not_eq_true', Bool.not_eq_false', Bool.and_eq_true, Bool.or_eq_true, Bool.and_eq_false_iff, Bool.or_eq_false_iff, Bool.not_eq_true, Bool.not_eq_false, Int.not_lt, Int.not_le, List.length_map, beq_self_eq_true, Bool.true_eq_false, Bool.false_eq_true] at h) <;> (try (exfalso; first | contradiction | omega))))
  refine W.ret ?_
  exact RetR.own (ob' := [.x (neS ((marksSS k (xs.map List.length)).map ceN) (some ((marksSS k (xs.map List.length)).map cellsR))) 0]) ⟨[0], [0], 2⟩ (.inl rfl) rfl (by first | trivial | exact resOK_of (E := env) rfl) rfl rfl rfl rfl rfl rfl ⟨rfl, trivial⟩ rfl ⟨rfl, rfl⟩

end Go.Proofs.Ytlegadpbjccelaa
