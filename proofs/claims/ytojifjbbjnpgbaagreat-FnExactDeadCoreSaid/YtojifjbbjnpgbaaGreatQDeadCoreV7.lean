/-
  Truthy: the program's and the reference's; the law. Conditions: none beyond the law's own.
-/
import Derived.Test.YtojifjbbjnpgbaaGreatQDeadCoreV6
set_option linter.unusedVariables false
set_option linter.unusedSimpArgs false
set_option maxRecDepth 100000
namespace Go.Proofs.YtojifjbbjnpgbaaGreat
open Go.RowKit

def V.truthy (v : V) : Bool := !decide (v.kind = 0) && !decide (v.kind = 1)

set_option maxHeartbeats 1000000 in
theorem truthy_fn (v : V) : Fun env.P 55 [.agg v.rowP] (.d (dB v.truthy)) [] := by
  refine Fun.intro Tryz.func55 rfl (by kernel_rfl) rfl ?_
  repeat' (first | refine W.seq ?_ | refine W.rg ?_ | refine W.dra' ?_ | refine W.block ?_ | refine W.skip ?_ | refine W.exit ?_ | refine W.cond_true' ?_ | refine W.cond_false' ?_ | refine WG.nil ?_ | refine WG.run' (E := env) ?_ | refine WG.gt' ?_ | refine WG.gf' ?_ | refine WG.ixm' (E := env) ?_ | refine WG.ixo' (E := env) ?_ | refine WG.legm' (E := env) ?_ | refine WG.slS' (E := env) ?_ | refine WG.slD' (E := env) ?_ | refine WG.ap' (E := env) ?_ | refine WD.nil ?_ | refine WD.bs' (E := env) ?_ | refine WD.s' (E := env) (t := .d _) ?_ | refine WD.p' ?_ | refine WD.px' ?_ | refine WD.s' (E := env) (t := .ea _ _) ?_ | refine WD.s' (E := env) (t := .lp _ _) ?_ | refine WD.s' (E := env) (t := .og _ _) ?_ | refine WD.s' (E := env) (t := .agg _) ?_ | refine WD.s' (E := env) (t := .tup _) ?_ | refine WD.s' (E := env) (t := .clo _ _) ?_ | refine WD.ixm' (E := env) ?_ | refine WD.ixo' (E := env) ?_ | refine WD.legm' (E := env) ?_ | refine WD.slS' (E := env) ?_ | refine WD.slD' (E := env) ?_ | ((first | refine WG.sp' (fun h => ?_) fun h => ?_ | refine W.cond' (fun h => ?_) fun h => ?_ | refine WD.sp' (fun h => ?_) fun h => ?_) <;> (try simp only [decide_eq_true_eq, decide_eq_false_iff_not, Bool.not_eq_true', Bool.not_eq_false', Bool.and_eq_true, Bool.or_eq_true, Bool.and_eq_false_iff, Bool.or_eq_false_iff, Bool.not_eq_true, Bool.not_eq_false, Int.not_lt, Int.not_le, List.length_map, beq_self_eq_true, Bool.true_eq_false, Bool.false_eq_true] at h) <;> (try (exfalso; first | contradiction | omega))))
  all_goals (refine W.ret ?_; (first | refine RetQ.b' ?_ | refine RetQ.i' ?_ | refine RetQ.d' ?_ | refine RetQ.t2' ?_ ?_ | refine RetQ.t3' ?_ ?_ ?_))
  all_goals simp [V.truthy, *]

/-- The kind of a right value is the kind of its first cell. -/
theorem valOfM_kind {cs : List Cell} (h : (valOfM cs).2 = 0) : (valOfM cs).1.kind = (cs.getD 0 default).kind ∧ 1 ≤ cs.length ∧ cs.length ≤ 200 ∧ cellsCode cs = 0 := by
  unfold valOfM at h ⊢
  split at h
  · simp at h
  · rename_i hl
    rw [if_neg hl]
    split at h
    · rename_i hc; exact absurd h hc
    · rename_i hc
      rw [if_neg hc]
      cases hv : valAtM cs (cs.length + 1) 0 with
      | none => rw [hv] at h; simp at h
      | some p =>
        obtain ⟨v, b⟩ := p
        rw [hv] at h
        simp only at h ⊢
        split at h
        · simp at h
        · rename_i hb
          rw [if_neg hb]
          split at h
          · simp at h
          · rename_i hd
            rw [if_neg hd]
            simp only [valAtM] at hv
            rw [if_pos (by omega)] at hv
            split at hv
            · cases hv
            · simp only [Option.some.injEq, Prod.mk.injEq] at hv
              obtain ⟨rfl, _⟩ := hv
              exact ⟨rfl, by omega, by omega, by omega⟩

theorem cellsCode_kind {cs : List Cell} (h : cellsCode cs = 0) (i : Nat) (hi : i < cs.length) : cellCode (cs.getD i default) = 0 := by
  induction cs generalizing i with
  | nil => simp at hi
  | cons c r ih =>
    unfold cellsCode at h
    split at h
    · rename_i hc; exact absurd h hc
    · rename_i hc
      cases i with
      | zero => simpa using hc
      | succ i => exact ih h i (by simpa using hi)

theorem cellCode_range {c : Cell} (h : cellCode c = 0) : 0 ≤ c.kind ∧ c.kind ≤ 6 := by
  unfold cellCode at h
  split at h
  · cases h
  · rename_i hc
    simpa using hc

set_option maxHeartbeats 1000000 in
theorem l1Truthy_fn (cs : List Cell) (hl : 1 ≤ cs.length) : Fun env.P 166 [cellsD cs] (.d (dB (decide (1 < (cs.getD 0 default).kind)))) [] := by
  refine Fun.intro Tryz.func166 rfl (by kernel_rfl) rfl ?_
  repeat' (first | refine W.seq ?_ | refine W.rg ?_ | refine W.dra' ?_ | refine W.block ?_ | refine W.skip ?_ | refine W.exit ?_ | refine W.cond_true' ?_ | refine W.cond_false' ?_ | refine WG.nil ?_ | refine WG.run' (E := env) ?_ | refine WG.gt' ?_ | refine WG.gf' ?_ | refine WG.ixm' (E := env) ?_ | refine WG.ixo' (E := env) ?_ | refine WG.legm' (E := env) ?_ | refine WG.slS' (E := env) ?_ | refine WG.slD' (E := env) ?_ | refine WG.ap' (E := env) ?_ | refine WD.nil ?_ | refine WD.bs' (E := env) ?_ | refine WD.s' (E := env) (t := .d _) ?_ | refine WD.p' ?_ | refine WD.px' ?_ | refine WD.s' (E := env) (t := .ea _ _) ?_ | refine WD.s' (E := env) (t := .lp _ _) ?_ | refine WD.s' (E := env) (t := .og _ _) ?_ | refine WD.s' (E := env) (t := .agg _) ?_ | refine WD.s' (E := env) (t := .tup _) ?_ | refine WD.s' (E := env) (t := .clo _ _) ?_ | refine WD.ixm' (E := env) ?_ | refine WD.ixo' (E := env) ?_ | refine WD.legm' (E := env) ?_ | refine WD.slS' (E := env) ?_ | refine WD.slD' (E := env) ?_ | ((first | refine WG.sp' (fun h => ?_) fun h => ?_ | refine W.cond' (fun h => ?_) fun h => ?_ | refine WD.sp' (fun h => ?_) fun h => ?_) <;> (try simp only [decide_eq_true_eq, decide_eq_false_iff_not, Bool.not_eq_true', Bool.not_eq_false', Bool.and_eq_true, Bool.or_eq_true, Bool.and_eq_false_iff, Bool.or_eq_false_iff, Bool.not_eq_true, Bool.not_eq_false, Int.not_lt, Int.not_le, List.length_map, beq_self_eq_true, Bool.true_eq_false, Bool.false_eq_true] at h) <;> (try (exfalso; first | contradiction | omega))))
  all_goals (refine W.ret ?_; (first | refine RetQ.b' ?_ | refine RetQ.i' ?_ | refine RetQ.d' ?_ | refine RetQ.t2' ?_ ?_ | refine RetQ.t3' ?_ ?_ ?_))
  all_goals simp

end Go.Proofs.YtojifjbbjnpgbaaGreat
