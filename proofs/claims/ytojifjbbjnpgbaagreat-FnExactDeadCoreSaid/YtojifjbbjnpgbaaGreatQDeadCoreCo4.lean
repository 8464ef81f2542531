/-
  One node of a core: its fault, by the reference. Conditions: cores of at most 2^20 nodes, values of at most 2^20 cells, texts of at most 2^20 bytes.
-/
import Derived.Test.YtojifjbbjnpgbaaGreatQDeadCoreCo3
set_option linter.unusedVariables false
set_option linter.unusedSimpArgs false
set_option maxRecDepth 100000
namespace Go.Proofs.YtojifjbbjnpgbaaGreat
open Go.RowKit

/-- What the reference asks of a node, in its own order. -/
def coreS (n : Co) (k : Nat) : Int :=
  if ¬ (1 ≤ n.op ∧ n.op ≤ 17) then 6
  else if (numHiC n.op = 0 ∧ n.num ≠ 0) ∨ (hasVl n.op = false ∧ n.val.length ≠ 0) then 1
  else if kidCB n k 0 = false ∨ kidCB n k 1 = false ∨ kidCB n k 2 = false then 1
  else if hasVl n.op = true ∧ (valOfM n.val).2 ≠ 0 then (valOfM n.val).2
  else if n.op = 11 ∧ (n.val.getD 0 default).kind ≠ 4 then 6
  else if ¬ (numLoC n.op ≤ n.num ∧ n.num ≤ numHiC n.op) then 3 else 0

theorem numHiC_zero (op : Int) : numHiC op = 0 ↔ hasNc op = false := by
  unfold numHiC hasNc
  constructor
  · intro h
    repeat' split at h
    all_goals first | omega | (simp; omega)
  · intro h
    simp at h
    rw [if_neg h.1, if_neg (by omega), if_neg (by omega)]

theorem coreS_eq (n : Co) (k : Nat) : coreS n k = coreC n k := by
  unfold coreS coreC
  by_cases h0 : 1 ≤ n.op ∧ n.op ≤ 17
  · have h0' : ¬ ¬ (1 ≤ n.op ∧ n.op ≤ 17) := fun h => h h0
    rw [if_neg h0', if_neg h0']
    by_cases hf : formC3 n k = true
    · have hf' := hf
      unfold formC3 at hf
      simp only [Bool.and_eq_true, Bool.or_eq_true, decide_eq_true_eq] at hf
      obtain ⟨⟨⟨⟨f0, f1⟩, f2⟩, f3⟩, f4⟩ := hf
      have g1 : ¬ ((numHiC n.op = 0 ∧ n.num ≠ 0) ∨ (hasVl n.op = false ∧ n.val.length ≠ 0)) := by
        rintro (⟨a, b⟩ | ⟨a, b⟩)
        · rw [numHiC_zero] at a
          rcases f3 with f3 | f3
          · rw [a] at f3; cases f3
          · exact b f3
        · rcases f4 with f4 | f4
          · rw [a] at f4; cases f4
          · exact b f4
      have g3 : (¬ (numLoC n.op ≤ n.num ∧ n.num ≤ numHiC n.op)) ↔ numOkC n = false := by
        unfold numOkC
        by_cases hn : hasNc n.op = true
        · rw [if_pos hn] <;> simp <;> omega
        · rw [if_neg hn]
          have hn' : hasNc n.op = false := by simpa using hn
          rcases f3 with f3 | f3
          · exact absurd f3 hn
          · have h1 := (numHiC_zero n.op).2 hn'
            have h2 : numLoC n.op = 0 := by
              unfold hasNc at hn'
              simp at hn'
              unfold numLoC
              rw [if_neg (by omega)]
            rw [h1, h2, f3]; simp
      rw [if_neg g1, if_neg (by simp [f0, f1, f2]), if_neg (by simp [hf'] : ¬ formC3 n k = false)]
      by_cases hv : hasVl n.op = true ∧ (valOfM n.val).2 ≠ 0
      · rw [if_pos hv, if_pos hv]
      · rw [if_neg hv, if_neg hv]
        have g4 : (n.op = 11 ∧ (n.val.getD 0 default).kind ≠ 4) ↔ (n.op = 11 ∧ (valOfM n.val).1.kind ≠ 4) := by
          by_cases h11 : n.op = 11
          · have hz : (valOfM n.val).2 = 0 := by
              by_cases h : (valOfM n.val).2 = 0
              · exact h
              · exact absurd ⟨by simp [hasVl, h11], h⟩ hv
            rw [(valOfM_kind hz).1]
          · simp [h11]
        simp only [g4]
        by_cases hk : n.op = 11 ∧ (valOfM n.val).1.kind ≠ 4
        · rw [if_pos hk, if_pos hk]
        · rw [if_neg hk, if_neg hk]
          by_cases hn : numOkC n = false
          · rw [if_pos (g3.2 hn), if_pos hn]
          · rw [if_neg (fun h => hn (g3.1 h)), if_neg hn]
    · rw [if_pos (show formC3 n k = false by simpa using hf)]
      by_cases g1 : (numHiC n.op = 0 ∧ n.num ≠ 0) ∨ (hasVl n.op = false ∧ n.val.length ≠ 0)
      · rw [if_pos g1]
      · rw [if_neg g1]
        by_cases g2 : kidCB n k 0 = false ∨ kidCB n k 1 = false ∨ kidCB n k 2 = false
        · rw [if_pos g2]
        · exfalso
          apply hf
          simp only [not_or, Bool.not_eq_false, not_and, ne_eq, Decidable.not_not] at g1 g2
          unfold formC3
          rw [g2.1, g2.2.1, g2.2.2]
          simp only [Bool.and_true, Bool.true_and, Bool.and_eq_true, Bool.or_eq_true, decide_eq_true_eq]
          refine ⟨?_, ?_⟩
          · by_cases h : hasNc n.op = true
            · exact .inl h
            · exact .inr (g1.1 ((numHiC_zero _).2 (by simpa using h)))
          · by_cases h : hasVl n.op = true
            · exact .inl h
            · exact .inr (g1.2 (by simpa using h))
  · rw [if_pos h0, if_pos h0]

set_option maxHeartbeats 4000000 in
theorem l6Node_fn (cs : List Co) (k : Nat) (hk : k < cs.length) (hl : cs.length ≤ 1048576) (ht : ∀ n ∈ cs, n.fine) : Fun env.P 89 [coresD cs, dI k] (.d (dI (coreC (cs.getD k default) k))) [] := by
  have htk := ht _ (getD_mem' hk)
  refine Fun.intro Tryz.func89 rfl (by kernel_rfl) rfl ?_
  repeat (first | refine W.seq ?_ | refine W.rg ?_ | refine W.dra' ?_ | refine W.block ?_ | refine W.skip ?_ | refine W.exit ?_ | refine W.cond_true' ?_ | refine W.cond_false' ?_ | refine WG.nil ?_ | refine WG.run' (E := env) ?_ | refine WG.gt' ?_ | refine WG.gf' ?_ | refine WG.ixm' (E := env) ?_ | refine WG.ixo' (E := env) ?_ | refine WG.legm' (E := env) ?_ | refine WG.slS' (E := env) ?_ | refine WG.slD' (E := env) ?_ | refine WG.ap' (E := env) ?_ | refine WD.nil ?_ | refine WD.bs' (E := env) ?_ | refine WD.s' (E := env) (t := .d _) ?_ | refine WD.p' ?_ | refine WD.px' ?_ | refine WD.s' (E := env) (t := .ea _ _) ?_ | refine WD.s' (E := env) (t := .lp _ _) ?_ | refine WD.s' (E := env) (t := .og _ _) ?_ | refine WD.s' (E := env) (t := .agg _) ?_ | refine WD.s' (E := env) (t := .tup _) ?_ | refine WD.s' (E := env) (t := .clo _ _) ?_ | refine WD.ixm' (E := env) ?_ | refine WD.ixo' (E := env) ?_ | refine WD.legm' (E := env) ?_ | refine WD.slS' (E := env) ?_ | refine WD.slD' (E := env) ?_)
  have hat : cs.getD (Int.toNat k) default = cs.getD k default := by simp
  rw [hat]
  generalize hn : cs.getD k default = n at htk
  have hin := l1In_fn n.op 1 17
  have hnm := l6Nums_fn n.op
  have htx := l6HasVal_fn n.op
  have hks := l6Kids_fn n.op
  have hvf := ValueFaultS_fn n.val htk.1 htk.2
  have hle := arC_le n.op
  clear hn hat
  rw [← coreS_eq]
  repeat (first | refine W.seq ?_ | refine W.rg ?_ | refine W.dra' ?_ | refine W.block ?_ | refine W.skip ?_ | refine W.exit ?_ | refine W.cond_true' ?_ | refine W.cond_false' ?_ | refine WG.nil ?_ | refine WG.run' (E := env) ?_ | refine WG.gt' ?_ | refine WG.gf' ?_ | refine WG.ixm' (E := env) ?_ | refine WG.ixo' (E := env) ?_ | refine WG.legm' (E := env) ?_ | refine WG.slS' (E := env) ?_ | refine WG.slD' (E := env) ?_ | refine WG.ap' (E := env) ?_ | refine WD.nil ?_ | refine WD.bs' (E := env) ?_ | refine WD.s' (E := env) (t := .d _) ?_ | refine WD.p' ?_ | refine WD.px' ?_ | refine WD.s' (E := env) (t := .ea _ _) ?_ | refine WD.s' (E := env) (t := .lp _ _) ?_ | refine WD.s' (E := env) (t := .og _ _) ?_ | refine WD.s' (E := env) (t := .agg _) ?_ | refine WD.s' (E := env) (t := .tup _) ?_ | refine WD.s' (E := env) (t := .clo _ _) ?_ | refine WD.ixm' (E := env) ?_ | refine WD.ixo' (E := env) ?_ | refine WD.legm' (E := env) ?_ | refine WD.slS' (E := env) ?_ | refine WD.slD' (E := env) ?_ | refine WG.c (E := env) rfl rfl (hin) rfl rfl ?_ | refine WD.c (E := env) rfl rfl (hin) rfl rfl ?_ | refine WG.co (E := env) rfl rfl (hin) rfl rfl rfl rfl ?_ | refine WG.cx (E := env) rfl (hin) rfl ?_)
  refine W.cond rfl (fun e1 => ?_) (fun e1 => ?_)
  · repeat' (first | refine W.seq ?_ | refine W.rg ?_ | refine W.dra' ?_ | refine W.block ?_ | refine W.skip ?_ | refine W.exit ?_ | refine W.cond_true' ?_ | refine W.cond_false' ?_ | refine WG.nil ?_ | refine WG.run' (E := env) ?_ | refine WG.gt' ?_ | refine WG.gf' ?_ | refine WG.ixm' (E := env) ?_ | refine WG.ixo' (E := env) ?_ | refine WG.legm' (E := env) ?_ | refine WG.slS' (E := env) ?_ | refine WG.slD' (E := env) ?_ | refine WG.ap' (E := env) ?_ | refine WD.nil ?_ | refine WD.bs' (E := env) ?_ | refine WD.s' (E := env) (t := .d _) ?_ | refine WD.p' ?_ | refine WD.px' ?_ | refine WD.s' (E := env) (t := .ea _ _) ?_ | refine WD.s' (E := env) (t := .lp _ _) ?_ | refine WD.s' (E := env) (t := .og _ _) ?_ | refine WD.s' (E := env) (t := .agg _) ?_ | refine WD.s' (E := env) (t := .tup _) ?_ | refine WD.s' (E := env) (t := .clo _ _) ?_ | refine WD.ixm' (E := env) ?_ | refine WD.ixo' (E := env) ?_ | refine WD.legm' (E := env) ?_ | refine WD.slS' (E := env) ?_ | refine WD.slD' (E := env) ?_ | ((first | refine WG.sp' (fun h => ?_) fun h => ?_ | refine W.cond' (fun h => ?_) fun h => ?_ | refine WD.sp' (fun h => ?_) fun h => ?_) <;> (try simp only [decide_eq_true_eq, decide_eq_false_iff_not, Bool.not_eq_true', Bool.not_eq_false', Bool.and_eq_true, Bool.or_eq_true, Bool.and_eq_false_iff, Bool.or_eq_false_iff, Bool.not_eq_true, Bool.not_eq_false, Int.not_lt, Int.not_le, List.length_map, beq_self_eq_true, Bool.true_eq_false, Bool.false_eq_true] at h) <;> (try (exfalso; first | contradiction | omega))))
    (refine W.ret ?_; (first | refine RetQ.b' ?_ | refine RetQ.i' ?_ | refine RetQ.d' ?_ | refine RetQ.t2' ?_ ?_ | refine RetQ.t3' ?_ ?_ ?_))
    simp at e1
    unfold coreS; rw [if_pos (by omega)]
  have h0 : ¬ ¬ (1 ≤ n.op ∧ n.op ≤ 17) := by simp at e1; omega
  refine W.skip ?_
  repeat refine W.seq ?_
  refine W.rg ?_
  repeat (first | refine WG.nil ?_ | refine WG.run' (E := env) ?_ | refine WG.gt' ?_ | refine WG.gf' ?_ | refine WG.ixm' (E := env) ?_ | refine WG.ixo' (E := env) ?_ | refine WG.legm' (E := env) ?_ | refine WG.slS' (E := env) ?_ | refine WG.slD' (E := env) ?_ | refine WG.ap' (E := env) ?_ | refine WG.c (E := env) rfl rfl (hnm) rfl rfl ?_ | refine WD.c (E := env) rfl rfl (hnm) rfl rfl ?_ | refine WG.co (E := env) rfl rfl (hnm) rfl rfl rfl rfl ?_ | refine WG.cx (E := env) rfl (hnm) rfl ?_)
  repeat refine W.seq ?_
  refine W.jb 43 (decide ((numHiC n.op = 0 ∧ n.num ≠ 0) ∨ (hasVl n.op = false ∧ n.val.length ≠ 0))) ?_ ?_
  · repeat' (first | refine WG.nil ?_ | refine WG.run' (E := env) ?_ | refine WG.gt' ?_ | refine WG.gf' ?_ | refine WG.ixm' (E := env) ?_ | refine WG.ixo' (E := env) ?_ | refine WG.legm' (E := env) ?_ | refine WG.slS' (E := env) ?_ | refine WG.slD' (E := env) ?_ | refine WG.ap' (E := env) ?_ | refine WG.c (E := env) rfl rfl (htx) rfl rfl ?_ | refine WD.c (E := env) rfl rfl (htx) rfl rfl ?_ | refine WG.co (E := env) rfl rfl (htx) rfl rfl rfl rfl ?_ | refine WG.cx (E := env) rfl (htx) rfl ?_ | (refine WG.sp' (fun h => ?_) fun h => ?_ <;> (try simp only [decide_eq_true_eq, decide_eq_false_iff_not, Bool.not_eq_true', Bool.not_eq_false', Bool.and_eq_true, Bool.or_eq_true, Bool.and_eq_false_iff, Bool.or_eq_false_iff, Bool.not_eq_true, Bool.not_eq_false, Int.not_lt, Int.not_le, List.length_map, beq_self_eq_true, Bool.true_eq_false, Bool.false_eq_true] at h) <;> (try (exfalso; first | contradiction | omega))))
    all_goals refine ⟨rfl, rfl, _, rfl, ?_, by (repeat refine leU.step rfl ?_) <;> first | exact leU.forget (leU.refl _) | exact leU.refl _ | (repeat (first | exact leU.forget (leU.refl _) | exact leU.refl _ | refine leU.step rfl ?_ | refine leU.same rfl ?_))⟩
    all_goals (simp_all; try (cases n.val <;> simp))
  refine W.cond rfl (fun e2 => ?_) (fun e2 => ?_)
  · repeat' (first | refine W.seq ?_ | refine W.rg ?_ | refine W.dra' ?_ | refine W.block ?_ | refine W.skip ?_ | refine W.exit ?_ | refine W.cond_true' ?_ | refine W.cond_false' ?_ | refine WG.nil ?_ | refine WG.run' (E := env) ?_ | refine WG.gt' ?_ | refine WG.gf' ?_ | refine WG.ixm' (E := env) ?_ | refine WG.ixo' (E := env) ?_ | refine WG.legm' (E := env) ?_ | refine WG.slS' (E := env) ?_ | refine WG.slD' (E := env) ?_ | refine WG.ap' (E := env) ?_ | refine WD.nil ?_ | refine WD.bs' (E := env) ?_ | refine WD.s' (E := env) (t := .d _) ?_ | refine WD.p' ?_ | refine WD.px' ?_ | refine WD.s' (E := env) (t := .ea _ _) ?_ | refine WD.s' (E := env) (t := .lp _ _) ?_ | refine WD.s' (E := env) (t := .og _ _) ?_ | refine WD.s' (E := env) (t := .agg _) ?_ | refine WD.s' (E := env) (t := .tup _) ?_ | refine WD.s' (E := env) (t := .clo _ _) ?_ | refine WD.ixm' (E := env) ?_ | refine WD.ixo' (E := env) ?_ | refine WD.legm' (E := env) ?_ | refine WD.slS' (E := env) ?_ | refine WD.slD' (E := env) ?_ | ((first | refine WG.sp' (fun h => ?_) fun h => ?_ | refine W.cond' (fun h => ?_) fun h => ?_ | refine WD.sp' (fun h => ?_) fun h => ?_) <;> (try simp only [decide_eq_true_eq, decide_eq_false_iff_not, Bool.not_eq_true', Bool.not_eq_false', Bool.and_eq_true, Bool.or_eq_true, Bool.and_eq_false_iff, Bool.or_eq_false_iff, Bool.not_eq_true, Bool.not_eq_false, Int.not_lt, Int.not_le, List.length_map, beq_self_eq_true, Bool.true_eq_false, Bool.false_eq_true] at h) <;> (try (exfalso; first | contradiction | omega))))
    (refine W.ret ?_; (first | refine RetQ.b' ?_ | refine RetQ.i' ?_ | refine RetQ.d' ?_ | refine RetQ.t2' ?_ ?_ | refine RetQ.t3' ?_ ?_ ?_))
    simp only [decide_eq_true_eq] at e2
    unfold coreS; rw [if_neg h0, if_pos e2]
  rw [decide_eq_false_iff_not] at e2
  refine W.skip ?_
  repeat (first | refine W.seq ?_ | refine W.rg ?_ | refine W.dra' ?_ | refine W.block ?_ | refine W.skip ?_ | refine W.exit ?_ | refine W.cond_true' ?_ | refine W.cond_false' ?_ | refine WG.nil ?_ | refine WG.run' (E := env) ?_ | refine WG.gt' ?_ | refine WG.gf' ?_ | refine WG.ixm' (E := env) ?_ | refine WG.ixo' (E := env) ?_ | refine WG.legm' (E := env) ?_ | refine WG.slS' (E := env) ?_ | refine WG.slD' (E := env) ?_ | refine WG.ap' (E := env) ?_ | refine WD.nil ?_ | refine WD.bs' (E := env) ?_ | refine WD.s' (E := env) (t := .d _) ?_ | refine WD.p' ?_ | refine WD.px' ?_ | refine WD.s' (E := env) (t := .ea _ _) ?_ | refine WD.s' (E := env) (t := .lp _ _) ?_ | refine WD.s' (E := env) (t := .og _ _) ?_ | refine WD.s' (E := env) (t := .agg _) ?_ | refine WD.s' (E := env) (t := .tup _) ?_ | refine WD.s' (E := env) (t := .clo _ _) ?_ | refine WD.ixm' (E := env) ?_ | refine WD.ixo' (E := env) ?_ | refine WD.legm' (E := env) ?_ | refine WD.slS' (E := env) ?_ | refine WD.slD' (E := env) ?_)
  refine W.loop (fun m S => ∃ i : Nat, m = 3 - i ∧ (i ≤ 3 ∧ ∀ j, j < i → kidCB n k j = true) ∧ S = ⟨ofL [(0, .d (coresD cs)), (1, vI .i64 k), (5, .lp 0 0), (6, vI .i64 (numLoC n.op)), (7, vI .i64 (numHiC n.op)), (8, vI .i64 i)], [.pv (n.row.map .d)]⟩) _ _ ⟨0, rfl, ⟨by omega, fun j hj => by omega⟩, rfl⟩ (by (refine le_ofL rfl ?_ ?_ <;> (repeat (first | exact trivial | refine ⟨⟨rfl, rfl⟩, ?_⟩ | refine ⟨rfl, .inl rfl, ?_⟩ | refine ⟨rfl, .inr rfl, ?_⟩)))) ?_
  rintro m S ⟨i, rfl, ⟨hi, hb⟩, rfl⟩
  by_cases hi3 : i < 3
  · have hkd := l6Kid_fn n i hi3
    repeat (first | refine W.seq ?_ | refine W.rg ?_ | refine W.dra' ?_ | refine W.block ?_ | refine W.skip ?_ | refine W.exit ?_ | refine W.cond_true' ?_ | refine W.cond_false' ?_ | refine WG.nil ?_ | refine WG.run' (E := env) ?_ | refine WG.gt' ?_ | refine WG.gf' ?_ | refine WG.ixm' (E := env) ?_ | refine WG.ixo' (E := env) ?_ | refine WG.legm' (E := env) ?_ | refine WG.slS' (E := env) ?_ | refine WG.slD' (E := env) ?_ | refine WG.ap' (E := env) ?_ | refine WD.nil ?_ | refine WD.bs' (E := env) ?_ | refine WD.s' (E := env) (t := .d _) ?_ | refine WD.p' ?_ | refine WD.px' ?_ | refine WD.s' (E := env) (t := .ea _ _) ?_ | refine WD.s' (E := env) (t := .lp _ _) ?_ | refine WD.s' (E := env) (t := .og _ _) ?_ | refine WD.s' (E := env) (t := .agg _) ?_ | refine WD.s' (E := env) (t := .tup _) ?_ | refine WD.s' (E := env) (t := .clo _ _) ?_ | refine WD.ixm' (E := env) ?_ | refine WD.ixo' (E := env) ?_ | refine WD.legm' (E := env) ?_ | refine WD.slS' (E := env) ?_ | refine WD.slD' (E := env) ?_)
    refine W.cond rfl (fun e3 => ?_) (fun e3 => ?_)
    rotate_left
    · exfalso; simp at e3; omega
    refine W.skip ?_
    repeat refine W.seq ?_
    refine W.block ?_
    repeat refine W.seq ?_
    refine W.rg ?_
    repeat (first | refine WG.nil ?_ | refine WG.run' (E := env) ?_ | refine WG.gt' ?_ | refine WG.gf' ?_ | refine WG.ixm' (E := env) ?_ | refine WG.ixo' (E := env) ?_ | refine WG.legm' (E := env) ?_ | refine WG.slS' (E := env) ?_ | refine WG.slD' (E := env) ?_ | refine WG.ap' (E := env) ?_ | refine WG.c (E := env) rfl rfl (hkd) rfl rfl ?_ | refine WD.c (E := env) rfl rfl (hkd) rfl rfl ?_ | refine WG.co (E := env) rfl rfl (hkd) rfl rfl rfl rfl ?_ | refine WG.cx (E := env) rfl (hkd) rfl ?_)
    repeat refine W.seq ?_
    refine W.jb 73 (!kidCB n k i) ?_ ?_
    · repeat' (first | refine WG.nil ?_ | refine WG.run' (E := env) ?_ | refine WG.gt' ?_ | refine WG.gf' ?_ | refine WG.ixm' (E := env) ?_ | refine WG.ixo' (E := env) ?_ | refine WG.legm' (E := env) ?_ | refine WG.slS' (E := env) ?_ | refine WG.slD' (E := env) ?_ | refine WG.ap' (E := env) ?_ | refine WG.c (E := env) rfl rfl (hks) rfl rfl ?_ | refine WD.c (E := env) rfl rfl (hks) rfl rfl ?_ | refine WG.co (E := env) rfl rfl (hks) rfl rfl rfl rfl ?_ | refine WG.cx (E := env) rfl (hks) rfl ?_ | refine WG.c (E := env) rfl rfl (l1In_fn _ _ _) rfl rfl ?_ | refine WD.c (E := env) rfl rfl (l1In_fn _ _ _) rfl rfl ?_ | refine WG.co (E := env) rfl rfl (l1In_fn _ _ _) rfl rfl rfl rfl ?_ | refine WG.cx (E := env) rfl (l1In_fn _ _ _) rfl ?_ | (refine WG.sp' (fun h => ?_) fun h => ?_ <;> (try simp only [decide_eq_true_eq, decide_eq_false_iff_not, Bool.not_eq_true', Bool.not_eq_false', Bool.and_eq_true, Bool.or_eq_true, Bool.and_eq_false_iff, Bool.or_eq_false_iff, Bool.not_eq_true, Bool.not_eq_false, Int.not_lt, Int.not_le, List.length_map, beq_self_eq_true, Bool.true_eq_false, Bool.false_eq_true] at h) <;> (try (exfalso; first | contradiction | omega))))
      all_goals refine ⟨rfl, rfl, _, rfl, ?_, by (repeat refine leU.step rfl ?_) <;> first | exact leU.forget (leU.refl _) | exact leU.refl _ | (repeat (first | exact leU.forget (leU.refl _) | exact leU.refl _ | refine leU.step rfl ?_ | refine leU.same rfl ?_))⟩
      all_goals first | (rw [kidCB, if_pos (by omega)]; done) | (rw [kidCB, if_pos (by omega)]; simp; done) | (rw [kidCB, if_pos (by omega)]; simp; omega) | (rw [kidCB, if_neg (by omega)]; simp; done) | (rw [kidCB, if_neg (by omega)]; simp; omega)
    refine W.cond rfl (fun e4 => ?_) (fun e4 => ?_)
    · repeat' (first | refine W.seq ?_ | refine W.rg ?_ | refine W.dra' ?_ | refine W.block ?_ | refine W.skip ?_ | refine W.exit ?_ | refine W.cond_true' ?_ | refine W.cond_false' ?_ | refine WG.nil ?_ | refine WG.run' (E := env) ?_ | refine WG.gt' ?_ | refine WG.gf' ?_ | refine WG.ixm' (E := env) ?_ | refine WG.ixo' (E := env) ?_ | refine WG.legm' (E := env) ?_ | refine WG.slS' (E := env) ?_ | refine WG.slD' (E := env) ?_ | refine WG.ap' (E := env) ?_ | refine WD.nil ?_ | refine WD.bs' (E := env) ?_ | refine WD.s' (E := env) (t := .d _) ?_ | refine WD.p' ?_ | refine WD.px' ?_ | refine WD.s' (E := env) (t := .ea _ _) ?_ | refine WD.s' (E := env) (t := .lp _ _) ?_ | refine WD.s' (E := env) (t := .og _ _) ?_ | refine WD.s' (E := env) (t := .agg _) ?_ | refine WD.s' (E := env) (t := .tup _) ?_ | refine WD.s' (E := env) (t := .clo _ _) ?_ | refine WD.ixm' (E := env) ?_ | refine WD.ixo' (E := env) ?_ | refine WD.legm' (E := env) ?_ | refine WD.slS' (E := env) ?_ | refine WD.slD' (E := env) ?_ | ((first | refine WG.sp' (fun h => ?_) fun h => ?_ | refine W.cond' (fun h => ?_) fun h => ?_ | refine WD.sp' (fun h => ?_) fun h => ?_) <;> (try simp only [decide_eq_true_eq, decide_eq_false_iff_not, Bool.not_eq_true', Bool.not_eq_false', Bool.and_eq_true, Bool.or_eq_true, Bool.and_eq_false_iff, Bool.or_eq_false_iff, Bool.not_eq_true, Bool.not_eq_false, Int.not_lt, Int.not_le, List.length_map, beq_self_eq_true, Bool.true_eq_false, Bool.false_eq_true] at h) <;> (try (exfalso; first | contradiction | omega))))
      (refine W.ret ?_; (first | refine RetQ.b' ?_ | refine RetQ.i' ?_ | refine RetQ.d' ?_ | refine RetQ.t2' ?_ ?_ | refine RetQ.t3' ?_ ?_ ?_))
      unfold coreS
      rw [if_neg h0, if_neg e2, if_pos (by
        have : i = 0 ∨ i = 1 ∨ i = 2 := by omega
        rcases this with rfl | rfl | rfl <;> simp_all)]
    · repeat' (first | refine W.seq ?_ | refine W.rg ?_ | refine W.dra' ?_ | refine W.block ?_ | refine W.skip ?_ | refine W.exit ?_ | refine W.cond_true' ?_ | refine W.cond_false' ?_ | refine WG.nil ?_ | refine WG.run' (E := env) ?_ | refine WG.gt' ?_ | refine WG.gf' ?_ | refine WG.ixm' (E := env) ?_ | refine WG.ixo' (E := env) ?_ | refine WG.legm' (E := env) ?_ | refine WG.slS' (E := env) ?_ | refine WG.slD' (E := env) ?_ | refine WG.ap' (E := env) ?_ | refine WD.nil ?_ | refine WD.bs' (E := env) ?_ | refine WD.s' (E := env) (t := .d _) ?_ | refine WD.p' ?_ | refine WD.px' ?_ | refine WD.s' (E := env) (t := .ea _ _) ?_ | refine WD.s' (E := env) (t := .lp _ _) ?_ | refine WD.s' (E := env) (t := .og _ _) ?_ | refine WD.s' (E := env) (t := .agg _) ?_ | refine WD.s' (E := env) (t := .tup _) ?_ | refine WD.s' (E := env) (t := .clo _ _) ?_ | refine WD.ixm' (E := env) ?_ | refine WD.ixo' (E := env) ?_ | refine WD.legm' (E := env) ?_ | refine WD.slS' (E := env) ?_ | refine WD.slD' (E := env) ?_ | ((first | refine WG.sp' (fun h => ?_) fun h => ?_ | refine W.cond' (fun h => ?_) fun h => ?_ | refine WD.sp' (fun h => ?_) fun h => ?_) <;> (try simp only [decide_eq_true_eq, decide_eq_false_iff_not, Bool.not_eq_true', Bool.not_eq_false', Bool.and_eq_true, Bool.or_eq_true, Bool.and_eq_false_iff, Bool.or_eq_false_iff, Bool.not_eq_true, Bool.not_eq_false, Int.not_lt, Int.not_le, List.length_map, beq_self_eq_true, Bool.true_eq_false, Bool.false_eq_true] at h) <;> (try (exfalso; first | contradiction | omega))))
      exact ⟨_, _, by omega, ⟨i + 1, rfl, ⟨by omega, fun j hj => by
        by_cases e : j = i
        · rw [e]; simpa using e4
        · exact hb j (by omega)⟩, rfl⟩, (by (refine le_ofL rfl ?_ ?_ <;> (repeat (first | exact trivial | refine ⟨⟨rfl, rfl⟩, ?_⟩ | refine ⟨rfl, .inl rfl, ?_⟩ | refine ⟨rfl, .inr rfl, ?_⟩))))⟩
  · have hb0 := hb 0 (by omega)
    have hb1 := hb 1 (by omega)
    have hb2 := hb 2 (by omega)
    have g2 : ¬ (kidCB n k 0 = false ∨ kidCB n k 1 = false ∨ kidCB n k 2 = false) := by simp [hb0, hb1, hb2]
    have e : coreS n k = if hasVl n.op = true ∧ (valOfM n.val).2 ≠ 0 then (valOfM n.val).2 else if n.op = 11 ∧ (n.val.getD 0 default).kind ≠ 4 then 6 else if ¬ (numLoC n.op ≤ n.num ∧ n.num ≤ numHiC n.op) then 3 else 0 := by
      unfold coreS
      rw [if_neg h0, if_neg e2, if_neg g2]
    rw [e]
    clear e
    have hi2 := l1In_fn n.num (numLoC n.op) (numHiC n.op)
    have h11 : hasVl n.op = false → ¬ n.op = 11 := fun h e => by simp [hasVl, e] at h
    by_cases hv0 : (valOfM n.val).2 = 0
    · obtain ⟨_, hv1, _, _⟩ := valOfM_kind hv0
      rw [hv0] at hvf ⊢
      by_cases hvl : hasVl n.op = true
      · rw [hvl] at htx
        repeat' (first | refine W.seq ?_ | refine W.rg ?_ | refine W.dra' ?_ | refine W.block ?_ | refine W.skip ?_ | refine W.exit ?_ | refine W.cond_true' ?_ | refine W.cond_false' ?_ | refine WG.nil ?_ | refine WG.run' (E := env) ?_ | refine WG.gt' ?_ | refine WG.gf' ?_ | refine WG.ixm' (E := env) ?_ | refine WG.ixo' (E := env) ?_ | refine WG.legm' (E := env) ?_ | refine WG.slS' (E := env) ?_ | refine WG.slD' (E := env) ?_ | refine WG.ap' (E := env) ?_ | refine WD.nil ?_ | refine WD.bs' (E := env) ?_ | refine WD.s' (E := env) (t := .d _) ?_ | refine WD.p' ?_ | refine WD.px' ?_ | refine WD.s' (E := env) (t := .ea _ _) ?_ | refine WD.s' (E := env) (t := .lp _ _) ?_ | refine WD.s' (E := env) (t := .og _ _) ?_ | refine WD.s' (E := env) (t := .agg _) ?_ | refine WD.s' (E := env) (t := .tup _) ?_ | refine WD.s' (E := env) (t := .clo _ _) ?_ | refine WD.ixm' (E := env) ?_ | refine WD.ixo' (E := env) ?_ | refine WD.legm' (E := env) ?_ | refine WD.slS' (E := env) ?_ | refine WD.slD' (E := env) ?_ | refine WG.c (E := env) rfl rfl (htx) rfl rfl ?_ | refine WD.c (E := env) rfl rfl (htx) rfl rfl ?_ | refine WG.co (E := env) rfl rfl (htx) rfl rfl rfl rfl ?_ | refine WG.cx (E := env) rfl (htx) rfl ?_ | refine WG.c (E := env) rfl rfl (hvf) rfl rfl ?_ | refine WD.c (E := env) rfl rfl (hvf) rfl rfl ?_ | refine WG.co (E := env) rfl rfl (hvf) rfl rfl rfl rfl ?_ | refine WG.cx (E := env) rfl (hvf) rfl ?_ | refine WG.c (E := env) rfl rfl (hi2) rfl rfl ?_ | refine WD.c (E := env) rfl rfl (hi2) rfl rfl ?_ | refine WG.co (E := env) rfl rfl (hi2) rfl rfl rfl rfl ?_ | refine WG.cx (E := env) rfl (hi2) rfl ?_ | ((first | refine WG.sp' (fun h => ?_) fun h => ?_ | refine W.cond' (fun h => ?_) fun h => ?_ | refine WD.sp' (fun h => ?_) fun h => ?_) <;> (try simp only [decide_eq_true_eq, decide_eq_false_iff_not, Bool.not_eq_true', Bool.not_eq_false', Bool.and_eq_true, Bool.or_eq_true, Bool.and_eq_false_iff, Bool.or_eq_false_iff, Bool.not_eq_true, Bool.not_eq_false, Int.not_lt, Int.not_le, List.length_map, beq_self_eq_true, Bool.true_eq_false, Bool.false_eq_true] at h) <;> (try (exfalso; first | contradiction | omega))))
        all_goals first | (exfalso; omega) | skip
        all_goals (refine W.ret ?_; (first | refine RetQ.b' ?_ | refine RetQ.i' ?_ | refine RetQ.d' ?_ | refine RetQ.t2' ?_ ?_ | refine RetQ.t3' ?_ ?_ ?_))
        all_goals (clear hvf hi2 hks htx hnm hin ht hb; simp_all; try (intros; first | omega | (exfalso; omega)))
      · rw [Bool.not_eq_true] at hvl
        have hno := h11 hvl
        rw [hvl] at htx
        repeat' (first | refine W.seq ?_ | refine W.rg ?_ | refine W.dra' ?_ | refine W.block ?_ | refine W.skip ?_ | refine W.exit ?_ | refine W.cond_true' ?_ | refine W.cond_false' ?_ | refine WG.nil ?_ | refine WG.run' (E := env) ?_ | refine WG.gt' ?_ | refine WG.gf' ?_ | refine WG.ixm' (E := env) ?_ | refine WG.ixo' (E := env) ?_ | refine WG.legm' (E := env) ?_ | refine WG.slS' (E := env) ?_ | refine WG.slD' (E := env) ?_ | refine WG.ap' (E := env) ?_ | refine WD.nil ?_ | refine WD.bs' (E := env) ?_ | refine WD.s' (E := env) (t := .d _) ?_ | refine WD.p' ?_ | refine WD.px' ?_ | refine WD.s' (E := env) (t := .ea _ _) ?_ | refine WD.s' (E := env) (t := .lp _ _) ?_ | refine WD.s' (E := env) (t := .og _ _) ?_ | refine WD.s' (E := env) (t := .agg _) ?_ | refine WD.s' (E := env) (t := .tup _) ?_ | refine WD.s' (E := env) (t := .clo _ _) ?_ | refine WD.ixm' (E := env) ?_ | refine WD.ixo' (E := env) ?_ | refine WD.legm' (E := env) ?_ | refine WD.slS' (E := env) ?_ | refine WD.slD' (E := env) ?_ | refine WG.c (E := env) rfl rfl (htx) rfl rfl ?_ | refine WD.c (E := env) rfl rfl (htx) rfl rfl ?_ | refine WG.co (E := env) rfl rfl (htx) rfl rfl rfl rfl ?_ | refine WG.cx (E := env) rfl (htx) rfl ?_ | refine WG.c (E := env) rfl rfl (hvf) rfl rfl ?_ | refine WD.c (E := env) rfl rfl (hvf) rfl rfl ?_ | refine WG.co (E := env) rfl rfl (hvf) rfl rfl rfl rfl ?_ | refine WG.cx (E := env) rfl (hvf) rfl ?_ | refine WG.c (E := env) rfl rfl (hi2) rfl rfl ?_ | refine WD.c (E := env) rfl rfl (hi2) rfl rfl ?_ | refine WG.co (E := env) rfl rfl (hi2) rfl rfl rfl rfl ?_ | refine WG.cx (E := env) rfl (hi2) rfl ?_ | ((first | refine WG.sp' (fun h => ?_) fun h => ?_ | refine W.cond' (fun h => ?_) fun h => ?_ | refine WD.sp' (fun h => ?_) fun h => ?_) <;> (try simp only [decide_eq_true_eq, decide_eq_false_iff_not, Bool.not_eq_true', Bool.not_eq_false', Bool.and_eq_true, Bool.or_eq_true, Bool.and_eq_false_iff, Bool.or_eq_false_iff, Bool.not_eq_true, Bool.not_eq_false, Int.not_lt, Int.not_le, List.length_map, beq_self_eq_true, Bool.true_eq_false, Bool.false_eq_true] at h) <;> (try (exfalso; first | contradiction | omega))))
        all_goals first | (exfalso; omega) | skip
        all_goals (refine W.ret ?_; (first | refine RetQ.b' ?_ | refine RetQ.i' ?_ | refine RetQ.d' ?_ | refine RetQ.t2' ?_ ?_ | refine RetQ.t3' ?_ ?_ ?_))
        all_goals (clear hvf hi2 hks htx hnm hin ht hb; simp_all; try (intros; first | omega | (exfalso; omega)))
    · by_cases hvl : hasVl n.op = true
      · rw [hvl] at htx
        repeat' (first | refine W.seq ?_ | refine W.rg ?_ | refine W.dra' ?_ | refine W.block ?_ | refine W.skip ?_ | refine W.exit ?_ | refine W.cond_true' ?_ | refine W.cond_false' ?_ | refine WG.nil ?_ | refine WG.run' (E := env) ?_ | refine WG.gt' ?_ | refine WG.gf' ?_ | refine WG.ixm' (E := env) ?_ | refine WG.ixo' (E := env) ?_ | refine WG.legm' (E := env) ?_ | refine WG.slS' (E := env) ?_ | refine WG.slD' (E := env) ?_ | refine WG.ap' (E := env) ?_ | refine WD.nil ?_ | refine WD.bs' (E := env) ?_ | refine WD.s' (E := env) (t := .d _) ?_ | refine WD.p' ?_ | refine WD.px' ?_ | refine WD.s' (E := env) (t := .ea _ _) ?_ | refine WD.s' (E := env) (t := .lp _ _) ?_ | refine WD.s' (E := env) (t := .og _ _) ?_ | refine WD.s' (E := env) (t := .agg _) ?_ | refine WD.s' (E := env) (t := .tup _) ?_ | refine WD.s' (E := env) (t := .clo _ _) ?_ | refine WD.ixm' (E := env) ?_ | refine WD.ixo' (E := env) ?_ | refine WD.legm' (E := env) ?_ | refine WD.slS' (E := env) ?_ | refine WD.slD' (E := env) ?_ | refine WG.c (E := env) rfl rfl (htx) rfl rfl ?_ | refine WD.c (E := env) rfl rfl (htx) rfl rfl ?_ | refine WG.co (E := env) rfl rfl (htx) rfl rfl rfl rfl ?_ | refine WG.cx (E := env) rfl (htx) rfl ?_ | refine WG.c (E := env) rfl rfl (hvf) rfl rfl ?_ | refine WD.c (E := env) rfl rfl (hvf) rfl rfl ?_ | refine WG.co (E := env) rfl rfl (hvf) rfl rfl rfl rfl ?_ | refine WG.cx (E := env) rfl (hvf) rfl ?_ | refine WG.c (E := env) rfl rfl (hi2) rfl rfl ?_ | refine WD.c (E := env) rfl rfl (hi2) rfl rfl ?_ | refine WG.co (E := env) rfl rfl (hi2) rfl rfl rfl rfl ?_ | refine WG.cx (E := env) rfl (hi2) rfl ?_ | ((first | refine WG.sp' (fun h => ?_) fun h => ?_ | refine W.cond' (fun h => ?_) fun h => ?_ | refine WD.sp' (fun h => ?_) fun h => ?_) <;> (try simp only [decide_eq_true_eq, decide_eq_false_iff_not, Bool.not_eq_true', Bool.not_eq_false', Bool.and_eq_true, Bool.or_eq_true, Bool.and_eq_false_iff, Bool.or_eq_false_iff, Bool.not_eq_true, Bool.not_eq_false, Int.not_lt, Int.not_le, List.length_map, beq_self_eq_true, Bool.true_eq_false, Bool.false_eq_true] at h) <;> (try (exfalso; first | contradiction | omega))))
        all_goals first | (exfalso; omega) | skip
        all_goals (refine W.ret ?_; (first | refine RetQ.b' ?_ | refine RetQ.i' ?_ | refine RetQ.d' ?_ | refine RetQ.t2' ?_ ?_ | refine RetQ.t3' ?_ ?_ ?_))
        all_goals (clear hvf hi2 hks htx hnm hin ht hb; simp_all; try (intros; first | omega | (exfalso; omega)))
      · rw [Bool.not_eq_true] at hvl
        have hno := h11 hvl
        rw [hvl] at htx
        repeat' (first | refine W.seq ?_ | refine W.rg ?_ | refine W.dra' ?_ | refine W.block ?_ | refine W.skip ?_ | refine W.exit ?_ | refine W.cond_true' ?_ | refine W.cond_false' ?_ | refine WG.nil ?_ | refine WG.run' (E := env) ?_ | refine WG.gt' ?_ | refine WG.gf' ?_ | refine WG.ixm' (E := env) ?_ | refine WG.ixo' (E := env) ?_ | refine WG.legm' (E := env) ?_ | refine WG.slS' (E := env) ?_ | refine WG.slD' (E := env) ?_ | refine WG.ap' (E := env) ?_ | refine WD.nil ?_ | refine WD.bs' (E := env) ?_ | refine WD.s' (E := env) (t := .d _) ?_ | refine WD.p' ?_ | refine WD.px' ?_ | refine WD.s' (E := env) (t := .ea _ _) ?_ | refine WD.s' (E := env) (t := .lp _ _) ?_ | refine WD.s' (E := env) (t := .og _ _) ?_ | refine WD.s' (E := env) (t := .agg _) ?_ | refine WD.s' (E := env) (t := .tup _) ?_ | refine WD.s' (E := env) (t := .clo _ _) ?_ | refine WD.ixm' (E := env) ?_ | refine WD.ixo' (E := env) ?_ | refine WD.legm' (E := env) ?_ | refine WD.slS' (E := env) ?_ | refine WD.slD' (E := env) ?_ | refine WG.c (E := env) rfl rfl (htx) rfl rfl ?_ | refine WD.c (E := env) rfl rfl (htx) rfl rfl ?_ | refine WG.co (E := env) rfl rfl (htx) rfl rfl rfl rfl ?_ | refine WG.cx (E := env) rfl (htx) rfl ?_ | refine WG.c (E := env) rfl rfl (hvf) rfl rfl ?_ | refine WD.c (E := env) rfl rfl (hvf) rfl rfl ?_ | refine WG.co (E := env) rfl rfl (hvf) rfl rfl rfl rfl ?_ | refine WG.cx (E := env) rfl (hvf) rfl ?_ | refine WG.c (E := env) rfl rfl (hi2) rfl rfl ?_ | refine WD.c (E := env) rfl rfl (hi2) rfl rfl ?_ | refine WG.co (E := env) rfl rfl (hi2) rfl rfl rfl rfl ?_ | refine WG.cx (E := env) rfl (hi2) rfl ?_ | ((first | refine WG.sp' (fun h => ?_) fun h => ?_ | refine W.cond' (fun h => ?_) fun h => ?_ | refine WD.sp' (fun h => ?_) fun h => ?_) <;> (try simp only [decide_eq_true_eq, decide_eq_false_iff_not, Bool.not_eq_true', Bool.not_eq_false', Bool.and_eq_true, Bool.or_eq_true, Bool.and_eq_false_iff, Bool.or_eq_false_iff, Bool.not_eq_true, Bool.not_eq_false, Int.not_lt, Int.not_le, List.length_map, beq_self_eq_true, Bool.true_eq_false, Bool.false_eq_true] at h) <;> (try (exfalso; first | contradiction | omega))))
        all_goals first | (exfalso; omega) | skip
        all_goals (refine W.ret ?_; (first | refine RetQ.b' ?_ | refine RetQ.i' ?_ | refine RetQ.d' ?_ | refine RetQ.t2' ?_ ?_ | refine RetQ.t3' ?_ ?_ ?_))
        all_goals (clear hvf hi2 hks htx hnm hin ht hb; simp_all; try (intros; first | omega | (exfalso; omega)))

end Go.Proofs.YtojifjbbjnpgbaaGreat
