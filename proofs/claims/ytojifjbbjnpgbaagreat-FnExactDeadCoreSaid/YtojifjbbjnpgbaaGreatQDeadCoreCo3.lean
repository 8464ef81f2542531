/-
  One node of a core: its fault, by the program. Conditions: values of at most 2^20 cells, texts of at most 2^20 bytes.
-/
import Derived.Test.YtojifjbbjnpgbaaGreatQDeadCoreCo2
import Derived.Test.YtojifjbbjnpgbaaGreatQDeadCoreV4
import Derived.Test.YtojifjbbjnpgbaaGreatQDeadCorePgE
set_option linter.unusedVariables false
set_option linter.unusedSimpArgs false
set_option maxRecDepth 100000
namespace Go.Proofs.YtojifjbbjnpgbaaGreat
open Go.RowKit

set_option maxHeartbeats 1000000 in
theorem namedC_fn (n : Co) : Fun env.P 102 [.agg n.row] (.d (.sl 1 (n.named.map intRow))) [] := by
  have ha := coreArity_fn n.op
  have hle := arC_le n.op
  refine Fun.intro Tryz.func102 rfl (by kernel_rfl) rfl ?_
  repeat' (first | refine W.seq ?_ | refine W.rg ?_ | refine W.dra' ?_ | refine W.block ?_ | refine W.skip ?_ | refine W.exit ?_ | refine W.cond_true' ?_ | refine W.cond_false' ?_ | refine WG.nil ?_ | refine WG.run' (E := env) ?_ | refine WG.gt' ?_ | refine WG.gf' ?_ | refine WG.ixm' (E := env) ?_ | refine WG.ixo' (E := env) ?_ | refine WG.legm' (E := env) ?_ | refine WG.slS' (E := env) ?_ | refine WG.slD' (E := env) ?_ | refine WG.ap' (E := env) ?_ | refine WD.nil ?_ | refine WD.bs' (E := env) ?_ | refine WD.s' (E := env) (t := .d _) ?_ | refine WD.p' ?_ | refine WD.px' ?_ | refine WD.s' (E := env) (t := .ea _ _) ?_ | refine WD.s' (E := env) (t := .lp _ _) ?_ | refine WD.s' (E := env) (t := .og _ _) ?_ | refine WD.s' (E := env) (t := .agg _) ?_ | refine WD.s' (E := env) (t := .tup _) ?_ | refine WD.s' (E := env) (t := .clo _ _) ?_ | refine WD.ixm' (E := env) ?_ | refine WD.ixo' (E := env) ?_ | refine WD.legm' (E := env) ?_ | refine WD.slS' (E := env) ?_ | refine WD.slD' (E := env) ?_ | refine WG.c (E := env) rfl rfl (ha) rfl rfl ?_ | refine WD.c (E := env) rfl rfl (ha) rfl rfl ?_ | refine WG.co (E := env) rfl rfl (ha) rfl rfl rfl rfl ?_ | refine WG.cx (E := env) rfl (ha) rfl ?_ | ((first | refine WG.sp' (fun h => ?_) fun h => ?_ | refine W.cond' (fun h => ?_) fun h => ?_ | refine WD.sp' (fun h => ?_) fun h => ?_) <;> (try simp only [decide_eq_true_eq, decide_eq_false_iff_not, Bool.not_eq_true', Bool.not_eq_false', Bool.and_eq_true, Bool.or_eq_true, Bool.and_eq_false_iff, Bool.or_eq_false_iff, Bool.not_eq_true, Bool.not_eq_false, Int.not_lt, Int.not_le, List.length_map, beq_self_eq_true, Bool.true_eq_false, Bool.false_eq_true] at h) <;> (try (exfalso; first | contradiction | omega))))
  (refine W.ret ?_; (first | refine RetQ.b' ?_ | refine RetQ.i' ?_ | refine RetQ.d' ?_ | refine RetQ.t2' ?_ ?_ | refine RetQ.t3' ?_ ?_ ?_))
  simp [Co.named, List.map_take]
  rfl

def Co.abc (n : Co) : List Int := [n.a, n.b, n.c]
theorem Co.abc_length (n : Co) : n.abc.length = 3 := rfl
theorem Co.abc_at (n : Co) (i : Nat) (h : i < 3) : n.abc.getD i default = kidC n i := by
  have : i = 0 ∨ i = 1 ∨ i = 2 := by omega
  rcases this with rfl | rfl | rfl <;> rfl

theorem formC3_of {n : Co} {k i : Nat} (hi : i < 3) (h : kidCB n k i = false) : formC3 n k = false := by
  have : i = 0 ∨ i = 1 ∨ i = 2 := by omega
  unfold formC3
  rcases this with rfl | rfl | rfl <;> simp [h]

set_option maxHeartbeats 4000000 in
theorem formsOkC_fn (n : Co) (k : Nat) (hk : k ≤ 1048576) : Fun env.P 141 [.agg n.row, dI k] (.d (dB (formC3 n k))) [] := by
  have ha := coreArity_fn n.op
  have hle := arC_le n.op
  have ht := hasVal_fn n
  have hu := hasNum_fn n
  refine Fun.intro Tryz.func141 rfl (by kernel_rfl) rfl ?_
  repeat' (first | refine W.seq ?_ | refine W.rg ?_ | refine W.dra' ?_ | refine W.block ?_ | refine W.skip ?_ | refine W.exit ?_ | refine W.cond_true' ?_ | refine W.cond_false' ?_ | refine WG.nil ?_ | refine WG.run' (E := env) ?_ | refine WG.gt' ?_ | refine WG.gf' ?_ | refine WG.ixm' (E := env) ?_ | refine WG.ixo' (E := env) ?_ | refine WG.legm' (E := env) ?_ | refine WG.slS' (E := env) ?_ | refine WG.slD' (E := env) ?_ | refine WG.ap' (E := env) ?_ | refine WD.nil ?_ | refine WD.bs' (E := env) ?_ | refine WD.s' (E := env) (t := .d _) ?_ | refine WD.p' ?_ | refine WD.px' ?_ | refine WD.s' (E := env) (t := .ea _ _) ?_ | refine WD.s' (E := env) (t := .lp _ _) ?_ | refine WD.s' (E := env) (t := .og _ _) ?_ | refine WD.s' (E := env) (t := .agg _) ?_ | refine WD.s' (E := env) (t := .tup _) ?_ | refine WD.s' (E := env) (t := .clo _ _) ?_ | refine WD.ixm' (E := env) ?_ | refine WD.ixo' (E := env) ?_ | refine WD.legm' (E := env) ?_ | refine WD.slS' (E := env) ?_ | refine WD.slD' (E := env) ?_ | ((first | refine WG.sp' (fun h => ?_) fun h => ?_ | refine W.cond' (fun h => ?_) fun h => ?_ | refine WD.sp' (fun h => ?_) fun h => ?_) <;> (try simp only [decide_eq_true_eq, decide_eq_false_iff_not, Bool.not_eq_true', Bool.not_eq_false', Bool.and_eq_true, Bool.or_eq_true, Bool.and_eq_false_iff, Bool.or_eq_false_iff, Bool.not_eq_true, Bool.not_eq_false, Int.not_lt, Int.not_le, List.length_map, beq_self_eq_true, Bool.true_eq_false, Bool.false_eq_true] at h) <;> (try (exfalso; first | contradiction | omega))))
  refine W.pubD 1 rfl ?_
  refine W.loop (fun m S => ∃ i : Nat, m = 3 - i ∧ (i ≤ 3 ∧ ∀ j, j < i → kidCB n k j = true) ∧ S = ⟨ofL [(1, vI .i64 k), (2, .lp 0 0), (13, .d (.sl 1 (n.abc.map intRow))), (14, vI .i64 3), (15, vI .i64 i)], [.pv (n.row.map .d)]⟩) _ _ ⟨0, rfl, ⟨by omega, fun j hj => by omega⟩, rfl⟩ (by (refine le_ofL rfl ?_ ?_ <;> (repeat (first | exact trivial | refine ⟨⟨rfl, rfl⟩, ?_⟩ | refine ⟨rfl, .inl rfl, ?_⟩ | refine ⟨rfl, .inr rfl, ?_⟩)))) ?_
  rintro m S ⟨i, rfl, ⟨hi, hb⟩, rfl⟩
  have hkid := n.abc_at i
  have h3 := n.abc_length
  repeat' (first | refine W.seq ?_ | refine W.rg ?_ | refine W.dra' ?_ | refine W.block ?_ | refine W.skip ?_ | refine W.exit ?_ | refine W.cond_true' ?_ | refine W.cond_false' ?_ | refine WG.nil ?_ | refine WG.run' (E := env) ?_ | refine WG.gt' ?_ | refine WG.gf' ?_ | refine WG.ixm' (E := env) ?_ | refine WG.ixo' (E := env) ?_ | refine WG.legm' (E := env) ?_ | refine WG.slS' (E := env) ?_ | refine WG.slD' (E := env) ?_ | refine WG.ap' (E := env) ?_ | refine WD.nil ?_ | refine WD.bs' (E := env) ?_ | refine WD.s' (E := env) (t := .d _) ?_ | refine WD.p' ?_ | refine WD.px' ?_ | refine WD.s' (E := env) (t := .ea _ _) ?_ | refine WD.s' (E := env) (t := .lp _ _) ?_ | refine WD.s' (E := env) (t := .og _ _) ?_ | refine WD.s' (E := env) (t := .agg _) ?_ | refine WD.s' (E := env) (t := .tup _) ?_ | refine WD.s' (E := env) (t := .clo _ _) ?_ | refine WD.ixm' (E := env) ?_ | refine WD.ixo' (E := env) ?_ | refine WD.legm' (E := env) ?_ | refine WD.slS' (E := env) ?_ | refine WD.slD' (E := env) ?_ | refine WG.c (E := env) rfl rfl (ha) rfl rfl ?_ | refine WD.c (E := env) rfl rfl (ha) rfl rfl ?_ | refine WG.co (E := env) rfl rfl (ha) rfl rfl rfl rfl ?_ | refine WG.cx (E := env) rfl (ha) rfl ?_ | refine WG.c (E := env) rfl rfl (within_fn _ _ _) rfl rfl ?_ | refine WD.c (E := env) rfl rfl (within_fn _ _ _) rfl rfl ?_ | refine WG.co (E := env) rfl rfl (within_fn _ _ _) rfl rfl rfl rfl ?_ | refine WG.cx (E := env) rfl (within_fn _ _ _) rfl ?_ | refine WG.c (E := env) rfl rfl (ht) rfl rfl ?_ | refine WD.c (E := env) rfl rfl (ht) rfl rfl ?_ | refine WG.co (E := env) rfl rfl (ht) rfl rfl rfl rfl ?_ | refine WG.cx (E := env) rfl (ht) rfl ?_ | refine WG.c (E := env) rfl rfl (hu) rfl rfl ?_ | refine WD.c (E := env) rfl rfl (hu) rfl rfl ?_ | refine WG.co (E := env) rfl rfl (hu) rfl rfl rfl rfl ?_ | refine WG.cx (E := env) rfl (hu) rfl ?_ | ((first | refine WG.sp' (fun h => ?_) fun h => ?_ | refine W.cond' (fun h => ?_) fun h => ?_ | refine WD.sp' (fun h => ?_) fun h => ?_) <;> (try simp only [decide_eq_true_eq, decide_eq_false_iff_not, Bool.not_eq_true', Bool.not_eq_false', Bool.and_eq_true, Bool.or_eq_true, Bool.and_eq_false_iff, Bool.or_eq_false_iff, Bool.not_eq_true, Bool.not_eq_false, Int.not_lt, Int.not_le, List.length_map, beq_self_eq_true, Bool.true_eq_false, Bool.false_eq_true] at h) <;> (try (exfalso; first | contradiction | omega))))
  all_goals (try simp only [Int.toNat_natCast] at *)
  · have e := hkid (by omega)
    rw [e] at *
    have hf : kidCB n k i = false := by
      rw [kidCB, if_pos (by omega)]; simp; omega
    (refine W.ret ?_; (first | refine RetQ.b' ?_ | refine RetQ.i' ?_ | refine RetQ.d' ?_ | refine RetQ.t2' ?_ ?_ | refine RetQ.t3' ?_ ?_ ?_))
    rw [formC3_of (by omega) hf]
  · have e := hkid (by omega)
    rw [e] at *
    have hf : kidCB n k i = true := by
      rw [kidCB, if_pos (by omega)]; simp; omega
    exact ⟨_, _, by omega, ⟨i + 1, rfl, ⟨by omega, fun j hj => by
      by_cases e : j = i
      · rw [e]; exact hf
      · exact hb j (by omega)⟩, rfl⟩, (by (refine le_ofL rfl ?_ ?_ <;> (repeat (first | exact trivial | refine ⟨⟨rfl, rfl⟩, ?_⟩ | refine ⟨rfl, .inl rfl, ?_⟩ | refine ⟨rfl, .inr rfl, ?_⟩))))⟩
  · have e := hkid (by omega)
    rw [e] at *
    have hf : kidCB n k i = false := by
      rw [kidCB, if_neg (by omega)]; simp; omega
    (refine W.ret ?_; (first | refine RetQ.b' ?_ | refine RetQ.i' ?_ | refine RetQ.d' ?_ | refine RetQ.t2' ?_ ?_ | refine RetQ.t3' ?_ ?_ ?_))
    rw [formC3_of (by omega) hf]
  · have e := hkid (by omega)
    rw [e] at *
    have hf : kidCB n k i = true := by
      rw [kidCB, if_neg (by omega)]; simp; omega
    exact ⟨_, _, by omega, ⟨i + 1, rfl, ⟨by omega, fun j hj => by
      by_cases e : j = i
      · rw [e]; exact hf
      · exact hb j (by omega)⟩, rfl⟩, (by (refine le_ofL rfl ?_ ?_ <;> (repeat (first | exact trivial | refine ⟨⟨rfl, rfl⟩, ?_⟩ | refine ⟨rfl, .inl rfl, ?_⟩ | refine ⟨rfl, .inr rfl, ?_⟩))))⟩
  all_goals
    have hb0 := hb 0 (by omega)
    have hb1 := hb 1 (by omega)
    have hb2 := hb 2 (by omega)
    clear ha ht hu hb hkid
    (refine W.ret ?_; (first | refine RetQ.b' ?_ | refine RetQ.i' ?_ | refine RetQ.d' ?_ | refine RetQ.t2' ?_ ?_ | refine RetQ.t3' ?_ ?_ ?_))
    simp_all [formC3]

/-- What a node of a right form names lies ahead of it. -/
theorem formC3_named {n : Co} {k : Nat} (h : formC3 n k = true) : ∀ m ∈ n.named, 0 ≤ m ∧ m < k := by
  intro m hm
  unfold formC3 at h
  simp only [Bool.and_eq_true] at h
  obtain ⟨⟨⟨⟨h0, h1⟩, h2⟩, _⟩, _⟩ := h
  have hle := arC_le n.op
  have key : ∀ i, i < arC n.op → kidCB n k i = true → 0 ≤ kidC n i ∧ kidC n i < k := fun i hi hb => by
    rw [kidCB, if_pos hi] at hb
    simp only [Bool.and_eq_true, decide_eq_true_eq] at hb
    omega
  obtain ⟨i, hi, rfl⟩ := List.getElem_of_mem hm
  have hi2 : i < arC n.op := by simp [Co.named] at hi; omega
  have e : n.named[i] = kidC n i := by
    have : i = 0 ∨ i = 1 ∨ i = 2 := by omega
    simp only [Co.named, List.getElem_take]
    rcases this with rfl | rfl | rfl <;> rfl
  rw [e]
  have : i = 0 ∨ i = 1 ∨ i = 2 := by omega
  rcases this with rfl | rfl | rfl
  · exact key 0 hi2 h0
  · exact key 1 hi2 h1
  · exact key 2 hi2 h2

/-- The code of a node of a core. -/
def coreC (n : Co) (k : Nat) : Int :=
  if ¬ (1 ≤ n.op ∧ n.op ≤ 17) then 6
  else if formC3 n k = false then 1
  else if hasVl n.op = true ∧ (valOfM n.val).2 ≠ 0 then (valOfM n.val).2
  else if n.op = 11 ∧ (valOfM n.val).1.kind ≠ 4 then 6
  else if numOkC n = false then 3 else 0

set_option maxHeartbeats 4000000 in
theorem coreNodeFault_fn (n : Co) (k : Nat) (hk : k ≤ 1048576) (hf : n.fine) : Fun env.P 99 [.agg n.row, dI k] (.d (dI (coreC n k))) [] := by
  have h1 := formsOkC_fn n k hk
  have h2 := hasVal_fn n
  have h3 := isCoreNum_fn n
  have hin := within_fn n.op 1 17
  have hv := valOf_fn n.val hf.1 hf.2
  unfold coreC
  generalize valOfM n.val = p at hv ⊢
  obtain ⟨⟨vk, vn, vt, vks, vkd⟩, code⟩ := p
  have h11 : hasVl n.op = false → ¬ n.op = 11 := fun h e => by simp [hasVl, e] at h
  refine Fun.intro Tryz.func99 rfl (by kernel_rfl) rfl ?_
  repeat' (first | refine W.seq ?_ | refine W.rg ?_ | refine W.dra' ?_ | refine W.block ?_ | refine W.skip ?_ | refine W.exit ?_ | refine W.cond_true' ?_ | refine W.cond_false' ?_ | refine WG.nil ?_ | refine WG.run' (E := env) ?_ | refine WG.gt' ?_ | refine WG.gf' ?_ | refine WG.ixm' (E := env) ?_ | refine WG.ixo' (E := env) ?_ | refine WG.legm' (E := env) ?_ | refine WG.slS' (E := env) ?_ | refine WG.slD' (E := env) ?_ | refine WG.ap' (E := env) ?_ | refine WD.nil ?_ | refine WD.bs' (E := env) ?_ | refine WD.s' (E := env) (t := .d _) ?_ | refine WD.p' ?_ | refine WD.px' ?_ | refine WD.s' (E := env) (t := .ea _ _) ?_ | refine WD.s' (E := env) (t := .lp _ _) ?_ | refine WD.s' (E := env) (t := .og _ _) ?_ | refine WD.s' (E := env) (t := .agg _) ?_ | refine WD.s' (E := env) (t := .tup _) ?_ | refine WD.s' (E := env) (t := .clo _ _) ?_ | refine WD.ixm' (E := env) ?_ | refine WD.ixo' (E := env) ?_ | refine WD.legm' (E := env) ?_ | refine WD.slS' (E := env) ?_ | refine WD.slD' (E := env) ?_ | refine WG.c (E := env) rfl rfl (hin) rfl rfl ?_ | refine WD.c (E := env) rfl rfl (hin) rfl rfl ?_ | refine WG.co (E := env) rfl rfl (hin) rfl rfl rfl rfl ?_ | refine WG.cx (E := env) rfl (hin) rfl ?_ | refine WG.c (E := env) rfl rfl (h1) rfl rfl ?_ | refine WD.c (E := env) rfl rfl (h1) rfl rfl ?_ | refine WG.co (E := env) rfl rfl (h1) rfl rfl rfl rfl ?_ | refine WG.cx (E := env) rfl (h1) rfl ?_ | refine WG.c (E := env) rfl rfl (h2) rfl rfl ?_ | refine WD.c (E := env) rfl rfl (h2) rfl rfl ?_ | refine WG.co (E := env) rfl rfl (h2) rfl rfl rfl rfl ?_ | refine WG.cx (E := env) rfl (h2) rfl ?_ | refine WG.c (E := env) rfl rfl (h3) rfl rfl ?_ | refine WD.c (E := env) rfl rfl (h3) rfl rfl ?_ | refine WG.co (E := env) rfl rfl (h3) rfl rfl rfl rfl ?_ | refine WG.cx (E := env) rfl (h3) rfl ?_ | refine WG.c (E := env) rfl rfl (hv) rfl rfl ?_ | refine WD.c (E := env) rfl rfl (hv) rfl rfl ?_ | refine WG.co (E := env) rfl rfl (hv) rfl rfl rfl rfl ?_ | refine WG.cx (E := env) rfl (hv) rfl ?_ | ((first | refine WG.sp' (fun h => ?_) fun h => ?_ | refine W.cond' (fun h => ?_) fun h => ?_ | refine WD.sp' (fun h => ?_) fun h => ?_) <;> (try simp only [decide_eq_true_eq, decide_eq_false_iff_not, Bool.not_eq_true', Bool.not_eq_false', Bool.and_eq_true, Bool.or_eq_true, Bool.and_eq_false_iff, Bool.or_eq_false_iff, Bool.not_eq_true, Bool.not_eq_false, Int.not_lt, Int.not_le, List.length_map, beq_self_eq_true, Bool.true_eq_false, Bool.false_eq_true] at h) <;> (try (exfalso; first | contradiction | omega))))
  all_goals (refine W.ret ?_; (first | refine RetQ.b' ?_ | refine RetQ.i' ?_ | refine RetQ.d' ?_ | refine RetQ.t2' ?_ ?_ | refine RetQ.t3' ?_ ?_ ?_))
  all_goals (clear h1 h2 h3 hin hv; simp_all [V.kind]; try (intros; first | omega | (exfalso; omega)))
  all_goals trace_state

end Go.Proofs.YtojifjbbjnpgbaaGreat
