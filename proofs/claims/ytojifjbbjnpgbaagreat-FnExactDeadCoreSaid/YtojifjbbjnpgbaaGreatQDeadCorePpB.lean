/-
  What stands in place of what makes nothing: the program's way. Conditions: none.
-/
import Derived.Test.YtojifjbbjnpgbaaGreatQDeadCorePp6
set_option linter.unusedVariables false
set_option linter.unusedSimpArgs false
set_option maxRecDepth 100000
namespace Go.Proofs.YtojifjbbjnpgbaaGreat
open Go.RowKit

/-- Whether the value of a node holds. -/
def Co.holds (n : Co) : Bool := decide (1 < (n.val.getD 0 default).kind)

/-- What stands in place of a part whose parts make nothing. -/
def deadF (p : Pt) : Option Pt :=
  if p.n.op = 3 ∨ p.n.op = 8 ∨ p.n.op = 9 ∨ p.n.op = 12 ∨ p.n.op = 14 ∨ p.n.op = 7 ∨ p.n.op = 11 then (if (p.kids.getD 0 default).n.op = 17 then some (.leaf 17) else none)
  else if p.n.op = 6 ∨ p.n.op = 13 then (if (p.kids.getD 1 default).n.op = 17 then some (.leaf 17) else none)
  else if p.n.op = 4 then (if (p.kids.getD 0 default).n.op = 17 then some (p.kids.getD 1 default) else if (p.kids.getD 1 default).n.op = 17 then some (p.kids.getD 0 default) else none)
  else if p.n.op = 5 then (if (p.kids.getD 0 default).n.op = 2 ∧ (p.kids.getD 0 default).n.holds = true then some (p.kids.getD 0 default) else if (p.kids.getD 0 default).n.op = 17 ∨ (p.kids.getD 0 default).n.op = 2 then some (p.kids.getD 1 default) else none)
  else none

theorem leaf17 : (Pt.leaf 17).good ∧ (Pt.leaf 17).count = 1 := by
  have hf : Co.fine ⟨17, 0, 0, 0, 0, []⟩ := ⟨fun c hc => (by cases hc), by simp⟩
  have hz : ∀ i, arC 17 ≤ i → i < 3 → kidC ⟨17, 0, 0, 0, 0, []⟩ i = 0 := fun i _ _ => by simp [kidC]
  refine ⟨(Pt.good_eq _).2 ⟨⟨hf, hz, fun h => ?_⟩, rfl, trivial⟩, rfl⟩
  exact absurd (show (17 : Int) = 2 from h) (by decide)

theorem deadF_ok : FitOK deadF := by
  intro p q hp h
  cases p with
  | mk n kids =>
  have hl : kids.length = arC n.op := hp.2.1
  have g : ∀ i, i < kids.length → (kids.getD i default).good ∧ (kids.getD i default).count ≤ Pt.counts kids := fun i hi => ⟨Pt.goods_at.1 hp.2.2 _ (getD_mem' hi), Pt.counts_ge _ (getD_mem' hi)⟩
  have key : 1 ≤ kids.length ∧ (q = .leaf 17 ∨ ∃ i, i < kids.length ∧ q = kids.getD i default) := by
    unfold deadF at h
    rw [show (Pt.mk n kids).n = n from rfl, show (Pt.mk n kids).kids = kids from rfl] at h
    split at h
    · rename_i hA
      have ha : 1 ≤ arC n.op := by unfold arC; (repeat' split) <;> omega
      split at h
      · injection h with h
        exact ⟨by omega, .inl h.symm⟩
      · cases h
    · split at h
      · rename_i hA
        have ha : 1 ≤ arC n.op := by unfold arC; (repeat' split) <;> omega
        split at h
        · injection h with h
          exact ⟨by omega, .inl h.symm⟩
        · cases h
      · split at h
        · rename_i hA
          have ha : 2 ≤ arC n.op := by unfold arC; (repeat' split) <;> omega
          split at h
          · injection h with h
            exact ⟨by omega, .inr ⟨1, by omega, h.symm⟩⟩
          · split at h
            · injection h with h
              exact ⟨by omega, .inr ⟨0, by omega, h.symm⟩⟩
            · cases h
        · split at h
          · rename_i hA
            have ha : 2 ≤ arC n.op := by unfold arC; (repeat' split) <;> omega
            split at h
            · injection h with h
              exact ⟨by omega, .inr ⟨0, by omega, h.symm⟩⟩
            · split at h
              · injection h with h
                exact ⟨by omega, .inr ⟨1, by omega, h.symm⟩⟩
              · cases h
          · cases h
  obtain ⟨h1, hq⟩ := key
  rw [Pt.count_eq (.mk n kids)]
  simp only [Pt.kids]
  have hne : kids ≠ [] := by rintro rfl; simp at h1
  rcases hq with rfl | ⟨i, hi, rfl⟩
  · refine ⟨leaf17.1, ?_, hne⟩
    rw [leaf17.2]
    omega
  · obtain ⟨g1, g2⟩ := g i hi
    exact ⟨g1, by omega, hne⟩

theorem constant_fn (p : Pt) (h : p.n.fine) : Fun env.P 54 [.agg p.rowP] (.d (.agg (valOfM p.n.val).1.rowP)) [] := by
  have hv := valOf_fn p.n.val h.1 h.2
  generalize valOfM p.n.val = v at *
  obtain ⟨v, code⟩ := v
  rw [V.row_eq] at hv
  refine Fun.intro Tryz.func54 rfl (by kernel_rfl) rfl ?_
  repeat' (first | refine W.seq ?_ | refine W.rg ?_ | refine W.dra' ?_ | refine W.block ?_ | refine W.skip ?_ | refine W.exit ?_ | refine W.cond_true' ?_ | refine W.cond_false' ?_ | refine WG.nil ?_ | refine WG.run' (E := env) ?_ | refine WG.gt' ?_ | refine WG.gf' ?_ | refine WG.ixm' (E := env) ?_ | refine WG.ixo' (E := env) ?_ | refine WG.legm' (E := env) ?_ | refine WG.slS' (E := env) ?_ | refine WG.slD' (E := env) ?_ | refine WG.ap' (E := env) ?_ | refine WD.nil ?_ | refine WD.bs' (E := env) ?_ | refine WD.s' (E := env) (t := .d _) ?_ | refine WD.p' ?_ | refine WD.px' ?_ | refine WD.s' (E := env) (t := .ea _ _) ?_ | refine WD.s' (E := env) (t := .lp _ _) ?_ | refine WD.s' (E := env) (t := .og _ _) ?_ | refine WD.s' (E := env) (t := .agg _) ?_ | refine WD.s' (E := env) (t := .tup _) ?_ | refine WD.s' (E := env) (t := .clo _ _) ?_ | refine WD.ixm' (E := env) ?_ | refine WD.ixo' (E := env) ?_ | refine WD.legm' (E := env) ?_ | refine WD.slS' (E := env) ?_ | refine WD.slD' (E := env) ?_ | refine WG.c (E := env) rfl rfl (hv) rfl rfl ?_ | refine WD.c (E := env) rfl rfl (hv) rfl rfl ?_ | refine WG.co (E := env) rfl rfl (hv) rfl rfl rfl rfl ?_ | refine WG.cx (E := env) rfl (hv) rfl ?_ | ((first | refine WG.sp' (fun h => ?_) fun h => ?_ | refine W.cond' (fun h => ?_) fun h => ?_ | refine WD.sp' (fun h => ?_) fun h => ?_) <;> (try simp only [decide_eq_true_eq, decide_eq_false_iff_not, Bool.not_eq_true', Bool.not_eq_false', Bool.and_eq_true, Bool.or_eq_true, Bool.and_eq_false_iff, Bool.or_eq_false_iff, Bool.not_eq_true, Bool.not_eq_false, Int.not_lt, Int.not_le, List.length_map, beq_self_eq_true, Bool.true_eq_false, Bool.false_eq_true] at h) <;> (try (exfalso; first | contradiction | omega))))
  (refine W.ret ?_; (first | refine RetQ.b' ?_ | refine RetQ.i' ?_ | refine RetQ.d' ?_ | refine RetQ.t2' ?_ ?_ | refine RetQ.t3' ?_ ?_ ?_))
  rfl

theorem holds_eq {n : Co} (h : (valOfM n.val).2 = 0) : (valOfM n.val).1.truthy = n.holds := by
  obtain ⟨hk, h1, h3, h4⟩ := valOfM_kind h
  have hr := cellCode_range (cellsCode_kind h4 0 (by omega))
  unfold Co.holds
  simp only [V.truthy, hk]
  generalize (n.val.getD 0 default).kind = k at *
  rw [Bool.eq_iff_iff]
  simp
  omega

end Go.Proofs.YtojifjbbjnpgbaaGreat
