/-
  DeadCore by the program and by the reference. Conditions: texts of at most 2^20 bytes, values of at most 2^20 cells.
-/
import Derived.Test.YtojifjbbjnpgbaaGreatQDeadCorePpA
import Derived.Test.YtojifjbbjnpgbaaGreatQDeadCorePpC
import Derived.Test.YtojifjbbjnpgbaaGreatQDeadCorePpD
set_option linter.unusedVariables false
set_option linter.unusedSimpArgs false
set_option maxRecDepth 100000
namespace Go.Proofs.YtojifjbbjnpgbaaGreat
open Go.RowKit

theorem arC_is {op : Int} : (arC op = 0 → op ≠ 3 ∧ op ≠ 8 ∧ op ≠ 9 ∧ op ≠ 12 ∧ op ≠ 14 ∧ op ≠ 7 ∧ op ≠ 11 ∧ op ≠ 6 ∧ op ≠ 13 ∧ op ≠ 4 ∧ op ≠ 5) ∧ (arC op = 1 → op = 8 ∨ op = 9 ∨ op = 10) ∧
    (arC op = 2 → op = 3 ∨ op = 4 ∨ op = 5 ∨ op = 6 ∨ op = 7 ∨ op = 11 ∨ op = 14) ∧ (arC op = 3 → op = 12 ∨ op = 13) := by
  unfold arC
  (repeat' split) <;> omega

theorem deadF_no {n : Co} {kids : List Pt} (h : n.op ≠ 3 ∧ n.op ≠ 8 ∧ n.op ≠ 9 ∧ n.op ≠ 12 ∧ n.op ≠ 14 ∧ n.op ≠ 7 ∧ n.op ≠ 11 ∧ n.op ≠ 6 ∧ n.op ≠ 13 ∧ n.op ≠ 4 ∧ n.op ≠ 5) : deadF (.mk n kids) = none := by
  unfold deadF
  rw [show (Pt.mk n kids).n = n from rfl, if_neg (by omega), if_neg (by omega), if_neg (by omega), if_neg (by omega)]
theorem deadF_A {n : Co} {a : Pt} {r : List Pt} (h : n.op = 3 ∨ n.op = 8 ∨ n.op = 9 ∨ n.op = 12 ∨ n.op = 14 ∨ n.op = 7 ∨ n.op = 11) : deadF (.mk n (a :: r)) = if decide (a.n.op = 17) = true then some (.leaf 17) else none := by
  unfold deadF
  rw [show (Pt.mk n (a :: r)).n = n from rfl, show (Pt.mk n (a :: r)).kids = a :: r from rfl, if_pos h, List.getD_cons_zero]
  simp only [decide_eq_true_eq]
theorem deadF_B {n : Co} {a b : Pt} {r : List Pt} (h : n.op = 6 ∨ n.op = 13) : deadF (.mk n (a :: b :: r)) = if decide (b.n.op = 17) = true then some (.leaf 17) else none := by
  unfold deadF
  rw [show (Pt.mk n (a :: b :: r)).n = n from rfl, show (Pt.mk n (a :: b :: r)).kids = a :: b :: r from rfl, if_neg (by omega), if_pos h, List.getD_cons_succ, List.getD_cons_zero]
  simp only [decide_eq_true_eq]
theorem deadF_C {n : Co} {a b : Pt} {r : List Pt} (h : n.op = 4) : deadF (.mk n (a :: b :: r)) = if a.n.op = 17 then some b else if decide (b.n.op = 17) = true then some a else none := by
  unfold deadF
  rw [show (Pt.mk n (a :: b :: r)).n = n from rfl, show (Pt.mk n (a :: b :: r)).kids = a :: b :: r from rfl, if_neg (by omega), if_neg (by omega), if_pos h, List.getD_cons_succ, List.getD_cons_zero, List.getD_cons_zero]
  simp only [decide_eq_true_eq]
theorem deadF_D {n : Co} {a b : Pt} {r : List Pt} (h : n.op = 5) : deadF (.mk n (a :: b :: r)) = if a.n.op = 2 ∧ a.n.holds = true then some a else if a.n.op = 17 ∨ a.n.op = 2 then some b else none := by
  unfold deadF
  rw [show (Pt.mk n (a :: b :: r)).n = n from rfl, show (Pt.mk n (a :: b :: r)).kids = a :: b :: r from rfl, if_neg (by omega), if_neg (by omega), if_neg (by omega), if_pos h, List.getD_cons_succ, List.getD_cons_zero, List.getD_cons_zero]

theorem deadFit_fn : FitFn 30 deadF := by
  intro p hp hc
  cases p with
  | mk n kids =>
  have hl : kids.length = arC n.op := hp.2.1
  obtain ⟨a0, a1, a2, a3⟩ := arC_is (op := n.op)
  match kids, hl, hp with
  | [], hl, hp =>
    have h := a0 (by simpa using hl.symm)
    exact ⟨_, _, (deadFit_G n default default default).no0 h, by rw [deadF_no h]; rfl⟩
  | [a], hl, hp =>
    have h := a1 (by simpa using hl.symm)
    by_cases h0 : n.op = 10
    · exact ⟨_, _, (deadFit_G n a default default).no1 (by unfold deadNo; omega), by rw [deadF_no (by omega)]; rfl⟩
    · exact ⟨_, _, (deadFit_G n a default default).A1 (by omega), deadF_A (by omega)⟩
  | [a, b], hl, hp =>
    have h := a2 (by simpa using hl.symm)
    have hag : a.good := hp.2.2.1
    by_cases h0 : n.op = 3 ∨ n.op = 14 ∨ n.op = 7 ∨ n.op = 11
    · exact ⟨_, _, (deadFit_G n a b default).A2 h0, deadF_A (by omega)⟩
    · by_cases h1 : n.op = 6
      · exact ⟨_, _, (deadFit_G n a b default).B2 h1, deadF_B (by omega)⟩
      · by_cases h2 : n.op = 4
        · by_cases h3 : a.n.op = 17
          · exact ⟨_, _, (deadFit_G n a b default).C1 ⟨h2, h3⟩, by rw [deadF_C h2, if_pos h3]; rfl⟩
          · exact ⟨_, _, (deadFit_G n a b default).C0 ⟨h2, h3⟩, by rw [deadF_C h2, if_neg h3]⟩
        · have h3 : n.op = 5 := by omega
          rw [deadF_D h3]
          by_cases h4 : a.n.op = 17
          · exact ⟨_, _, (deadFit_D n a b h3).2.2.1 h4, by rw [if_neg (by omega), if_pos (.inl h4)]; rfl⟩
          · by_cases h5 : a.n.op = 2
            · have hf := ((Pt.good_eq a).1 hag).1
              have hv := hf.2.2 h5
              cases h6 : a.n.holds with
              | true => exact ⟨_, _, (deadFit_D n a b h3).1 h5 hf.1 hv h6, by rw [if_pos ⟨h5, rfl⟩]; rfl⟩
              | false => exact ⟨_, _, (deadFit_D n a b h3).2.1 h5 hf.1 hv h6, by rw [if_neg (by simp), if_pos (.inr h5)]; rfl⟩
            · exact ⟨_, _, (deadFit_D n a b h3).2.2.2 h4 h5, by rw [if_neg (by omega), if_neg (by omega)]; rfl⟩
  | [a, b, c], hl, hp =>
    have h := a3 (by simpa using hl.symm)
    by_cases h0 : n.op = 12
    · exact ⟨_, _, (deadFit_G n a b c).A3 h0, deadF_A (by omega)⟩
    · exact ⟨_, _, (deadFit_G n a b c).B3 (by omega), deadF_B (by omega)⟩
  | a :: b :: c :: d :: r, hl, hp =>
    have := arC_le n.op
    simp at hl
    omega

theorem ifs_of {b : Bool} {q : Pt} {o : Option Pt} (h : o = if b = true then some q else none) : if b = true then ∃ q', o = some q' ∧ q.flat 0 = q'.flat 0 else o = none := by
  cases b with
  | true => exact ⟨q, h, rfl⟩
  | false => exact h

theorem l10Dead_fn (p : Pt) (hp : p.good) (hc : p.count ≤ 1000) (hk : p.kids ≠ []) : ∃ (b : Bool) (X : List Co), Fun env.P 139 [.agg p.n.bare.row, .sl 1 (p.kids.map flR)] (.tup [.d (coresD X), .d (dB b)]) [] ∧
    if b = true then ∃ q, deadF p = some q ∧ X = q.flat 0 else deadF p = none := by
  cases p with
  | mk n kids =>
  have hl : kids.length = arC n.op := hp.2.1
  have hcc := Pt.count_eq (.mk n kids)
  simp only [Pt.kids] at hcc hk ⊢
  rw [show (Pt.mk n kids).n = n from rfl]
  obtain ⟨a0, a1, a2, a3⟩ := arC_is (op := n.op)
  match kids, hl, hp, hcc, hk with
  | [], hl, hp, hcc, hk => exact absurd rfl hk
  | [a], hl, hp, hcc, hk =>
    have h := a1 (by simpa using hl.symm)
    simp only [Pt.counts] at hcc
    by_cases h0 : n.op = 10
    · exact ⟨false, _, (l10Dead_G1 n a (by omega)).no1 h0, by rw [if_neg (by simp)]; exact deadF_no (by omega)⟩
    · exact ⟨_, _, (l10Dead_G1 n a (by omega)).A1 (by omega), ifs_of (deadF_A (by omega))⟩
  | [a, b], hl, hp, hcc, hk =>
    have h := a2 (by simpa using hl.symm)
    have hag : a.good := hp.2.2.1
    simp only [Pt.counts] at hcc
    by_cases h0 : n.op = 3 ∨ n.op = 14 ∨ n.op = 7 ∨ n.op = 11
    · exact ⟨_, _, (l10Dead_G2 n a b (by omega) (by omega)).A2 h0, ifs_of (deadF_A (by omega))⟩
    · by_cases h1 : n.op = 6
      · exact ⟨_, _, (l10Dead_G2 n a b (by omega) (by omega)).B2 h1, ifs_of (deadF_B (by omega))⟩
      · by_cases h2 : n.op = 4
        · by_cases h3 : a.n.op = 17
          · exact ⟨true, _, (l10Dead_G2 n a b (by omega) (by omega)).C1 ⟨h2, h3⟩, ifs_of (by rw [deadF_C h2, if_pos h3]; rfl)⟩
          · exact ⟨_, _, (l10Dead_G2 n a b (by omega) (by omega)).C0 ⟨h2, h3⟩, ifs_of (by rw [deadF_C h2, if_neg h3])⟩
        · have h3 : n.op = 5 := by omega
          rw [deadF_D h3]
          by_cases h4 : a.n.op = 17
          · exact ⟨true, _, (l10Dead_G2 n a b (by omega) (by omega)).D3 ⟨h3, h4⟩, ifs_of (by rw [if_neg (by omega), if_pos (.inl h4)]; rfl)⟩
          · by_cases h5 : a.n.op = 2
            · have hf := ((Pt.good_eq a).1 hag).1
              have hv := (valOfM_kind (hf.2.2 h5)).2.1
              cases h6 : a.n.holds with
              | true => exact ⟨true, _, (l10Dead_G2 n a b (by omega) (by omega)).D1 ⟨h3, h5⟩ ⟨hv, h6⟩, ifs_of (by rw [if_pos ⟨h5, rfl⟩]; rfl)⟩
              | false => exact ⟨true, _, (l10Dead_G2 n a b (by omega) (by omega)).D2 ⟨h3, h5⟩ ⟨hv, h6⟩, ifs_of (by rw [if_neg (by simp), if_pos (.inr h5)]; rfl)⟩
            · exact ⟨false, _, (l10Dead_G2 n a b (by omega) (by omega)).D4 ⟨h3, h4, h5⟩, by rw [if_neg (by simp)]; rw [if_neg (by omega), if_neg (by omega)]⟩
  | [a, b, c], hl, hp, hcc, hk =>
    have h := a3 (by simpa using hl.symm)
    simp only [Pt.counts] at hcc
    by_cases h0 : n.op = 12
    · exact ⟨_, _, (l10Dead_G3 n a b c (by omega) (by omega)).A3 h0, ifs_of (deadF_A (by omega))⟩
    · exact ⟨_, _, (l10Dead_G3 n a b c (by omega) (by omega)).B3 (by omega), ifs_of (deadF_B (by omega))⟩
  | a :: b :: c :: d :: r, hl, hp, hcc, hk =>
    have := arC_le n.op
    simp at hl
    omega

theorem l10One3_fn : SFit 3 deadF := by
  intro p hp hc hk
  obtain ⟨b, X, h, hb⟩ := l10Dead_fn p hp hc hk
  refine ⟨b, X, ?_, hb⟩
  refine Fun.intro Tryz.func95 rfl (by kernel_rfl) rfl ?_
  repeat' (first | refine W.seq ?_ | refine W.rg ?_ | refine W.dra' ?_ | refine W.block ?_ | refine W.skip ?_ | refine W.exit ?_ | refine W.cond_true' ?_ | refine W.cond_false' ?_ | refine WG.nil ?_ | refine WG.run' (E := env) ?_ | refine WG.gt' ?_ | refine WG.gf' ?_ | refine WG.ixm' (E := env) ?_ | refine WG.ixo' (E := env) ?_ | refine WG.legm' (E := env) ?_ | refine WG.slS' (E := env) ?_ | refine WG.slD' (E := env) ?_ | refine WG.ap' (E := env) ?_ | refine WD.nil ?_ | refine WD.bs' (E := env) ?_ | refine WD.s' (E := env) (t := .d _) ?_ | refine WD.p' ?_ | refine WD.px' ?_ | refine WD.s' (E := env) (t := .ea _ _) ?_ | refine WD.s' (E := env) (t := .lp _ _) ?_ | refine WD.s' (E := env) (t := .og _ _) ?_ | refine WD.s' (E := env) (t := .agg _) ?_ | refine WD.s' (E := env) (t := .tup _) ?_ | refine WD.s' (E := env) (t := .clo _ _) ?_ | refine WD.ixm' (E := env) ?_ | refine WD.ixo' (E := env) ?_ | refine WD.legm' (E := env) ?_ | refine WD.slS' (E := env) ?_ | refine WD.slD' (E := env) ?_ | refine WG.c (E := env) rfl rfl (h) rfl rfl ?_ | refine WD.c (E := env) rfl rfl (h) rfl rfl ?_ | refine WG.co (E := env) rfl rfl (h) rfl rfl rfl rfl ?_ | refine WG.cx (E := env) rfl (h) rfl ?_ | ((first | refine WG.sp' (fun h => ?_) fun h => ?_ | refine W.cond' (fun h => ?_) fun h => ?_ | refine WD.sp' (fun h => ?_) fun h => ?_) <;> (try simp only [decide_eq_true_eq, decide_eq_false_iff_not, Bool.not_eq_true', Bool.not_eq_false', Bool.and_eq_true, Bool.or_eq_true, Bool.and_eq_false_iff, Bool.or_eq_false_iff, Bool.not_eq_true, Bool.not_eq_false, Int.not_lt, Int.not_le, List.length_map, beq_self_eq_true, Bool.true_eq_false, Bool.false_eq_true] at h) <;> (try (exfalso; first | contradiction | omega))))
  all_goals (refine W.ret ?_; (first | refine RetQ.b' ?_ | refine RetQ.i' ?_ | refine RetQ.d' ?_ | refine RetQ.t2' ?_ ?_ | refine RetQ.t3' ?_ ?_ ?_))
  all_goals rfl

theorem DeadCore_both (cs : List Co) (hf : fitsK cs) : ∃ (code did : Int) (rs : List Co), rs.length ≤ 1048576 ∧ (∀ n ∈ rs, n.fine) ∧ sumV rs ≤ 943718400 ∧
    Fun env.P 9 [coresD cs] (.agg [vI .i64 code, vI .i64 did, .og 0 0]) [.x (neC (rs.map coN) (some (rs.map Co.row))) 0] ∧ Fun env.P 7 [coresD cs] (.d (.agg [dI code, dI did, coresD rs])) [] := by
  obtain ⟨h1, h2, h3⟩ := passR_fine deadF_ok cs hf
  have hp := pass_fn deadF_ok deadFit_fn cs hf
  have hs := l10Pass_fn deadF_ok l10One3_fn cs hf
  refine ⟨coreM cs, passD deadF cs, passR deadF cs, by omega, h2, h3, ?_, ?_⟩
  · refine Fun.intro Tryz.func9 rfl (by kernel_rfl) rfl ?_
    repeat' (first | refine WG.coX3 (E := env) (K := 1) rfl rfl hp rfl rfl ?_ | refine W.seq ?_ | refine W.rg ?_ | refine W.dra' ?_ | refine W.block ?_ | refine W.skip ?_ | refine W.exit ?_ | refine W.cond_true' ?_ | refine W.cond_false' ?_ | refine WG.nil ?_ | refine WG.run' (E := env) ?_ | refine WG.gt' ?_ | refine WG.gf' ?_ | refine WG.ixm' (E := env) ?_ | refine WG.ixo' (E := env) ?_ | refine WG.legm' (E := env) ?_ | refine WG.slS' (E := env) ?_ | refine WG.slD' (E := env) ?_ | refine WG.ap' (E := env) ?_ | refine WD.nil ?_ | refine WD.bs' (E := env) ?_ | refine WD.s' (E := env) (t := .d _) ?_ | refine WD.p' ?_ | refine WD.px' ?_ | refine WD.s' (E := env) (t := .ea _ _) ?_ | refine WD.s' (E := env) (t := .lp _ _) ?_ | refine WD.s' (E := env) (t := .og _ _) ?_ | refine WD.s' (E := env) (t := .agg _) ?_ | refine WD.s' (E := env) (t := .tup _) ?_ | refine WD.s' (E := env) (t := .clo _ _) ?_ | refine WD.ixm' (E := env) ?_ | refine WD.ixo' (E := env) ?_ | refine WD.legm' (E := env) ?_ | refine WD.slS' (E := env) ?_ | refine WD.slD' (E := env) ?_ | fail | ((first | refine WG.sp' (fun h => ?_) fun h => ?_ | refine W.cond' (fun h => ?_) fun h => ?_ | refine WD.sp' (fun h => ?_) fun h => ?_) <;> (try simp only [decide_eq_true_eq, decide_eq_false_iff_not, Bool.not_eq_true', Bool.not_eq_false', Bool.and_eq_true, Bool.or_eq_true, Bool.and_eq_false_iff, Bool.or_eq_false_iff, Bool.not_eq_true, Bool.not_eq_false, Int.not_lt, Int.not_le, List.length_map, beq_self_eq_true, Bool.true_eq_false, Bool.false_eq_true] at h) <;> (try (exfalso; first | contradiction | omega))))
    refine W.ret ?_
    exact RetR.agx3 (.inl rfl) rfl (by first | trivial | exact resOK_of (E := env) rfl) rfl rfl rfl rfl
  · refine Fun.intro Tryz.func7 rfl (by kernel_rfl) rfl ?_
    repeat' (first | refine W.seq ?_ | refine W.rg ?_ | refine W.dra' ?_ | refine W.block ?_ | refine W.skip ?_ | refine W.exit ?_ | refine W.cond_true' ?_ | refine W.cond_false' ?_ | refine WG.nil ?_ | refine WG.run' (E := env) ?_ | refine WG.gt' ?_ | refine WG.gf' ?_ | refine WG.ixm' (E := env) ?_ | refine WG.ixo' (E := env) ?_ | refine WG.legm' (E := env) ?_ | refine WG.slS' (E := env) ?_ | refine WG.slD' (E := env) ?_ | refine WG.ap' (E := env) ?_ | refine WD.nil ?_ | refine WD.bs' (E := env) ?_ | refine WD.s' (E := env) (t := .d _) ?_ | refine WD.p' ?_ | refine WD.px' ?_ | refine WD.s' (E := env) (t := .ea _ _) ?_ | refine WD.s' (E := env) (t := .lp _ _) ?_ | refine WD.s' (E := env) (t := .og _ _) ?_ | refine WD.s' (E := env) (t := .agg _) ?_ | refine WD.s' (E := env) (t := .tup _) ?_ | refine WD.s' (E := env) (t := .clo _ _) ?_ | refine WD.ixm' (E := env) ?_ | refine WD.ixo' (E := env) ?_ | refine WD.legm' (E := env) ?_ | refine WD.slS' (E := env) ?_ | refine WD.slD' (E := env) ?_ | refine WG.c (E := env) rfl rfl (hs) rfl rfl ?_ | refine WD.c (E := env) rfl rfl (hs) rfl rfl ?_ | refine WG.co (E := env) rfl rfl (hs) rfl rfl rfl rfl ?_ | refine WG.cx (E := env) rfl (hs) rfl ?_ | ((first | refine WG.sp' (fun h => ?_) fun h => ?_ | refine W.cond' (fun h => ?_) fun h => ?_ | refine WD.sp' (fun h => ?_) fun h => ?_) <;> (try simp only [decide_eq_true_eq, decide_eq_false_iff_not, Bool.not_eq_true', Bool.not_eq_false', Bool.and_eq_true, Bool.or_eq_true, Bool.and_eq_false_iff, Bool.or_eq_false_iff, Bool.not_eq_true, Bool.not_eq_false, Int.not_lt, Int.not_le, List.length_map, beq_self_eq_true, Bool.true_eq_false, Bool.false_eq_true] at h) <;> (try (exfalso; first | contradiction | omega))))
    (refine W.ret ?_; (first | refine RetQ.b' ?_ | refine RetQ.i' ?_ | refine RetQ.d' ?_ | refine RetQ.t2' ?_ ?_ | refine RetQ.t3' ?_ ?_ ?_))
    rfl

end Go.Proofs.YtojifjbbjnpgbaaGreat
