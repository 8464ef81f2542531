/-
  How many nodes of each kind a core has, by the program and by the reference. Conditions: cells of at most 2^20 bytes.
-/
import Derived.Test.YtlegadpbjccelaaCoC
import Derived.Test.YtlegadpbjccelaaMk2
set_option linter.unusedVariables false
set_option linter.unusedSimpArgs false
set_option maxRecDepth 100000
namespace Go.Proofs.Ytlegadpbjccelaa
open Go.RowKit

def kindsR (cs : List Co) : Nat → List Int
  | 0 => List.replicate 17 0
  | i + 1 => (kindsR cs i).set (Int.toNat ((cs.getD i default).op - 1)) ((kindsR cs i).getD (Int.toNat ((cs.getD i default).op - 1)) default + 1)

theorem kindsR_length (cs : List Co) : ∀ i, (kindsR cs i).length = 17
  | 0 => by simp [kindsR]
  | i + 1 => by simp [kindsR, kindsR_length cs i]

theorem kindsR_le (cs : List Co) : ∀ i p, 0 ≤ (kindsR cs i).getD p default ∧ (kindsR cs i).getD p default ≤ i
  | 0, p => by
    have : ∀ x ∈ (List.replicate 17 (0 : Int)), x = 0 := fun x hx => List.eq_of_mem_replicate hx
    simp only [kindsR]
    by_cases h : p < 17
    · rw [show (List.replicate 17 (0 : Int)).getD p default = 0 from this _ (getD_mem' (by simpa using h))]; omega
    · rw [List.getD_eq_getElem?_getD, List.getElem?_eq_none (by simp; omega)]; exact ⟨Int.le_refl _, Int.le_refl _⟩
  | i + 1, p => by
    have h1 := kindsR_le cs i p
    simp only [kindsR]
    generalize hq : Int.toNat ((cs.getD i default).op - 1) = q
    have h2 := kindsR_le cs i q
    by_cases e : q = p
    · subst e
      by_cases hl : q < (kindsR cs i).length
      · simp only [List.getD_eq_getElem?_getD, List.getElem?_set_self hl, Option.getD_some] at *
        omega
      · rw [List.set_eq_of_length_le (by omega)]; omega
    · simp only [List.getD_eq_getElem?_getD, List.getElem?_set_ne e] at *
      omega

theorem coreC_op {n : Co} {k : Nat} (h : coreC n k = 0) : 1 ≤ n.op ∧ n.op ≤ 17 := by
  unfold coreC at h
  split at h
  · cases h
  · rename_i h1; exact Classical.not_not.1 h1

theorem cores_op {cs : List Co} (h : coreM cs = 0) {i : Nat} (hi : i < cs.length) : 1 ≤ (cs.getD i default).op ∧ (cs.getD i default).op ≤ 17 :=
  coreC_op (firstK_zero (coreM_ok h).2.1 i (by omega) (by omega))

noncomputable def kindsL (cs : List Co) : List Int := if coreM cs = 0 then kindsR cs cs.length else []

theorem kinds_zero : List.replicate (Int.toNat 17) ([dI 0] : List D) = (kindsR [] 0).map intRow := by simp [kindsR]

set_option maxHeartbeats 4000000 in
theorem KindsCore_fn (cs : List Co) (hf : fitsK cs) : Fun env.P 45 [coresD cs] (.agg [vI .i64 (coreM cs), .og 0 0]) [.gr 1 2 ((kindsL cs).map intRow) 0 false] := by
  have ht := CoreFault_fn cs hf.2 hf.1
  have hl := hf.2
  have hop := @cores_op cs
  unfold kindsL
  generalize coreM cs = c at ht hop
  by_cases hc : c = 0
  · subst hc
    rw [if_pos rfl]
    replace hop := fun {i} => @hop rfl i
    refine Fun.intro Try.func45 rfl (by kernel_rfl) rfl ?_
    repeat' (first | refine W.seq ?_ | refine W.rg ?_ | refine W.dra' ?_ | refine W.block ?_ | refine W.skip ?_ | refine W.exit ?_ | refine W.cond_true' ?_ | refine W.cond_false' ?_ | refine WG.nil ?_ | refine WG.run' (E := env) ?_ | refine WG.gt' ?_ | refine WG.gf' ?_ | refine WG.ixm' (E := env) ?_ | refine WG.ixo' (E := env) ?_ | refine WG.legm' (E := env) ?_ | refine WG.slS' (E := env) ?_ | refine WG.slD' (E := env) ?_ | refine WG.ap' (E := env) ?_ | refine WD.nil ?_ | refine WD.bs' (E := env) ?_ | refine WD.s' (E := env) (t := .d _) ?_ | refine WD.p' ?_ | refine WD.px' ?_ | refine WD.s' (E := env) (t := .ea _ _) ?_ | refine WD.s' (E := env) (t := .lp _ _) ?_ | refine WD.s' (E := env) (t := .og _ _) ?_ | refine WD.s' (E := env) (t := .agg _) ?_ | refine WD.s' (E := env) (t := .tup _) ?_ | refine WD.s' (E := env) (t := .clo _ _) ?_ | refine WD.ixm' (E := env) ?_ | refine WD.ixo' (E := env) ?_ | refine WD.legm' (E := env) ?_ | refine WD.slS' (E := env) ?_ | refine WD.slD' (E := env) ?_ | refine WG.c (E := env) rfl rfl (ht) rfl rfl ?_ | refine WD.c (E := env) rfl rfl (ht) rfl rfl ?_ | refine WG.co (E := env) rfl rfl (ht) rfl rfl rfl rfl ?_ | refine WG.cx (E := env) rfl (ht) rfl ?_ | ((first | refine WG.sp' (fun h => ?_) fun h => ?_ | refine W.cond' (fun h => ?_) fun h => ?_ | refine WD.sp' (fun h => ?_) fun h => ?_) <;> (try simp only [decide_eq_true_eq, decide_eq_false_iff_not, Bool.not_eq_true', Bool.not_eq_false', Bool.and_eq_true, Bool.or_eq_true, Bool.and_eq_false_iff, Bool.or_eq_false_iff, Bool.not_eq_true, Bool.not_eq_false, Int.not_lt, Int.not_le, List.length_map, beq_self_eq_true, Bool.true_eq_false, Bool.false_eq_true] at h) <;> (try (exfalso; first | contradiction | omega))))
    refine WG.mk (E := env) (z := 1) (zs := [dI 0]) rfl rfl rfl rfl rfl rfl rfl rfl rfl rfl rfl (by decide) ?_
    repeat' (first | refine W.seq ?_ | refine W.rg ?_ | refine W.dra' ?_ | refine W.block ?_ | refine W.skip ?_ | refine W.exit ?_ | refine W.cond_true' ?_ | refine W.cond_false' ?_ | refine WG.nil ?_ | refine WG.run' (E := env) ?_ | refine WG.gt' ?_ | refine WG.gf' ?_ | refine WG.ixm' (E := env) ?_ | refine WG.ixo' (E := env) ?_ | refine WG.legm' (E := env) ?_ | refine WG.slS' (E := env) ?_ | refine WG.slD' (E := env) ?_ | refine WG.ap' (E := env) ?_ | refine WD.nil ?_ | refine WD.bs' (E := env) ?_ | refine WD.s' (E := env) (t := .d _) ?_ | refine WD.p' ?_ | refine WD.px' ?_ | refine WD.s' (E := env) (t := .ea _ _) ?_ | refine WD.s' (E := env) (t := .lp _ _) ?_ | refine WD.s' (E := env) (t := .og _ _) ?_ | refine WD.s' (E := env) (t := .agg _) ?_ | refine WD.s' (E := env) (t := .tup _) ?_ | refine WD.s' (E := env) (t := .clo _ _) ?_ | refine WD.ixm' (E := env) ?_ | refine WD.ixo' (E := env) ?_ | refine WD.legm' (E := env) ?_ | refine WD.slS' (E := env) ?_ | refine WD.slD' (E := env) ?_ | ((first | refine WG.sp' (fun h => ?_) fun h => ?_ | refine W.cond' (fun h => ?_) fun h => ?_ | refine WD.sp' (fun h => ?_) fun h => ?_) <;> (try simp only [decide_eq_true_eq, decide_eq_false_iff_not, Bool.not_eq_true', Bool.not_eq_false', Bool.and_eq_true, Bool.or_eq_true, Bool.and_eq_false_iff, Bool.or_eq_false_iff, Bool.not_eq_true, Bool.not_eq_false, Int.not_lt, Int.not_le, List.length_map, beq_self_eq_true, Bool.true_eq_false, Bool.false_eq_true] at h) <;> (try (exfalso; first | contradiction | omega))))
    refine W.loopI (fun m S => ∃ (i : Nat) (R : List (List D)), m = cs.length - i ∧ (i ≤ cs.length ∧ R = (kindsR cs i).map intRow) ∧ S = ⟨ofL [(2, .lp 0 0), (4, .og 1 0), (14, .d (coresD cs)), (15, vI .i64 (cs.map Co.row).length), (16, vI .i64 i)], [.pv [.d (dI 0), .d (.nl 1)], .gr 1 2 R 0 false]⟩) _ _
      ⟨0, List.replicate (Int.toNat 17) ([dI 0] : List D), rfl, ⟨by omega, kinds_zero⟩, rfl⟩ (St.imp.of_le (by (refine le_ofL rfl ?_ ?_ <;> (repeat (first | exact trivial | refine ⟨⟨rfl, rfl⟩, ?_⟩ | refine ⟨rfl, .inl rfl, ?_⟩ | refine ⟨rfl, .inr rfl, ?_⟩))))) ?_
    rintro m S ⟨i, R, rfl, ⟨hi, rfl⟩, rfl⟩
    have hlen := kindsR_length cs i
    by_cases hin : i < cs.length
    · have ho := hop hin
      have hle := kindsR_le cs i (Int.toNat ((cs.getD i default).op - 1))
      have hn : cs.getD (Int.toNat (i : Int)) default = cs.getD i default := by simp
      rw [← hn] at ho hle
      repeat' (first | refine WG.ixo (E := env) rfl rfl rfl rfl rfl rfl rfl rfl (by rw [List.length_map]; omega) ?_ | refine WG.stE (E := env) rfl rfl rfl rfl (map_row intRow _ _ (by omega)) rfl rfl rfl rfl ?_ | refine W.seq ?_ | refine W.rg ?_ | refine W.dra' ?_ | refine W.block ?_ | refine W.skip ?_ | refine W.exit ?_ | refine W.cond_true' ?_ | refine W.cond_false' ?_ | refine WG.nil ?_ | refine WG.run' (E := env) ?_ | refine WG.gt' ?_ | refine WG.gf' ?_ | refine WG.ixm' (E := env) ?_ | refine WG.ixo' (E := env) ?_ | refine WG.legm' (E := env) ?_ | refine WG.slS' (E := env) ?_ | refine WG.slD' (E := env) ?_ | refine WG.ap' (E := env) ?_ | refine WD.nil ?_ | refine WD.bs' (E := env) ?_ | refine WD.s' (E := env) (t := .d _) ?_ | refine WD.p' ?_ | refine WD.px' ?_ | refine WD.s' (E := env) (t := .ea _ _) ?_ | refine WD.s' (E := env) (t := .lp _ _) ?_ | refine WD.s' (E := env) (t := .og _ _) ?_ | refine WD.s' (E := env) (t := .agg _) ?_ | refine WD.s' (E := env) (t := .tup _) ?_ | refine WD.s' (E := env) (t := .clo _ _) ?_ | refine WD.ixm' (E := env) ?_ | refine WD.ixo' (E := env) ?_ | refine WD.legm' (E := env) ?_ | refine WD.slS' (E := env) ?_ | refine WD.slD' (E := env) ?_ | fail | ((first | refine WG.sp' (fun h => ?_) fun h => ?_ | refine W.cond' (fun h => ?_) fun h => ?_ | refine WD.sp' (fun h => ?_) fun h => ?_) <;> (try simp only [decide_eq_true_eq, decide_eq_false_iff_not, Bool.not_eq_true', Bool.not_eq_false', Bool.and_eq_true, Bool.or_eq_true, Bool.and_eq_false_iff, Bool.or_eq_false_iff, Bool.not_eq_true, Bool.not_eq_false, Int.not_lt, Int.not_le, List.length_map, beq_self_eq_true, Bool.true_eq_false, Bool.false_eq_true] at h) <;> (try (exfalso; first | contradiction | omega))))
      refine ⟨_, _, by omega, ⟨i + 1, _, rfl, ⟨by omega, ?_⟩, rfl⟩, (St.imp.of_le (by (refine le_ofL rfl ?_ ?_ <;> (repeat (first | exact trivial | refine ⟨⟨rfl, rfl⟩, ?_⟩ | refine ⟨rfl, .inl rfl, ?_⟩ | refine ⟨rfl, .inr rfl, ?_⟩)))))⟩
      rw [kindsR, ← hn, List.map_set]
      rfl
    · repeat' (first | refine W.seq ?_ | refine W.rg ?_ | refine W.dra' ?_ | refine W.block ?_ | refine W.skip ?_ | refine W.exit ?_ | refine W.cond_true' ?_ | refine W.cond_false' ?_ | refine WG.nil ?_ | refine WG.run' (E := env) ?_ | refine WG.gt' ?_ | refine WG.gf' ?_ | refine WG.ixm' (E := env) ?_ | refine WG.ixo' (E := env) ?_ | refine WG.legm' (E := env) ?_ | refine WG.slS' (E := env) ?_ | refine WG.slD' (E := env) ?_ | refine WG.ap' (E := env) ?_ | refine WD.nil ?_ | refine WD.bs' (E := env) ?_ | refine WD.s' (E := env) (t := .d _) ?_ | refine WD.p' ?_ | refine WD.px' ?_ | refine WD.s' (E := env) (t := .ea _ _) ?_ | refine WD.s' (E := env) (t := .lp _ _) ?_ | refine WD.s' (E := env) (t := .og _ _) ?_ | refine WD.s' (E := env) (t := .agg _) ?_ | refine WD.s' (E := env) (t := .tup _) ?_ | refine WD.s' (E := env) (t := .clo _ _) ?_ | refine WD.ixm' (E := env) ?_ | refine WD.ixo' (E := env) ?_ | refine WD.legm' (E := env) ?_ | refine WD.slS' (E := env) ?_ | refine WD.slD' (E := env) ?_ | ((first | refine WG.sp' (fun h => ?_) fun h => ?_ | refine W.cond' (fun h => ?_) fun h => ?_ | refine WD.sp' (fun h => ?_) fun h => ?_) <;> (try simp only [decide_eq_true_eq, decide_eq_false_iff_not, Bool.not_eq_true', Bool.not_eq_false', Bool.and_eq_true, Bool.or_eq_true, Bool.and_eq_false_iff, Bool.or_eq_false_iff, Bool.not_eq_true, Bool.not_eq_false, Int.not_lt, Int.not_le, List.length_map, beq_self_eq_true, Bool.true_eq_false, Bool.false_eq_true] at h) <;> (try (exfalso; first | contradiction | omega))))
      obtain rfl : i = cs.length := by omega
      (refine W.ret ?_; first | refine RetR.g' ?_ | refine RetR.ag' ?_ ?_ | refine RetR.agn' ?_ | exact RetR.gn' | refine RetR.ag3' ?_ ?_ ?_ | refine RetR.agn3' ?_ ?_)
      all_goals rfl
  · rw [if_neg hc]
    refine Fun.intro Try.func45 rfl (by kernel_rfl) rfl ?_
    repeat' (first | refine W.seq ?_ | refine W.rg ?_ | refine W.dra' ?_ | refine W.block ?_ | refine W.skip ?_ | refine W.exit ?_ | refine W.cond_true' ?_ | refine W.cond_false' ?_ | refine WG.nil ?_ | refine WG.run' (E := env) ?_ | refine WG.gt' ?_ | refine WG.gf' ?_ | refine WG.ixm' (E := env) ?_ | refine WG.ixo' (E := env) ?_ | refine WG.legm' (E := env) ?_ | refine WG.slS' (E := env) ?_ | refine WG.slD' (E := env) ?_ | refine WG.ap' (E := env) ?_ | refine WD.nil ?_ | refine WD.bs' (E := env) ?_ | refine WD.s' (E := env) (t := .d _) ?_ | refine WD.p' ?_ | refine WD.px' ?_ | refine WD.s' (E := env) (t := .ea _ _) ?_ | refine WD.s' (E := env) (t := .lp _ _) ?_ | refine WD.s' (E := env) (t := .og _ _) ?_ | refine WD.s' (E := env) (t := .agg _) ?_ | refine WD.s' (E := env) (t := .tup _) ?_ | refine WD.s' (E := env) (t := .clo _ _) ?_ | refine WD.ixm' (E := env) ?_ | refine WD.ixo' (E := env) ?_ | refine WD.legm' (E := env) ?_ | refine WD.slS' (E := env) ?_ | refine WD.slD' (E := env) ?_ | refine WG.c (E := env) rfl rfl (ht) rfl rfl ?_ | refine WD.c (E := env) rfl rfl (ht) rfl rfl ?_ | refine WG.co (E := env) rfl rfl (ht) rfl rfl rfl rfl ?_ | refine WG.cx (E := env) rfl (ht) rfl ?_ | ((first | refine WG.sp' (fun h => ?_) fun h => ?_ | refine W.cond' (fun h => ?_) fun h => ?_ | refine WD.sp' (fun h => ?_) fun h => ?_) <;> (try simp only [decide_eq_true_eq, decide_eq_false_iff_not, Bool.not_eq_true', Bool.not_eq_false', Bool.and_eq_true, Bool.or_eq_true, Bool.and_eq_false_iff, Bool.or_eq_false_iff, Bool.not_eq_true, Bool.not_eq_false, Int.not_lt, Int.not_le, List.length_map, beq_self_eq_true, Bool.true_eq_false, Bool.false_eq_true] at h) <;> (try (exfalso; first | contradiction | omega))))
    all_goals (refine W.ret ?_; first | refine RetR.g' ?_ | refine RetR.ag' ?_ ?_ | refine RetR.agn' ?_ | exact RetR.gn' | refine RetR.ag3' ?_ ?_ ?_ | refine RetR.agn3' ?_ ?_)
    all_goals rfl

set_option maxHeartbeats 4000000 in
theorem KindsCoreS_fn (cs : List Co) (hf : fitsK cs) : Fun env.P 43 [coresD cs] (.agg [vI .i64 (coreM cs), .og 0 0]) [.gr 1 2 ((kindsL cs).map intRow) 0 false] := by
  have ht := CoreFaultS_fn cs hf.2 hf.1
  have hl := hf.2
  have hop := @cores_op cs
  unfold kindsL
  generalize coreM cs = c at ht hop
  by_cases hc : c = 0
  · subst hc
    rw [if_pos rfl]
    replace hop := fun {i} => @hop rfl i
    refine Fun.intro Try.func43 rfl (by kernel_rfl) rfl ?_
    repeat' (first | refine W.seq ?_ | refine W.rg ?_ | refine W.dra' ?_ | refine W.block ?_ | refine W.skip ?_ | refine W.exit ?_ | refine W.cond_true' ?_ | refine W.cond_false' ?_ | refine WG.nil ?_ | refine WG.run' (E := env) ?_ | refine WG.gt' ?_ | refine WG.gf' ?_ | refine WG.ixm' (E := env) ?_ | refine WG.ixo' (E := env) ?_ | refine WG.legm' (E := env) ?_ | refine WG.slS' (E := env) ?_ | refine WG.slD' (E := env) ?_ | refine WG.ap' (E := env) ?_ | refine WD.nil ?_ | refine WD.bs' (E := env) ?_ | refine WD.s' (E := env) (t := .d _) ?_ | refine WD.p' ?_ | refine WD.px' ?_ | refine WD.s' (E := env) (t := .ea _ _) ?_ | refine WD.s' (E := env) (t := .lp _ _) ?_ | refine WD.s' (E := env) (t := .og _ _) ?_ | refine WD.s' (E := env) (t := .agg _) ?_ | refine WD.s' (E := env) (t := .tup _) ?_ | refine WD.s' (E := env) (t := .clo _ _) ?_ | refine WD.ixm' (E := env) ?_ | refine WD.ixo' (E := env) ?_ | refine WD.legm' (E := env) ?_ | refine WD.slS' (E := env) ?_ | refine WD.slD' (E := env) ?_ | refine WG.c (E := env) rfl rfl (ht) rfl rfl ?_ | refine WD.c (E := env) rfl rfl (ht) rfl rfl ?_ | refine WG.co (E := env) rfl rfl (ht) rfl rfl rfl rfl ?_ | refine WG.cx (E := env) rfl (ht) rfl ?_ | ((first | refine WG.sp' (fun h => ?_) fun h => ?_ | refine W.cond' (fun h => ?_) fun h => ?_ | refine WD.sp' (fun h => ?_) fun h => ?_) <;> (try simp only [decide_eq_true_eq, decide_eq_false_iff_not, Bool.not_eq_true', Bool.not_eq_false', Bool.and_eq_true, Bool.or_eq_true, Bool.and_eq_false_iff, Bool.or_eq_false_iff, Bool.not_eq_true, Bool.not_eq_false, Int.not_lt, Int.not_le, List.length_map, beq_self_eq_true, Bool.true_eq_false, Bool.false_eq_true] at h) <;> (try (exfalso; first | contradiction | omega))))
    refine WG.mk (E := env) (z := 1) (zs := [dI 0]) rfl rfl rfl rfl rfl rfl rfl rfl rfl rfl rfl (by decide) ?_
    repeat' (first | refine W.seq ?_ | refine W.rg ?_ | refine W.dra' ?_ | refine W.block ?_ | refine W.skip ?_ | refine W.exit ?_ | refine W.cond_true' ?_ | refine W.cond_false' ?_ | refine WG.nil ?_ | refine WG.run' (E := env) ?_ | refine WG.gt' ?_ | refine WG.gf' ?_ | refine WG.ixm' (E := env) ?_ | refine WG.ixo' (E := env) ?_ | refine WG.legm' (E := env) ?_ | refine WG.slS' (E := env) ?_ | refine WG.slD' (E := env) ?_ | refine WG.ap' (E := env) ?_ | refine WD.nil ?_ | refine WD.bs' (E := env) ?_ | refine WD.s' (E := env) (t := .d _) ?_ | refine WD.p' ?_ | refine WD.px' ?_ | refine WD.s' (E := env) (t := .ea _ _) ?_ | refine WD.s' (E := env) (t := .lp _ _) ?_ | refine WD.s' (E := env) (t := .og _ _) ?_ | refine WD.s' (E := env) (t := .agg _) ?_ | refine WD.s' (E := env) (t := .tup _) ?_ | refine WD.s' (E := env) (t := .clo _ _) ?_ | refine WD.ixm' (E := env) ?_ | refine WD.ixo' (E := env) ?_ | refine WD.legm' (E := env) ?_ | refine WD.slS' (E := env) ?_ | refine WD.slD' (E := env) ?_ | ((first | refine WG.sp' (fun h => ?_) fun h => ?_ | refine W.cond' (fun h => ?_) fun h => ?_ | refine WD.sp' (fun h => ?_) fun h => ?_) <;> (try simp only [decide_eq_true_eq, decide_eq_false_iff_not, Bool.not_eq_true', Bool.not_eq_false', Bool.and_eq_true, Bool.or_eq_true, Bool.and_eq_false_iff, Bool.or_eq_false_iff, Bool.not_eq_true, Bool.not_eq_false, Int.not_lt, Int.not_le, List.length_map, beq_self_eq_true, Bool.true_eq_false, Bool.false_eq_true] at h) <;> (try (exfalso; first | contradiction | omega))))
    refine W.loopI (fun m S => ∃ (i : Nat) (R : List (List D)), m = cs.length - i ∧ (i ≤ cs.length ∧ R = (kindsR cs i).map intRow) ∧ S = ⟨ofL [(0, .d (coresD cs)), (2, .lp 0 0), (4, .og 1 0), (5, vI .i64 i)], [.pv [.d (dI 0), .d (.nl 1)], .gr 1 2 R 0 false]⟩) _ _
      ⟨0, List.replicate (Int.toNat 17) ([dI 0] : List D), rfl, ⟨by omega, kinds_zero⟩, rfl⟩ (St.imp.of_le (by (refine le_ofL rfl ?_ ?_ <;> (repeat (first | exact trivial | refine ⟨⟨rfl, rfl⟩, ?_⟩ | refine ⟨rfl, .inl rfl, ?_⟩ | refine ⟨rfl, .inr rfl, ?_⟩))))) ?_
    rintro m S ⟨i, R, rfl, ⟨hi, rfl⟩, rfl⟩
    have hlen := kindsR_length cs i
    by_cases hin : i < cs.length
    · have ho := hop hin
      have hle := kindsR_le cs i (Int.toNat ((cs.getD i default).op - 1))
      have hn : cs.getD (Int.toNat (i : Int)) default = cs.getD i default := by simp
      rw [← hn] at ho hle
      repeat' (first | refine WG.ixo (E := env) rfl rfl rfl rfl rfl rfl rfl rfl (by rw [List.length_map]; omega) ?_ | refine WG.stE (E := env) rfl rfl rfl rfl (map_row intRow _ _ (by omega)) rfl rfl rfl rfl ?_ | refine W.seq ?_ | refine W.rg ?_ | refine W.dra' ?_ | refine W.block ?_ | refine W.skip ?_ | refine W.exit ?_ | refine W.cond_true' ?_ | refine W.cond_false' ?_ | refine WG.nil ?_ | refine WG.run' (E := env) ?_ | refine WG.gt' ?_ | refine WG.gf' ?_ | refine WG.ixm' (E := env) ?_ | refine WG.ixo' (E := env) ?_ | refine WG.legm' (E := env) ?_ | refine WG.slS' (E := env) ?_ | refine WG.slD' (E := env) ?_ | refine WG.ap' (E := env) ?_ | refine WD.nil ?_ | refine WD.bs' (E := env) ?_ | refine WD.s' (E := env) (t := .d _) ?_ | refine WD.p' ?_ | refine WD.px' ?_ | refine WD.s' (E := env) (t := .ea _ _) ?_ | refine WD.s' (E := env) (t := .lp _ _) ?_ | refine WD.s' (E := env) (t := .og _ _) ?_ | refine WD.s' (E := env) (t := .agg _) ?_ | refine WD.s' (E := env) (t := .tup _) ?_ | refine WD.s' (E := env) (t := .clo _ _) ?_ | refine WD.ixm' (E := env) ?_ | refine WD.ixo' (E := env) ?_ | refine WD.legm' (E := env) ?_ | refine WD.slS' (E := env) ?_ | refine WD.slD' (E := env) ?_ | fail | ((first | refine WG.sp' (fun h => ?_) fun h => ?_ | refine W.cond' (fun h => ?_) fun h => ?_ | refine WD.sp' (fun h => ?_) fun h => ?_) <;> (try simp only [decide_eq_true_eq, decide_eq_false_iff_not, Bool.not_eq_true', Bool.not_eq_false', Bool.and_eq_true, Bool.or_eq_true, Bool.and_eq_false_iff, Bool.or_eq_false_iff, Bool.not_eq_true, Bool.not_eq_false, Int.not_lt, Int.not_le, List.length_map, beq_self_eq_true, Bool.true_eq_false, Bool.false_eq_true] at h) <;> (try (exfalso; first | contradiction | omega))))
      refine ⟨_, _, by omega, ⟨i + 1, _, rfl, ⟨by omega, ?_⟩, rfl⟩, (St.imp.of_le (by (refine le_ofL rfl ?_ ?_ <;> (repeat (first | exact trivial | refine ⟨⟨rfl, rfl⟩, ?_⟩ | refine ⟨rfl, .inl rfl, ?_⟩ | refine ⟨rfl, .inr rfl, ?_⟩)))))⟩
      rw [kindsR, ← hn, List.map_set]
      rfl
    · repeat' (first | refine W.seq ?_ | refine W.rg ?_ | refine W.dra' ?_ | refine W.block ?_ | refine W.skip ?_ | refine W.exit ?_ | refine W.cond_true' ?_ | refine W.cond_false' ?_ | refine WG.nil ?_ | refine WG.run' (E := env) ?_ | refine WG.gt' ?_ | refine WG.gf' ?_ | refine WG.ixm' (E := env) ?_ | refine WG.ixo' (E := env) ?_ | refine WG.legm' (E := env) ?_ | refine WG.slS' (E := env) ?_ | refine WG.slD' (E := env) ?_ | refine WG.ap' (E := env) ?_ | refine WD.nil ?_ | refine WD.bs' (E := env) ?_ | refine WD.s' (E := env) (t := .d _) ?_ | refine WD.p' ?_ | refine WD.px' ?_ | refine WD.s' (E := env) (t := .ea _ _) ?_ | refine WD.s' (E := env) (t := .lp _ _) ?_ | refine WD.s' (E := env) (t := .og _ _) ?_ | refine WD.s' (E := env) (t := .agg _) ?_ | refine WD.s' (E := env) (t := .tup _) ?_ | refine WD.s' (E := env) (t := .clo _ _) ?_ | refine WD.ixm' (E := env) ?_ | refine WD.ixo' (E := env) ?_ | refine WD.legm' (E := env) ?_ | refine WD.slS' (E := env) ?_ | refine WD.slD' (E := env) ?_ | ((first | refine WG.sp' (fun h => ?_) fun h => ?_ | refine W.cond' (fun h => ?_) fun h => ?_ | refine WD.sp' (fun h => ?_) fun h => ?_) <;> (try simp only [decide_eq_true_eq, decide_eq_false_iff_not, Bool.not_eq_true', Bool.not_eq_false', Bool.and_eq_true, Bool.or_eq_true, Bool.and_eq_false_iff, Bool.or_eq_false_iff, Bool.not_eq_true, Bool.not_eq_false, Int.not_lt, Int.not_le, List.length_map, beq_self_eq_true, Bool.true_eq_false, Bool.false_eq_true] at h) <;> (try (exfalso; first | contradiction | omega))))
      obtain rfl : i = cs.length := by omega
      (refine W.ret ?_; first | refine RetR.g' ?_ | refine RetR.ag' ?_ ?_ | refine RetR.agn' ?_ | exact RetR.gn' | refine RetR.ag3' ?_ ?_ ?_ | refine RetR.agn3' ?_ ?_)
      all_goals rfl
  · rw [if_neg hc]
    refine Fun.intro Try.func43 rfl (by kernel_rfl) rfl ?_
    repeat' (first | refine W.seq ?_ | refine W.rg ?_ | refine W.dra' ?_ | refine W.block ?_ | refine W.skip ?_ | refine W.exit ?_ | refine W.cond_true' ?_ | refine W.cond_false' ?_ | refine WG.nil ?_ | refine WG.run' (E := env) ?_ | refine WG.gt' ?_ | refine WG.gf' ?_ | refine WG.ixm' (E := env) ?_ | refine WG.ixo' (E := env) ?_ | refine WG.legm' (E := env) ?_ | refine WG.slS' (E := env) ?_ | refine WG.slD' (E := env) ?_ | refine WG.ap' (E := env) ?_ | refine WD.nil ?_ | refine WD.bs' (E := env) ?_ | refine WD.s' (E := env) (t := .d _) ?_ | refine WD.p' ?_ | refine WD.px' ?_ | refine WD.s' (E := env) (t := .ea _ _) ?_ | refine WD.s' (E := env) (t := .lp _ _) ?_ | refine WD.s' (E := env) (t := .og _ _) ?_ | refine WD.s' (E := env) (t := .agg _) ?_ | refine WD.s' (E := env) (t := .tup _) ?_ | refine WD.s' (E := env) (t := .clo _ _) ?_ | refine WD.ixm' (E := env) ?_ | refine WD.ixo' (E := env) ?_ | refine WD.legm' (E := env) ?_ | refine WD.slS' (E := env) ?_ | refine WD.slD' (E := env) ?_ | refine WG.c (E := env) rfl rfl (ht) rfl rfl ?_ | refine WD.c (E := env) rfl rfl (ht) rfl rfl ?_ | refine WG.co (E := env) rfl rfl (ht) rfl rfl rfl rfl ?_ | refine WG.cx (E := env) rfl (ht) rfl ?_ | ((first | refine WG.sp' (fun h => ?_) fun h => ?_ | refine W.cond' (fun h => ?_) fun h => ?_ | refine WD.sp' (fun h => ?_) fun h => ?_) <;> (try simp only [decide_eq_true_eq, decide_eq_false_iff_not, Bool.not_eq_true', Bool.not_eq_false', Bool.and_eq_true, Bool.or_eq_true, Bool.and_eq_false_iff, Bool.or_eq_false_iff, Bool.not_eq_true, Bool.not_eq_false, Int.not_lt, Int.not_le, List.length_map, beq_self_eq_true, Bool.true_eq_false, Bool.false_eq_true] at h) <;> (try (exfalso; first | contradiction | omega))))
    all_goals (refine W.ret ?_; first | refine RetR.g' ?_ | refine RetR.ag' ?_ ?_ | refine RetR.agn' ?_ | exact RetR.gn' | refine RetR.ag3' ?_ ?_ ?_ | refine RetR.agn3' ?_ ?_)
    all_goals rfl

theorem kindsL_length (cs : List Co) : (kindsL cs).length ≤ 17 := by
  unfold kindsL
  split
  · rw [kindsR_length]; omega
  · simp

theorem KindsCore_both (cs : List Co) (hf : fitsK cs) : ∃ (code : Int) (rs : List Int), rs.length ≤ 1048576 ∧ Fun env.P 45 [coresD cs] (.agg [vI .i64 code, .og 0 0]) [.gr 1 2 (rs.map intRow) 0 false] ∧
    Fun env.P 43 [coresD cs] (.d (.agg [dI code, .sl 1 (rs.map intRow)])) [] :=
  ⟨_, _, by have := kindsL_length cs; omega, KindsCore_fn cs hf, FunQ.pubA rfl (KindsCoreS_fn cs hf)⟩

end Go.Proofs.Ytlegadpbjccelaa
