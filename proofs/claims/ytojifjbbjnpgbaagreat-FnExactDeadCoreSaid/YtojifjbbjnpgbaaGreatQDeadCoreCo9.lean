/-
  The fault of a core, by the program and by the reference. Conditions: cells of at most 2^20 bytes.
-/
import Derived.Test.YtojifjbbjnpgbaaGreatQDeadCoreCo4
import Derived.Test.YtojifjbbjnpgbaaGreatQDeadCoreCo8
set_option linter.unusedVariables false
set_option linter.unusedSimpArgs false
set_option maxRecDepth 100000
namespace Go.Proofs.YtojifjbbjnpgbaaGreat
open Go.RowKit

def firstK (f : Nat → Int) : Nat → Nat → Int
  | 0, _ => 0
  | m + 1, k => if f k ≠ 0 then f k else firstK f m (k + 1)

theorem firstK_zero {f : Nat → Int} : ∀ {m k : Nat}, firstK f m k = 0 → ∀ j, k ≤ j → j < k + m → f j = 0
  | 0, k, _, j, h1, h2 => by omega
  | m + 1, k, h, j, h1, h2 => by
    unfold firstK at h
    split at h
    · contradiction
    · rename_i hk
      by_cases e : j = k
      · rw [e]; simpa using hk
      · exact firstK_zero h j (by omega) (by omega)

abbrev cCode (cs : List Co) (k : Nat) : Int := coreC (cs.getD k default) k

noncomputable def coreM (cs : List Co) : Int :=
  if ¬ (1 ≤ cs.length ∧ cs.length ≤ 900) then 2
  else if firstK (cCode cs) cs.length 0 ≠ 0 then firstK (cCode cs) cs.length 0
  else if begM (nmC cs) (cs.length - 1) ≠ 0 then 1
  else if bndF cs cs.length (cs.length - 1) [] = false then 4
  else if 120 < nestM (nmC cs) (cs.length - 1) then 7 else 0

theorem ncOK_of {cs : List Co} (h : firstK (cCode cs) cs.length 0 = 0) : NcOK cs := fun k hk => coreC_named (firstK_zero h k (by omega) (by omega))

theorem sizeC_fn (cs : List Co) : Fun env.P 51 [coresD cs] (.d (dI (cs.map Co.row).length)) [] := by
  refine Fun.intro Tryz.func51 rfl (by kernel_rfl) rfl ?_
  repeat' (first | refine W.seq ?_ | refine W.rg ?_ | refine W.dra' ?_ | refine W.block ?_ | refine W.skip ?_ | refine W.exit ?_ | refine W.cond_true' ?_ | refine W.cond_false' ?_ | refine WG.nil ?_ | refine WG.run' (E := env) ?_ | refine WG.gt' ?_ | refine WG.gf' ?_ | refine WG.ixm' (E := env) ?_ | refine WG.ixo' (E := env) ?_ | refine WG.legm' (E := env) ?_ | refine WG.slS' (E := env) ?_ | refine WG.slD' (E := env) ?_ | refine WG.ap' (E := env) ?_ | refine WD.nil ?_ | refine WD.bs' (E := env) ?_ | refine WD.s' (E := env) (t := .d _) ?_ | refine WD.p' ?_ | refine WD.px' ?_ | refine WD.s' (E := env) (t := .ea _ _) ?_ | refine WD.s' (E := env) (t := .lp _ _) ?_ | refine WD.s' (E := env) (t := .og _ _) ?_ | refine WD.s' (E := env) (t := .agg _) ?_ | refine WD.s' (E := env) (t := .tup _) ?_ | refine WD.s' (E := env) (t := .clo _ _) ?_ | refine WD.ixm' (E := env) ?_ | refine WD.ixo' (E := env) ?_ | refine WD.legm' (E := env) ?_ | refine WD.slS' (E := env) ?_ | refine WD.slD' (E := env) ?_ | ((first | refine WG.sp' (fun h => ?_) fun h => ?_ | refine W.cond' (fun h => ?_) fun h => ?_ | refine WD.sp' (fun h => ?_) fun h => ?_) <;> (try simp only [decide_eq_true_eq, decide_eq_false_iff_not, Bool.not_eq_true', Bool.not_eq_false', Bool.and_eq_true, Bool.or_eq_true, Bool.and_eq_false_iff, Bool.or_eq_false_iff, Bool.not_eq_true, Bool.not_eq_false, Int.not_lt, Int.not_le, List.length_map, beq_self_eq_true, Bool.true_eq_false, Bool.false_eq_true] at h) <;> (try (exfalso; first | contradiction | omega))))
  (refine W.ret ?_; (first | refine RetQ.b' ?_ | refine RetQ.i' ?_ | refine RetQ.d' ?_ | refine RetQ.t2' ?_ ?_ | refine RetQ.t3' ?_ ?_ ?_))
  rfl

set_option maxHeartbeats 4000000 in
theorem CoreFault_fn (cs : List Co) (hl : cs.length ≤ 1048576) (ht : ∀ n ∈ cs, n.fine) : Fun env.P 49 [coresD cs] (.d (dI (coreM cs))) [] := by
  have hsz := sizeC_fn cs
  have hin := within_fn ((cs.map Co.row).length : Int) 1 900
  by_cases hlen : 1 ≤ cs.length ∧ cs.length ≤ 900
  · have e0 : coreM cs = if firstK (cCode cs) cs.length 0 ≠ 0 then firstK (cCode cs) cs.length 0 else if begM (nmC cs) (cs.length - 1) ≠ 0 then 1 else if bndF cs cs.length (cs.length - 1) [] = false then 4 else if 120 < nestM (nmC cs) (cs.length - 1) then 7 else 0 := by
      unfold coreM; rw [if_neg (fun h => h hlen)]
    refine Fun.intro Tryz.func49 rfl (by kernel_rfl) rfl ?_
    repeat' (first | refine W.seq ?_ | refine W.rg ?_ | refine W.dra' ?_ | refine W.block ?_ | refine W.skip ?_ | refine W.exit ?_ | refine W.cond_true' ?_ | refine W.cond_false' ?_ | refine WG.nil ?_ | refine WG.run' (E := env) ?_ | refine WG.gt' ?_ | refine WG.gf' ?_ | refine WG.ixm' (E := env) ?_ | refine WG.ixo' (E := env) ?_ | refine WG.legm' (E := env) ?_ | refine WG.slS' (E := env) ?_ | refine WG.slD' (E := env) ?_ | refine WG.ap' (E := env) ?_ | refine WD.nil ?_ | refine WD.bs' (E := env) ?_ | refine WD.s' (E := env) (t := .d _) ?_ | refine WD.p' ?_ | refine WD.px' ?_ | refine WD.s' (E := env) (t := .ea _ _) ?_ | refine WD.s' (E := env) (t := .lp _ _) ?_ | refine WD.s' (E := env) (t := .og _ _) ?_ | refine WD.s' (E := env) (t := .agg _) ?_ | refine WD.s' (E := env) (t := .tup _) ?_ | refine WD.s' (E := env) (t := .clo _ _) ?_ | refine WD.ixm' (E := env) ?_ | refine WD.ixo' (E := env) ?_ | refine WD.legm' (E := env) ?_ | refine WD.slS' (E := env) ?_ | refine WD.slD' (E := env) ?_ | refine WG.c (E := env) rfl rfl (hsz) rfl rfl ?_ | refine WD.c (E := env) rfl rfl (hsz) rfl rfl ?_ | refine WG.co (E := env) rfl rfl (hsz) rfl rfl rfl rfl ?_ | refine WG.cx (E := env) rfl (hsz) rfl ?_ | refine WG.c (E := env) rfl rfl (hin) rfl rfl ?_ | refine WD.c (E := env) rfl rfl (hin) rfl rfl ?_ | refine WG.co (E := env) rfl rfl (hin) rfl rfl rfl rfl ?_ | refine WG.cx (E := env) rfl (hin) rfl ?_ | ((first | refine WG.sp' (fun h => ?_) fun h => ?_ | refine W.cond' (fun h => ?_) fun h => ?_ | refine WD.sp' (fun h => ?_) fun h => ?_) <;> (try simp only [decide_eq_true_eq, decide_eq_false_iff_not, Bool.not_eq_true', Bool.not_eq_false', Bool.and_eq_true, Bool.or_eq_true, Bool.and_eq_false_iff, Bool.or_eq_false_iff, Bool.not_eq_true, Bool.not_eq_false, Int.not_lt, Int.not_le, List.length_map, beq_self_eq_true, Bool.true_eq_false, Bool.false_eq_true] at h) <;> (try (exfalso; first | contradiction | omega))))
    all_goals first | (exfalso; omega) | skip
    refine W.loopI (fun m S => ∃ (i : Nat), m = cs.length - i ∧ (i ≤ cs.length ∧ firstK (cCode cs) cs.length 0 = firstK (cCode cs) (cs.length - i) i) ∧ S = ⟨ofL [(0, .d (coresD cs)), (13, .d (coresD cs)), (14, vI .i64 (cs.map Co.row).length), (15, vI .i64 i)], []⟩) _ _ ⟨0, rfl, ⟨by omega, rfl⟩, rfl⟩ (St.imp.of_le (by (refine le_ofL rfl ?_ ?_ <;> (repeat (first | exact trivial | refine ⟨⟨rfl, rfl⟩, ?_⟩ | refine ⟨rfl, .inl rfl, ?_⟩ | refine ⟨rfl, .inr rfl, ?_⟩))))) ?_
    rintro m S ⟨i, rfl, ⟨hi, he⟩, rfl⟩
    by_cases hin' : i < cs.length
    · have hat : cs.getD (Int.toNat (i : Int)) default = cs.getD i default := by simp
      have hnf : Fun env.P 99 [.agg (cs.getD (Int.toNat (i : Int)) default).row, dI i] (.d (dI (coreC (cs.getD i default) i))) [] := by
        rw [hat]
        exact coreNodeFault_fn _ i (by omega) (ht _ (getD_mem' hin'))
      rw [show cs.length - i = (cs.length - (i + 1)) + 1 by omega, firstK] at he
      repeat' (first | refine W.seq ?_ | refine W.rg ?_ | refine W.dra' ?_ | refine W.block ?_ | refine W.skip ?_ | refine W.exit ?_ | refine W.cond_true' ?_ | refine W.cond_false' ?_ | refine WG.nil ?_ | refine WG.run' (E := env) ?_ | refine WG.gt' ?_ | refine WG.gf' ?_ | refine WG.ixm' (E := env) ?_ | refine WG.ixo' (E := env) ?_ | refine WG.legm' (E := env) ?_ | refine WG.slS' (E := env) ?_ | refine WG.slD' (E := env) ?_ | refine WG.ap' (E := env) ?_ | refine WD.nil ?_ | refine WD.bs' (E := env) ?_ | refine WD.s' (E := env) (t := .d _) ?_ | refine WD.p' ?_ | refine WD.px' ?_ | refine WD.s' (E := env) (t := .ea _ _) ?_ | refine WD.s' (E := env) (t := .lp _ _) ?_ | refine WD.s' (E := env) (t := .og _ _) ?_ | refine WD.s' (E := env) (t := .agg _) ?_ | refine WD.s' (E := env) (t := .tup _) ?_ | refine WD.s' (E := env) (t := .clo _ _) ?_ | refine WD.ixm' (E := env) ?_ | refine WD.ixo' (E := env) ?_ | refine WD.legm' (E := env) ?_ | refine WD.slS' (E := env) ?_ | refine WD.slD' (E := env) ?_ | refine WG.c (E := env) rfl rfl (hnf) rfl rfl ?_ | refine WD.c (E := env) rfl rfl (hnf) rfl rfl ?_ | refine WG.co (E := env) rfl rfl (hnf) rfl rfl rfl rfl ?_ | refine WG.cx (E := env) rfl (hnf) rfl ?_ | ((first | refine WG.sp' (fun h => ?_) fun h => ?_ | refine W.cond' (fun h => ?_) fun h => ?_ | refine WD.sp' (fun h => ?_) fun h => ?_) <;> (try simp only [decide_eq_true_eq, decide_eq_false_iff_not, Bool.not_eq_true', Bool.not_eq_false', Bool.and_eq_true, Bool.or_eq_true, Bool.and_eq_false_iff, Bool.or_eq_false_iff, Bool.not_eq_true, Bool.not_eq_false, Int.not_lt, Int.not_le, List.length_map, beq_self_eq_true, Bool.true_eq_false, Bool.false_eq_true] at h) <;> (try (exfalso; first | contradiction | omega))))
      · (refine W.ret ?_; (first | refine RetQ.b' ?_ | refine RetQ.i' ?_ | refine RetQ.d' ?_ | refine RetQ.t2' ?_ ?_ | refine RetQ.t3' ?_ ?_ ?_))
        rw [if_pos (by assumption)] at he
        rw [e0, he, if_pos (by assumption)]
      · exact ⟨_, _, by omega, ⟨i + 1, rfl, ⟨by omega, by rw [he, if_neg (by simp only [*]; simp)]⟩, rfl⟩, (St.imp.of_le (by (refine le_ofL rfl ?_ ?_ <;> (repeat (first | exact trivial | refine ⟨⟨rfl, rfl⟩, ?_⟩ | refine ⟨rfl, .inl rfl, ?_⟩ | refine ⟨rfl, .inr rfl, ?_⟩)))))⟩
    · rw [show cs.length - i = 0 by omega, firstK] at he
      have hok := ncOK_of he
      have hb := coreBegin_fn cs hl hok (cs.length - 1) (by omega)
      have hn := coreLooked_fn cs (by omega) hok cs.length (cs.length - 1) [] (by omega) (by omega) (by simp; omega)
      rw [show ((cs.length - 1 : Nat) : Int) = ((cs.map Co.row).length : Int) - 1 by simp; omega] at hb hn
      rw [e0, if_neg (fun h => h he)]
      generalize bndF cs cs.length (cs.length - 1) [] = bo at hn
      repeat' (first | refine W.seq ?_ | refine W.rg ?_ | refine W.dra' ?_ | refine W.block ?_ | refine W.skip ?_ | refine W.exit ?_ | refine W.cond_true' ?_ | refine W.cond_false' ?_ | refine WG.nil ?_ | refine WG.run' (E := env) ?_ | refine WG.gt' ?_ | refine WG.gf' ?_ | refine WG.ixm' (E := env) ?_ | refine WG.ixo' (E := env) ?_ | refine WG.legm' (E := env) ?_ | refine WG.slS' (E := env) ?_ | refine WG.slD' (E := env) ?_ | refine WG.ap' (E := env) ?_ | refine WD.nil ?_ | refine WD.bs' (E := env) ?_ | refine WD.s' (E := env) (t := .d _) ?_ | refine WD.p' ?_ | refine WD.px' ?_ | refine WD.s' (E := env) (t := .ea _ _) ?_ | refine WD.s' (E := env) (t := .lp _ _) ?_ | refine WD.s' (E := env) (t := .og _ _) ?_ | refine WD.s' (E := env) (t := .agg _) ?_ | refine WD.s' (E := env) (t := .tup _) ?_ | refine WD.s' (E := env) (t := .clo _ _) ?_ | refine WD.ixm' (E := env) ?_ | refine WD.ixo' (E := env) ?_ | refine WD.legm' (E := env) ?_ | refine WD.slS' (E := env) ?_ | refine WD.slD' (E := env) ?_ | refine WG.c (E := env) rfl rfl (hsz) rfl rfl ?_ | refine WD.c (E := env) rfl rfl (hsz) rfl rfl ?_ | refine WG.co (E := env) rfl rfl (hsz) rfl rfl rfl rfl ?_ | refine WG.cx (E := env) rfl (hsz) rfl ?_ | refine WG.c (E := env) rfl rfl (hb) rfl rfl ?_ | refine WD.c (E := env) rfl rfl (hb) rfl rfl ?_ | refine WG.co (E := env) rfl rfl (hb) rfl rfl rfl rfl ?_ | refine WG.cx (E := env) rfl (hb) rfl ?_ | refine WG.c (E := env) rfl rfl (hn) rfl rfl ?_ | refine WD.c (E := env) rfl rfl (hn) rfl rfl ?_ | refine WG.co (E := env) rfl rfl (hn) rfl rfl rfl rfl ?_ | refine WG.cx (E := env) rfl (hn) rfl ?_ | ((first | refine WG.sp' (fun h => ?_) fun h => ?_ | refine W.cond' (fun h => ?_) fun h => ?_ | refine WD.sp' (fun h => ?_) fun h => ?_) <;> (try simp only [decide_eq_true_eq, decide_eq_false_iff_not, Bool.not_eq_true', Bool.not_eq_false', Bool.and_eq_true, Bool.or_eq_true, Bool.and_eq_false_iff, Bool.or_eq_false_iff, Bool.not_eq_true, Bool.not_eq_false, Int.not_lt, Int.not_le, List.length_map, beq_self_eq_true, Bool.true_eq_false, Bool.false_eq_true] at h) <;> (try (exfalso; first | contradiction | omega))))
      all_goals first | (exfalso; simp at *; omega) | skip
      all_goals (refine W.ret ?_; (first | refine RetQ.b' ?_ | refine RetQ.i' ?_ | refine RetQ.d' ?_ | refine RetQ.t2' ?_ ?_ | refine RetQ.t3' ?_ ?_ ?_))
      · rw [if_pos (by assumption)]
      · rw [if_neg (fun h => h (by assumption)), if_pos (by assumption)]
      · rw [if_neg (fun h => h (by assumption)), if_neg (by simp [*]), if_pos (by omega)]
      · rw [if_neg (fun h => h (by assumption)), if_neg (by simp [*]), if_neg (by omega)]
  · have e0 : coreM cs = 2 := by unfold coreM; rw [if_pos hlen]
    rw [e0]
    refine Fun.intro Tryz.func49 rfl (by kernel_rfl) rfl ?_
    repeat' (first | refine W.seq ?_ | refine W.rg ?_ | refine W.dra' ?_ | refine W.block ?_ | refine W.skip ?_ | refine W.exit ?_ | refine W.cond_true' ?_ | refine W.cond_false' ?_ | refine WG.nil ?_ | refine WG.run' (E := env) ?_ | refine WG.gt' ?_ | refine WG.gf' ?_ | refine WG.ixm' (E := env) ?_ | refine WG.ixo' (E := env) ?_ | refine WG.legm' (E := env) ?_ | refine WG.slS' (E := env) ?_ | refine WG.slD' (E := env) ?_ | refine WG.ap' (E := env) ?_ | refine WD.nil ?_ | refine WD.bs' (E := env) ?_ | refine WD.s' (E := env) (t := .d _) ?_ | refine WD.p' ?_ | refine WD.px' ?_ | refine WD.s' (E := env) (t := .ea _ _) ?_ | refine WD.s' (E := env) (t := .lp _ _) ?_ | refine WD.s' (E := env) (t := .og _ _) ?_ | refine WD.s' (E := env) (t := .agg _) ?_ | refine WD.s' (E := env) (t := .tup _) ?_ | refine WD.s' (E := env) (t := .clo _ _) ?_ | refine WD.ixm' (E := env) ?_ | refine WD.ixo' (E := env) ?_ | refine WD.legm' (E := env) ?_ | refine WD.slS' (E := env) ?_ | refine WD.slD' (E := env) ?_ | refine WG.c (E := env) rfl rfl (hsz) rfl rfl ?_ | refine WD.c (E := env) rfl rfl (hsz) rfl rfl ?_ | refine WG.co (E := env) rfl rfl (hsz) rfl rfl rfl rfl ?_ | refine WG.cx (E := env) rfl (hsz) rfl ?_ | refine WG.c (E := env) rfl rfl (hin) rfl rfl ?_ | refine WD.c (E := env) rfl rfl (hin) rfl rfl ?_ | refine WG.co (E := env) rfl rfl (hin) rfl rfl rfl rfl ?_ | refine WG.cx (E := env) rfl (hin) rfl ?_ | ((first | refine WG.sp' (fun h => ?_) fun h => ?_ | refine W.cond' (fun h => ?_) fun h => ?_ | refine WD.sp' (fun h => ?_) fun h => ?_) <;> (try simp only [decide_eq_true_eq, decide_eq_false_iff_not, Bool.not_eq_true', Bool.not_eq_false', Bool.and_eq_true, Bool.or_eq_true, Bool.and_eq_false_iff, Bool.or_eq_false_iff, Bool.not_eq_true, Bool.not_eq_false, Int.not_lt, Int.not_le, List.length_map, beq_self_eq_true, Bool.true_eq_false, Bool.false_eq_true] at h) <;> (try (exfalso; first | contradiction | omega))))
    all_goals first | (exfalso; omega) | skip
    all_goals (refine W.ret ?_; (first | refine RetQ.b' ?_ | refine RetQ.i' ?_ | refine RetQ.d' ?_ | refine RetQ.t2' ?_ ?_ | refine RetQ.t3' ?_ ?_ ?_))
    all_goals rfl

end Go.Proofs.YtojifjbbjnpgbaaGreat
