/-
  Whether the names of a tree are known, by the program and by the reference. Conditions: texts of at most 2^20 bytes.
-/
import Derived.Test.YteooogngdejdgaaTrC
set_option linter.unusedVariables false
set_option linter.unusedSimpArgs false
set_option maxRecDepth 100000
namespace Go.Proofs.Yteooogngdejdgaa
open Go.RowKit

theorem treeM_ok {ns : List Nd} (h : treeM ns = 0) : (1 ≤ ns.length ∧ ns.length ≤ 200) ∧ codeFrom (nodeCode ns) ns.length 0 = 0 ∧ full (nmT ns) (ns.length - 1) = List.range ns.length ∧ nestM (nmT ns) (ns.length - 1) ≤ 30 := by
  unfold treeM at h
  split at h
  · cases h
  rename_i h1
  have h1 := Classical.not_not.1 h1
  split at h
  · rename_i h2; exact absurd h h2
  rename_i h2
  split at h
  · cases h
  rename_i h3
  split at h
  · cases h
  rename_i h4
  refine ⟨h1, Classical.not_not.1 h2, ?_, by omega⟩
  have := begM_zero.1 (Classical.not_not.1 h3)
  rw [this, show ns.length - 1 + 1 = ns.length by omega]

noncomputable def scopeL (ns : List Nd) : List Nat := badM ns ns.length (ns.length - 1) []
noncomputable def scopeC (ns : List Nd) : Int := if treeM ns = 0 then (if 0 ≤ headI (scopeL ns) then 4 else 0) else treeM ns
noncomputable def scopeV (ns : List Nd) : Int := if treeM ns = 0 ∧ 0 ≤ headI (scopeL ns) then headI (scopeL ns) else 0

set_option maxHeartbeats 2000000 in
theorem ScopeFault_fn (ns : List Nd) (hf : fitsT ns) : Fun env.P 46 [nodesD ns] (.d (intP (scopeC ns) (scopeV ns))) [] := by
  have ht := TreeFault_fn ns hf.2 hf.1
  have hs := sizeN_fn ns
  unfold scopeC scopeV
  by_cases h0 : treeM ns = 0
  · obtain ⟨⟨h1, h2⟩, h3, h4, h5⟩ := treeM_ok h0
    have hc := unknown_fn ns (by omega) (nmOK_of h3) ns.length (ns.length - 1) [] (by omega) (by omega) (by simp; omega)
    rw [show ((ns.length - 1 : Nat) : Int) = ((ns.map Nd.row).length : Int) - 1 by simp; omega] at hc
    change Fun env.P _ [_, _, .sl 1 []] (.d (dI (headI (scopeL ns)))) [] at hc
    rw [if_pos h0]
    rw [h0] at ht ⊢
    simp only [true_and]
    generalize headI (scopeL ns) = c at hc ⊢
    refine Fun.intro Try.func46 rfl (by kernel_rfl) rfl ?_
    repeat' (first | refine W.seq ?_ | refine W.rg ?_ | refine W.dra' ?_ | refine W.block ?_ | refine W.skip ?_ | refine W.exit ?_ | refine W.cond_true' ?_ | refine W.cond_false' ?_ | refine WG.nil ?_ | refine WG.run' (E := env) ?_ | refine WG.gt' ?_ | refine WG.gf' ?_ | refine WG.ixm' (E := env) ?_ | refine WG.ixo' (E := env) ?_ | refine WG.legm' (E := env) ?_ | refine WG.slS' (E := env) ?_ | refine WG.slD' (E := env) ?_ | refine WG.ap' (E := env) ?_ | refine WD.nil ?_ | refine WD.bs' (E := env) ?_ | refine WD.s' (E := env) (t := .d _) ?_ | refine WD.p' ?_ | refine WD.px' ?_ | refine WD.s' (E := env) (t := .ea _ _) ?_ | refine WD.s' (E := env) (t := .lp _ _) ?_ | refine WD.s' (E := env) (t := .og _ _) ?_ | refine WD.s' (E := env) (t := .agg _) ?_ | refine WD.s' (E := env) (t := .tup _) ?_ | refine WD.s' (E := env) (t := .clo _ _) ?_ | refine WD.ixm' (E := env) ?_ | refine WD.ixo' (E := env) ?_ | refine WD.legm' (E := env) ?_ | refine WD.slS' (E := env) ?_ | refine WD.slD' (E := env) ?_ | refine WG.c (E := env) rfl rfl (ht) rfl rfl ?_ | refine WD.c (E := env) rfl rfl (ht) rfl rfl ?_ | refine WG.co (E := env) rfl rfl (ht) rfl rfl rfl rfl ?_ | refine WG.cx (E := env) rfl (ht) rfl ?_ | refine WG.c (E := env) rfl rfl (hs) rfl rfl ?_ | refine WD.c (E := env) rfl rfl (hs) rfl rfl ?_ | refine WG.co (E := env) rfl rfl (hs) rfl rfl rfl rfl ?_ | refine WG.cx (E := env) rfl (hs) rfl ?_ | refine WG.c (E := env) rfl rfl (hc) rfl rfl ?_ | refine WD.c (E := env) rfl rfl (hc) rfl rfl ?_ | refine WG.co (E := env) rfl rfl (hc) rfl rfl rfl rfl ?_ | refine WG.cx (E := env) rfl (hc) rfl ?_ | ((first | refine WG.sp' (fun h => ?_) fun h => ?_ | refine W.cond' (fun h => ?_) fun h => ?_ | refine WD.sp' (fun h => ?_) fun h => ?_) <;> (try simp only [decide_eq_true_eq, decide_eq_false_iff_not, Bool.not_eq_true', Bool.not_eq_false', Bool.and_eq_true, Bool.or_eq_true, Bool.and_eq_false_iff, Bool.or_eq_false_iff, Bool.not_eq_true, Bool.not_eq_false, Int.not_lt, Int.not_le, List.length_map, beq_self_eq_true, Bool.true_eq_false, Bool.false_eq_true] at h) <;> (try (exfalso; first | contradiction | omega))))
    all_goals (refine W.ret ?_; (first | refine RetQ.b' ?_ | refine RetQ.i' ?_ | refine RetQ.d' ?_ | refine RetQ.t2' ?_ ?_ | refine RetQ.t3' ?_ ?_ ?_))
    · rw [if_pos (by omega), if_pos (by omega)]; rfl
    · rw [if_neg (by omega), if_neg (by omega)]; rfl
  · rw [if_neg h0, if_neg (fun h => h0 h.1)]
    generalize treeM ns = c at ht h0 ⊢
    refine Fun.intro Try.func46 rfl (by kernel_rfl) rfl ?_
    repeat' (first | refine W.seq ?_ | refine W.rg ?_ | refine W.dra' ?_ | refine W.block ?_ | refine W.skip ?_ | refine W.exit ?_ | refine W.cond_true' ?_ | refine W.cond_false' ?_ | refine WG.nil ?_ | refine WG.run' (E := env) ?_ | refine WG.gt' ?_ | refine WG.gf' ?_ | refine WG.ixm' (E := env) ?_ | refine WG.ixo' (E := env) ?_ | refine WG.legm' (E := env) ?_ | refine WG.slS' (E := env) ?_ | refine WG.slD' (E := env) ?_ | refine WG.ap' (E := env) ?_ | refine WD.nil ?_ | refine WD.bs' (E := env) ?_ | refine WD.s' (E := env) (t := .d _) ?_ | refine WD.p' ?_ | refine WD.px' ?_ | refine WD.s' (E := env) (t := .ea _ _) ?_ | refine WD.s' (E := env) (t := .lp _ _) ?_ | refine WD.s' (E := env) (t := .og _ _) ?_ | refine WD.s' (E := env) (t := .agg _) ?_ | refine WD.s' (E := env) (t := .tup _) ?_ | refine WD.s' (E := env) (t := .clo _ _) ?_ | refine WD.ixm' (E := env) ?_ | refine WD.ixo' (E := env) ?_ | refine WD.legm' (E := env) ?_ | refine WD.slS' (E := env) ?_ | refine WD.slD' (E := env) ?_ | refine WG.c (E := env) rfl rfl (ht) rfl rfl ?_ | refine WD.c (E := env) rfl rfl (ht) rfl rfl ?_ | refine WG.co (E := env) rfl rfl (ht) rfl rfl rfl rfl ?_ | refine WG.cx (E := env) rfl (ht) rfl ?_ | refine WG.c (E := env) rfl rfl (hs) rfl rfl ?_ | refine WD.c (E := env) rfl rfl (hs) rfl rfl ?_ | refine WG.co (E := env) rfl rfl (hs) rfl rfl rfl rfl ?_ | refine WG.cx (E := env) rfl (hs) rfl ?_ | ((first | refine WG.sp' (fun h => ?_) fun h => ?_ | refine W.cond' (fun h => ?_) fun h => ?_ | refine WD.sp' (fun h => ?_) fun h => ?_) <;> (try simp only [decide_eq_true_eq, decide_eq_false_iff_not, Bool.not_eq_true', Bool.not_eq_false', Bool.and_eq_true, Bool.or_eq_true, Bool.and_eq_false_iff, Bool.or_eq_false_iff, Bool.not_eq_true, Bool.not_eq_false, Int.not_lt, Int.not_le, List.length_map, beq_self_eq_true, Bool.true_eq_false, Bool.false_eq_true] at h) <;> (try (exfalso; first | contradiction | omega))))
    all_goals (refine W.ret ?_; (first | refine RetQ.b' ?_ | refine RetQ.i' ?_ | refine RetQ.d' ?_ | refine RetQ.t2' ?_ ?_ | refine RetQ.t3' ?_ ?_ ?_))
    all_goals rfl

set_option maxHeartbeats 2000000 in
theorem ScopeFaultS_fn (ns : List Nd) (hf : fitsT ns) : Fun env.P 44 [nodesD ns] (.d (intP (scopeC ns) (scopeV ns))) [] := by
  have ht := TreeFaultS_fn ns hf.2 hf.1
  unfold scopeC scopeV
  by_cases h0 : treeM ns = 0
  · obtain ⟨⟨h1, h2⟩, h3, h4, h5⟩ := treeM_ok h0
    have hc := l5Scope_fn ns (by omega) (nmOK_of h3) ns.length (ns.length - 1) [] [] (by omega) (by omega) (by simp; omega) (by rw [h4]; simp; omega)
    rw [show ((ns.length - 1 : Nat) : Int) = ((ns.map Nd.row).length : Int) - 1 by simp; omega, List.nil_append] at hc
    change FunQ env.P _ [_, _, .d (.sl 1 []), _] _ (just _ [_, .gr 1 _ (natRows (scopeL ns)) 0 false]) at hc
    rw [if_pos h0]
    rw [h0] at ht ⊢
    simp only [true_and]
    cases hsl : scopeL ns with
    | nil =>
      rw [hsl] at hc
      rw [if_neg (by simp [headI]), if_neg (by simp [headI])]
      refine Fun.intro Try.func44 rfl (by kernel_rfl) rfl ?_
      repeat' (first | refine W.seq ?_ | refine W.rg ?_ | refine W.dra' ?_ | refine W.block ?_ | refine W.skip ?_ | refine W.exit ?_ | refine W.cond_true' ?_ | refine W.cond_false' ?_ | refine WG.nil ?_ | refine WG.run' (E := env) ?_ | refine WG.gt' ?_ | refine WG.gf' ?_ | refine WG.ixm' (E := env) ?_ | refine WG.ixo' (E := env) ?_ | refine WG.legm' (E := env) ?_ | refine WG.slS' (E := env) ?_ | refine WG.slD' (E := env) ?_ | refine WG.ap' (E := env) ?_ | refine WD.nil ?_ | refine WD.bs' (E := env) ?_ | refine WD.s' (E := env) (t := .d _) ?_ | refine WD.p' ?_ | refine WD.px' ?_ | refine WD.s' (E := env) (t := .ea _ _) ?_ | refine WD.s' (E := env) (t := .lp _ _) ?_ | refine WD.s' (E := env) (t := .og _ _) ?_ | refine WD.s' (E := env) (t := .agg _) ?_ | refine WD.s' (E := env) (t := .tup _) ?_ | refine WD.s' (E := env) (t := .clo _ _) ?_ | refine WD.ixm' (E := env) ?_ | refine WD.ixo' (E := env) ?_ | refine WD.legm' (E := env) ?_ | refine WD.slS' (E := env) ?_ | refine WD.slD' (E := env) ?_ | refine WG.cqN (E := env) (t' := .og 2 0) (ob2 := [.pv [.d (dI 0), .d (dI 0)], .dead, .gr 1 2 (natRows []) 0 false]) 3 2 1 [1] [0] rfl rfl hc rfl rfl rfl rfl rfl rfl rfl rfl ⟨rfl, trivial⟩ rfl rfl rfl ?_ | refine WG.c (E := env) rfl rfl (ht) rfl rfl ?_ | refine WD.c (E := env) rfl rfl (ht) rfl rfl ?_ | refine WG.co (E := env) rfl rfl (ht) rfl rfl rfl rfl ?_ | refine WG.cx (E := env) rfl (ht) rfl ?_ | ((first | refine WG.sp' (fun h => ?_) fun h => ?_ | refine W.cond' (fun h => ?_) fun h => ?_ | refine WD.sp' (fun h => ?_) fun h => ?_) <;> (try simp only [decide_eq_true_eq, decide_eq_false_iff_not, Bool.not_eq_true', Bool.not_eq_false', Bool.and_eq_true, Bool.or_eq_true, Bool.and_eq_false_iff, Bool.or_eq_false_iff, Bool.not_eq_true, Bool.not_eq_false, Int.not_lt, Int.not_le, List.length_map, beq_self_eq_true, Bool.true_eq_false, Bool.false_eq_true] at h) <;> (try (exfalso; first | contradiction | omega))))
      all_goals first | (exfalso; simp [natRows, intsN] at *; omega) | skip
      all_goals (refine W.ret ?_; (first | refine RetQ.b' ?_ | refine RetQ.i' ?_ | refine RetQ.d' ?_ | refine RetQ.t2' ?_ ?_ | refine RetQ.t3' ?_ ?_ ?_))
      all_goals rfl
    | cons x r =>
      rw [hsl] at hc
      rw [if_pos (by simp [headI]), if_pos (by simp [headI])]
      refine Fun.intro Try.func44 rfl (by kernel_rfl) rfl ?_
      repeat' (first | refine W.seq ?_ | refine W.rg ?_ | refine W.dra' ?_ | refine W.block ?_ | refine W.skip ?_ | refine W.exit ?_ | refine W.cond_true' ?_ | refine W.cond_false' ?_ | refine WG.nil ?_ | refine WG.run' (E := env) ?_ | refine WG.gt' ?_ | refine WG.gf' ?_ | refine WG.ixm' (E := env) ?_ | refine WG.ixo' (E := env) ?_ | refine WG.legm' (E := env) ?_ | refine WG.slS' (E := env) ?_ | refine WG.slD' (E := env) ?_ | refine WG.ap' (E := env) ?_ | refine WD.nil ?_ | refine WD.bs' (E := env) ?_ | refine WD.s' (E := env) (t := .d _) ?_ | refine WD.p' ?_ | refine WD.px' ?_ | refine WD.s' (E := env) (t := .ea _ _) ?_ | refine WD.s' (E := env) (t := .lp _ _) ?_ | refine WD.s' (E := env) (t := .og _ _) ?_ | refine WD.s' (E := env) (t := .agg _) ?_ | refine WD.s' (E := env) (t := .tup _) ?_ | refine WD.s' (E := env) (t := .clo _ _) ?_ | refine WD.ixm' (E := env) ?_ | refine WD.ixo' (E := env) ?_ | refine WD.legm' (E := env) ?_ | refine WD.slS' (E := env) ?_ | refine WD.slD' (E := env) ?_ | refine WG.cqN (E := env) (t' := .og 2 0) (ob2 := [.pv [.d (dI 0), .d (dI 0)], .dead, .gr 1 2 (natRows (x :: r)) 0 false]) 3 2 1 [1] [0] rfl rfl hc rfl rfl rfl rfl rfl rfl rfl rfl ⟨rfl, trivial⟩ rfl rfl rfl ?_ | refine WG.ixo (E := env) rfl rfl rfl rfl rfl rfl rfl rfl ⟨by omega, by simp [natRows, intsN]; omega⟩ ?_ | refine WG.leg (E := env) rfl rfl rfl rfl rfl (r := [dI x]) rfl rfl ?_ | refine WG.c (E := env) rfl rfl (ht) rfl rfl ?_ | refine WD.c (E := env) rfl rfl (ht) rfl rfl ?_ | refine WG.co (E := env) rfl rfl (ht) rfl rfl rfl rfl ?_ | refine WG.cx (E := env) rfl (ht) rfl ?_ | ((first | refine WG.sp' (fun h => ?_) fun h => ?_ | refine W.cond' (fun h => ?_) fun h => ?_ | refine WD.sp' (fun h => ?_) fun h => ?_) <;> (try simp only [decide_eq_true_eq, decide_eq_false_iff_not, Bool.not_eq_true', Bool.not_eq_false', Bool.and_eq_true, Bool.or_eq_true, Bool.and_eq_false_iff, Bool.or_eq_false_iff, Bool.not_eq_true, Bool.not_eq_false, Int.not_lt, Int.not_le, List.length_map, beq_self_eq_true, Bool.true_eq_false, Bool.false_eq_true] at h) <;> (try (exfalso; first | contradiction | omega))))
      all_goals first | (exfalso; simp [natRows, intsN] at *; omega) | skip
      all_goals (refine W.ret ?_; (first | refine RetQ.b' ?_ | refine RetQ.i' ?_ | refine RetQ.d' ?_ | refine RetQ.t2' ?_ ?_ | refine RetQ.t3' ?_ ?_ ?_))
      all_goals rfl
  · rw [if_neg h0, if_neg (fun h => h0 h.1)]
    generalize treeM ns = c at ht h0 ⊢
    refine Fun.intro Try.func44 rfl (by kernel_rfl) rfl ?_
    repeat' (first | refine W.seq ?_ | refine W.rg ?_ | refine W.dra' ?_ | refine W.block ?_ | refine W.skip ?_ | refine W.exit ?_ | refine W.cond_true' ?_ | refine W.cond_false' ?_ | refine WG.nil ?_ | refine WG.run' (E := env) ?_ | refine WG.gt' ?_ | refine WG.gf' ?_ | refine WG.ixm' (E := env) ?_ | refine WG.ixo' (E := env) ?_ | refine WG.legm' (E := env) ?_ | refine WG.slS' (E := env) ?_ | refine WG.slD' (E := env) ?_ | refine WG.ap' (E := env) ?_ | refine WD.nil ?_ | refine WD.bs' (E := env) ?_ | refine WD.s' (E := env) (t := .d _) ?_ | refine WD.p' ?_ | refine WD.px' ?_ | refine WD.s' (E := env) (t := .ea _ _) ?_ | refine WD.s' (E := env) (t := .lp _ _) ?_ | refine WD.s' (E := env) (t := .og _ _) ?_ | refine WD.s' (E := env) (t := .agg _) ?_ | refine WD.s' (E := env) (t := .tup _) ?_ | refine WD.s' (E := env) (t := .clo _ _) ?_ | refine WD.ixm' (E := env) ?_ | refine WD.ixo' (E := env) ?_ | refine WD.legm' (E := env) ?_ | refine WD.slS' (E := env) ?_ | refine WD.slD' (E := env) ?_ | refine WG.c (E := env) rfl rfl (ht) rfl rfl ?_ | refine WD.c (E := env) rfl rfl (ht) rfl rfl ?_ | refine WG.co (E := env) rfl rfl (ht) rfl rfl rfl rfl ?_ | refine WG.cx (E := env) rfl (ht) rfl ?_ | ((first | refine WG.sp' (fun h => ?_) fun h => ?_ | refine W.cond' (fun h => ?_) fun h => ?_ | refine WD.sp' (fun h => ?_) fun h => ?_) <;> (try simp only [decide_eq_true_eq, decide_eq_false_iff_not, Bool.not_eq_true', Bool.not_eq_false', Bool.and_eq_true, Bool.or_eq_true, Bool.and_eq_false_iff, Bool.or_eq_false_iff, Bool.not_eq_true, Bool.not_eq_false, Int.not_lt, Int.not_le, List.length_map, beq_self_eq_true, Bool.true_eq_false, Bool.false_eq_true] at h) <;> (try (exfalso; first | contradiction | omega))))
    all_goals (refine W.ret ?_; (first | refine RetQ.b' ?_ | refine RetQ.i' ?_ | refine RetQ.d' ?_ | refine RetQ.t2' ?_ ?_ | refine RetQ.t3' ?_ ?_ ?_))
    all_goals rfl

theorem ScopeFault_both (ns : List Nd) (hf : fitsT ns) : ∃ a b : Int, Fun env.P 46 [nodesD ns] (.d (intP a b)) [] ∧ Fun env.P 44 [nodesD ns] (.d (intP a b)) [] :=
  ⟨_, _, ScopeFault_fn ns hf, ScopeFaultS_fn ns hf⟩

end Go.Proofs.Yteooogngdejdgaa
