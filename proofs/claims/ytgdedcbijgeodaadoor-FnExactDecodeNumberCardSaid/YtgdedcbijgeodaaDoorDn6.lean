/-
  The law of DecodeNumber, walked. Conditions: the variable strconv.ErrRange holds something.
-/
import Derived.Test.YtgdedcbijgeodaaDoorDn5
set_option linter.unusedVariables false
set_option linter.unusedSimpArgs false
set_option maxRecDepth 100000
namespace Go.Proofs.YtgdedcbijgeodaaDoor
open Go.RowKit

set_option maxHeartbeats 2000000 in
theorem DecodeNumberS_fn (s : ByteArray) (hs : s.size ≤ 1048576) : Fun env.P 4 [dS s] (.d (dIR (numR s).1 (numR s).2)) [] := by
  obtain ⟨v, hN⟩ := l2Number_fn s hs
  have hi := endN_iff s
  by_cases h : numOK s = true
  · obtain ⟨i1, i2⟩ := hi.1 h
    have hV := l2Value_fn s hs h
    rw [i1] at hN
    have hr : (numR s).1 = 0 ∨ numR s = (3, 0) := by
      unfold numR
      rw [if_pos h]
      split
      · exact .inl rfl
      · exact .inr rfl
    generalize numR s = r at *
    obtain ⟨c, n⟩ := r
    rcases hr with hr | hr
    · simp only at hr hV ⊢
      subst hr
      rw [show decide ((0 : Int) = 0) = true from rfl] at hV
      refine Fun.intro Tryd.func4 rfl (by kernel_rfl) rfl ?_
      repeat' (first | refine W.seq ?_ | refine W.rg ?_ | refine W.dra' ?_ | refine W.block ?_ | refine W.skip ?_ | refine W.exit ?_ | refine W.cond_true' ?_ | refine W.cond_false' ?_ | refine WG.nil ?_ | refine WG.run' (E := env) ?_ | refine WG.gt' ?_ | refine WG.gf' ?_ | refine WG.ixm' (E := env) ?_ | refine WG.ixo' (E := env) ?_ | refine WG.legm' (E := env) ?_ | refine WG.slS' (E := env) ?_ | refine WG.slD' (E := env) ?_ | refine WG.ap' (E := env) ?_ | refine WD.nil ?_ | refine WD.bs' (E := env) ?_ | refine WD.s' (E := env) (t := .d _) ?_ | refine WD.p' ?_ | refine WD.px' ?_ | refine WD.s' (E := env) (t := .ea _ _) ?_ | refine WD.s' (E := env) (t := .lp _ _) ?_ | refine WD.s' (E := env) (t := .og _ _) ?_ | refine WD.s' (E := env) (t := .agg _) ?_ | refine WD.s' (E := env) (t := .tup _) ?_ | refine WD.s' (E := env) (t := .clo _ _) ?_ | refine WD.ixm' (E := env) ?_ | refine WD.ixo' (E := env) ?_ | refine WD.legm' (E := env) ?_ | refine WD.slS' (E := env) ?_ | refine WD.slD' (E := env) ?_ | refine WG.c (E := env) rfl rfl (hN) rfl rfl ?_ | refine WD.c (E := env) rfl rfl (hN) rfl rfl ?_ | refine WG.co (E := env) rfl rfl (hN) rfl rfl rfl rfl ?_ | refine WG.cx (E := env) rfl (hN) rfl ?_ | refine WG.c (E := env) rfl rfl (hV) rfl rfl ?_ | refine WD.c (E := env) rfl rfl (hV) rfl rfl ?_ | refine WG.co (E := env) rfl rfl (hV) rfl rfl rfl rfl ?_ | refine WG.cx (E := env) rfl (hV) rfl ?_ | ((first | refine WG.sp' (fun h => ?_) fun h => ?_ | refine W.cond' (fun h => ?_) fun h => ?_ | refine WD.sp' (fun h => ?_) fun h => ?_) <;> (try simp only [decide_eq_true_eq, decide_eq_false_iff_not, Bool.not_eq_true', Bool.not_eq_false', Bool.and_eq_true, Bool.or_eq_true, Bool.and_eq_false_iff, Bool.or_eq_false_iff, Bool.not_eq_true, Bool.not_eq_false, Int.not_lt, Int.not_le, List.length_map, beq_self_eq_true, Bool.true_eq_false, Bool.false_eq_true] at h) <;> (try (exfalso; first | contradiction | omega))))
      all_goals first | (exfalso; omega) | skip
      all_goals (refine W.ret ?_; (first | refine RetQ.b' ?_ | refine RetQ.i' ?_ | refine RetQ.d' ?_ | refine RetQ.t2' ?_ ?_ | refine RetQ.t3' ?_ ?_ ?_))
      all_goals rfl
    · injection hr with h1 h2
      subst h1; subst h2
      simp only at hV ⊢
      rw [show decide ((3 : Int) = 0) = false from rfl] at hV
      refine Fun.intro Tryd.func4 rfl (by kernel_rfl) rfl ?_
      repeat' (first | refine W.seq ?_ | refine W.rg ?_ | refine W.dra' ?_ | refine W.block ?_ | refine W.skip ?_ | refine W.exit ?_ | refine W.cond_true' ?_ | refine W.cond_false' ?_ | refine WG.nil ?_ | refine WG.run' (E := env) ?_ | refine WG.gt' ?_ | refine WG.gf' ?_ | refine WG.ixm' (E := env) ?_ | refine WG.ixo' (E := env) ?_ | refine WG.legm' (E := env) ?_ | refine WG.slS' (E := env) ?_ | refine WG.slD' (E := env) ?_ | refine WG.ap' (E := env) ?_ | refine WD.nil ?_ | refine WD.bs' (E := env) ?_ | refine WD.s' (E := env) (t := .d _) ?_ | refine WD.p' ?_ | refine WD.px' ?_ | refine WD.s' (E := env) (t := .ea _ _) ?_ | refine WD.s' (E := env) (t := .lp _ _) ?_ | refine WD.s' (E := env) (t := .og _ _) ?_ | refine WD.s' (E := env) (t := .agg _) ?_ | refine WD.s' (E := env) (t := .tup _) ?_ | refine WD.s' (E := env) (t := .clo _ _) ?_ | refine WD.ixm' (E := env) ?_ | refine WD.ixo' (E := env) ?_ | refine WD.legm' (E := env) ?_ | refine WD.slS' (E := env) ?_ | refine WD.slD' (E := env) ?_ | refine WG.c (E := env) rfl rfl (hN) rfl rfl ?_ | refine WD.c (E := env) rfl rfl (hN) rfl rfl ?_ | refine WG.co (E := env) rfl rfl (hN) rfl rfl rfl rfl ?_ | refine WG.cx (E := env) rfl (hN) rfl ?_ | refine WG.c (E := env) rfl rfl (hV) rfl rfl ?_ | refine WD.c (E := env) rfl rfl (hV) rfl rfl ?_ | refine WG.co (E := env) rfl rfl (hV) rfl rfl rfl rfl ?_ | refine WG.cx (E := env) rfl (hV) rfl ?_ | ((first | refine WG.sp' (fun h => ?_) fun h => ?_ | refine W.cond' (fun h => ?_) fun h => ?_ | refine WD.sp' (fun h => ?_) fun h => ?_) <;> (try simp only [decide_eq_true_eq, decide_eq_false_iff_not, Bool.not_eq_true', Bool.not_eq_false', Bool.and_eq_true, Bool.or_eq_true, Bool.and_eq_false_iff, Bool.or_eq_false_iff, Bool.not_eq_true, Bool.not_eq_false, Int.not_lt, Int.not_le, List.length_map, beq_self_eq_true, Bool.true_eq_false, Bool.false_eq_true] at h) <;> (try (exfalso; first | contradiction | omega))))
      all_goals first | (exfalso; omega) | skip
      all_goals (refine W.ret ?_; (first | refine RetQ.b' ?_ | refine RetQ.i' ?_ | refine RetQ.d' ?_ | refine RetQ.t2' ?_ ?_ | refine RetQ.t3' ?_ ?_ ?_))
      all_goals rfl
  · have hr : numR s = (5, 0) := by unfold numR; rw [if_neg h]
    rw [hr]
    have hno : endN s = (s.size : Int) → s.size ≠ 0 → False := fun a b => h (hi.2 ⟨a, b⟩)
    have hno2 : s.size = 0 ∨ endN s ≠ (s.size : Int) := by
      by_cases h0 : s.size = 0
      · exact .inl h0
      · exact .inr fun h1 => hno h1 h0
    refine Fun.intro Tryd.func4 rfl (by kernel_rfl) rfl ?_
    repeat' (first | refine W.seq ?_ | refine W.rg ?_ | refine W.dra' ?_ | refine W.block ?_ | refine W.skip ?_ | refine W.exit ?_ | refine W.cond_true' ?_ | refine W.cond_false' ?_ | refine WG.nil ?_ | refine WG.run' (E := env) ?_ | refine WG.gt' ?_ | refine WG.gf' ?_ | refine WG.ixm' (E := env) ?_ | refine WG.ixo' (E := env) ?_ | refine WG.legm' (E := env) ?_ | refine WG.slS' (E := env) ?_ | refine WG.slD' (E := env) ?_ | refine WG.ap' (E := env) ?_ | refine WD.nil ?_ | refine WD.bs' (E := env) ?_ | refine WD.s' (E := env) (t := .d _) ?_ | refine WD.p' ?_ | refine WD.px' ?_ | refine WD.s' (E := env) (t := .ea _ _) ?_ | refine WD.s' (E := env) (t := .lp _ _) ?_ | refine WD.s' (E := env) (t := .og _ _) ?_ | refine WD.s' (E := env) (t := .agg _) ?_ | refine WD.s' (E := env) (t := .tup _) ?_ | refine WD.s' (E := env) (t := .clo _ _) ?_ | refine WD.ixm' (E := env) ?_ | refine WD.ixo' (E := env) ?_ | refine WD.legm' (E := env) ?_ | refine WD.slS' (E := env) ?_ | refine WD.slD' (E := env) ?_ | refine WG.c (E := env) rfl rfl (hN) rfl rfl ?_ | refine WD.c (E := env) rfl rfl (hN) rfl rfl ?_ | refine WG.co (E := env) rfl rfl (hN) rfl rfl rfl rfl ?_ | refine WG.cx (E := env) rfl (hN) rfl ?_ | ((first | refine WG.sp' (fun h => ?_) fun h => ?_ | refine W.cond' (fun h => ?_) fun h => ?_ | refine WD.sp' (fun h => ?_) fun h => ?_) <;> (try simp only [decide_eq_true_eq, decide_eq_false_iff_not, Bool.not_eq_true', Bool.not_eq_false', Bool.and_eq_true, Bool.or_eq_true, Bool.and_eq_false_iff, Bool.or_eq_false_iff, Bool.not_eq_true, Bool.not_eq_false, Int.not_lt, Int.not_le, List.length_map, beq_self_eq_true, Bool.true_eq_false, Bool.false_eq_true] at h) <;> (try (exfalso; first | contradiction | omega))))
    all_goals first | (exfalso; omega) | skip
    all_goals (refine W.ret ?_; (first | refine RetQ.b' ?_ | refine RetQ.i' ?_ | refine RetQ.d' ?_ | refine RetQ.t2' ?_ ?_ | refine RetQ.t3' ?_ ?_ ?_))
    all_goals rfl

set_option maxHeartbeats 2000000 in
theorem lawDecodeNumber_fn (s : ByteArray) (u : Value) (hu : u = .nilIface ∨ ∃ te pe, u = .iface te pe) :
    FunQ env.P 3 [.d (dS s)] [.x (gvX gER u) 0] (just (.d (dB true)) [.x (gvX gER u) 0]) := by
  refine FunQ.intro Tryd.func3 rfl (by kernel_rfl) rfl ?_
  by_cases hs : 1048576 < s.size
  · repeat' (first | refine W.seq ?_ | refine W.rg ?_ | refine W.dra' ?_ | refine W.block ?_ | refine W.skip ?_ | refine W.exit ?_ | refine W.cond_true' ?_ | refine W.cond_false' ?_ | refine WG.nil ?_ | refine WG.run' (E := env) ?_ | refine WG.gt' ?_ | refine WG.gf' ?_ | refine WG.ixm' (E := env) ?_ | refine WG.ixo' (E := env) ?_ | refine WG.legm' (E := env) ?_ | refine WG.slS' (E := env) ?_ | refine WG.slD' (E := env) ?_ | refine WG.ap' (E := env) ?_ | refine WD.nil ?_ | refine WD.bs' (E := env) ?_ | refine WD.s' (E := env) (t := .d _) ?_ | refine WD.p' ?_ | refine WD.px' ?_ | refine WD.s' (E := env) (t := .ea _ _) ?_ | refine WD.s' (E := env) (t := .lp _ _) ?_ | refine WD.s' (E := env) (t := .og _ _) ?_ | refine WD.s' (E := env) (t := .agg _) ?_ | refine WD.s' (E := env) (t := .tup _) ?_ | refine WD.s' (E := env) (t := .clo _ _) ?_ | refine WD.ixm' (E := env) ?_ | refine WD.ixo' (E := env) ?_ | refine WD.legm' (E := env) ?_ | refine WD.slS' (E := env) ?_ | refine WD.slD' (E := env) ?_ | ((first | refine WG.sp' (fun h => ?_) fun h => ?_ | refine W.cond' (fun h => ?_) fun h => ?_ | refine WD.sp' (fun h => ?_) fun h => ?_) <;> (try simp only [decide_eq_true_eq, decide_eq_false_iff_not, Bool.not_eq_true', Bool.not_eq_false', Bool.and_eq_true, Bool.or_eq_true, Bool.and_eq_false_iff, Bool.or_eq_false_iff, Bool.not_eq_true, Bool.not_eq_false, Int.not_lt, Int.not_le, List.length_map, beq_self_eq_true, Bool.true_eq_false, Bool.false_eq_true] at h) <;> (try (exfalso; first | contradiction | omega))))
    all_goals first | (exfalso; omega) | skip
    all_goals (refine W.ret ?_; exact RetR.own (ob' := [.x (gvX gER u) 0]) ⟨[0], [0], 1⟩ (.inl rfl) rfl (by first | trivial | exact resOK_of (E := env) rfl) rfl rfl rfl rfl rfl rfl ⟨rfl, trivial⟩ rfl ⟨rfl, rfl⟩)
  · have h1 := DecodeNumber_fn s (by omega) u hu
    have h2 := DecodeNumberS_fn s (by omega)
    generalize numR s = r at *
    have he := eqIntRw_fn r.1 r.2 r.1 r.2
    rw [show (decide (r.1 = r.1) && decide (r.2 = r.2)) = true by simp] at he
    repeat' (first | refine W.seq ?_ | refine W.rg ?_ | refine W.dra' ?_ | refine W.block ?_ | refine W.skip ?_ | refine W.exit ?_ | refine W.cond_true' ?_ | refine W.cond_false' ?_ | refine WG.nil ?_ | refine WG.run' (E := env) ?_ | refine WG.gt' ?_ | refine WG.gf' ?_ | refine WG.ixm' (E := env) ?_ | refine WG.ixo' (E := env) ?_ | refine WG.legm' (E := env) ?_ | refine WG.slS' (E := env) ?_ | refine WG.slD' (E := env) ?_ | refine WG.ap' (E := env) ?_ | refine WD.nil ?_ | refine WD.bs' (E := env) ?_ | refine WD.s' (E := env) (t := .d _) ?_ | refine WD.p' ?_ | refine WD.px' ?_ | refine WD.s' (E := env) (t := .ea _ _) ?_ | refine WD.s' (E := env) (t := .lp _ _) ?_ | refine WD.s' (E := env) (t := .og _ _) ?_ | refine WD.s' (E := env) (t := .agg _) ?_ | refine WD.s' (E := env) (t := .tup _) ?_ | refine WD.s' (E := env) (t := .clo _ _) ?_ | refine WD.ixm' (E := env) ?_ | refine WD.ixo' (E := env) ?_ | refine WD.legm' (E := env) ?_ | refine WD.slS' (E := env) ?_ | refine WD.slD' (E := env) ?_ | refine WG.cq (E := env) [0] [0] false rfl rfl (h1) rfl rfl rfl rfl rfl rfl rfl (by first | exact trivial | exact ⟨rfl, trivial⟩ | exact ⟨rfl, rfl, trivial⟩) (.inl rfl) rfl (fun h => nomatch h) rfl rfl ?_ | refine WG.cqx (E := env) [0] [0] false rfl (h1) rfl rfl rfl rfl rfl rfl rfl (by first | exact trivial | exact ⟨rfl, trivial⟩ | exact ⟨rfl, rfl, trivial⟩) (.inl rfl) rfl (fun h => nomatch h) rfl ?_ | refine WG.c (E := env) rfl rfl (h2) rfl rfl ?_ | refine WD.c (E := env) rfl rfl (h2) rfl rfl ?_ | refine WG.co (E := env) rfl rfl (h2) rfl rfl rfl rfl ?_ | refine WG.cx (E := env) rfl (h2) rfl ?_ | refine WG.c (E := env) rfl rfl (he) rfl rfl ?_ | refine WD.c (E := env) rfl rfl (he) rfl rfl ?_ | refine WG.co (E := env) rfl rfl (he) rfl rfl rfl rfl ?_ | refine WG.cx (E := env) rfl (he) rfl ?_ | ((first | refine WG.sp' (fun h => ?_) fun h => ?_ | refine W.cond' (fun h => ?_) fun h => ?_ | refine WD.sp' (fun h => ?_) fun h => ?_) <;> (try simp only [decide_eq_true_eq, decide_eq_false_iff_not, Bool.not_eq_true', Bool.not_eq_false', Bool.and_eq_true, Bool.or_eq_true, Bool.and_eq_false_iff, Bool.or_eq_false_iff, Bool.not_eq_true, Bool.not_eq_false, Int.not_lt, Int.not_le, List.length_map, beq_self_eq_true, Bool.true_eq_false, Bool.false_eq_true] at h) <;> (try (exfalso; first | contradiction | omega))))
    all_goals first | (exfalso; omega) | skip
    all_goals (refine W.ret ?_; exact RetR.own (ob' := [.x (gvX gER u) 0]) ⟨[0], [0], 3⟩ (.inl rfl) rfl (by first | trivial | exact resOK_of (E := env) rfl) rfl rfl rfl rfl rfl rfl ⟨rfl, trivial⟩ rfl ⟨rfl, rfl⟩)

theorem lawDecodeNumber (u : Value) (hu : u = .nilIface ∨ ∃ te pe, u = .iface te pe) (xs : List D) (h : wfAs env.P [9] xs) : FunQ env.P 3 (xs.map .d) [.x (gvX gER u) 0] (just (.d (dB true)) [.x (gvX gER u) 0]) := by
  match xs, h with
  | [x], ⟨h, _⟩ =>
    obtain ⟨s, _, rfl⟩ := wfA_s (by kernel_rfl) h
    exact lawDecodeNumber_fn s u hu

end Go.Proofs.YtgdedcbijgeodaaDoor
