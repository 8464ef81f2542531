/-
  The laws of TokenText and JoinTokens, walked. Conditions: the table of powers of ten is lent.
-/
import Derived.Test.YtfmhfdegkpbeiaaGreatDoorTk3
import Derived.Test.YtfmhfdegkpbeiaaGreatDoorTd1
set_option linter.unusedVariables false
set_option linter.unusedSimpArgs false
set_option maxRecDepth 100000
namespace Go.Proofs.YtfmhfdegkpbeiaaGreatDoor
open Go.RowKit

set_option maxHeartbeats 4000000 in
theorem lawTokenText_fn (q : TypeId × (Nat × Nat)) (t : Tk) (hc : t.fit) : FunQ env.P 3 [.d (.agg t.row)] [tabO q] (just (.d (dB true)) [tabO q]) := by
  have hz := szToken_fn t 1048576 hc (by omega) (by omega)
  refine FunQ.intro Tryz.func3 rfl (by kernel_rfl) rfl ?_
  by_cases hn : szTk t 1048576 < 0
  · repeat' (first | refine W.seq ?_ | refine W.rg ?_ | refine W.dra' ?_ | refine W.block ?_ | refine W.skip ?_ | refine W.exit ?_ | refine W.cond_true' ?_ | refine W.cond_false' ?_ | refine WG.nil ?_ | refine WG.run' (E := env) ?_ | refine WG.gt' ?_ | refine WG.gf' ?_ | refine WG.ixm' (E := env) ?_ | refine WG.ixo' (E := env) ?_ | refine WG.legm' (E := env) ?_ | refine WG.slS' (E := env) ?_ | refine WG.slD' (E := env) ?_ | refine WG.ap' (E := env) ?_ | refine WD.nil ?_ | refine WD.bs' (E := env) ?_ | refine WD.s' (E := env) (t := .d _) ?_ | refine WD.p' ?_ | refine WD.px' ?_ | refine WD.s' (E := env) (t := .ea _ _) ?_ | refine WD.s' (E := env) (t := .lp _ _) ?_ | refine WD.s' (E := env) (t := .og _ _) ?_ | refine WD.s' (E := env) (t := .agg _) ?_ | refine WD.s' (E := env) (t := .tup _) ?_ | refine WD.s' (E := env) (t := .clo _ _) ?_ | refine WD.ixm' (E := env) ?_ | refine WD.ixo' (E := env) ?_ | refine WD.legm' (E := env) ?_ | refine WD.slS' (E := env) ?_ | refine WD.slD' (E := env) ?_ | refine WG.c (E := env) rfl rfl (hz) rfl rfl ?_ | refine WD.c (E := env) rfl rfl (hz) rfl rfl ?_ | refine WG.co (E := env) rfl rfl (hz) rfl rfl rfl rfl ?_ | refine WG.cx (E := env) rfl (hz) rfl ?_ | ((first | refine WG.sp' (fun h => ?_) fun h => ?_ | refine W.cond' (fun h => ?_) fun h => ?_ | refine WD.sp' (fun h => ?_) fun h => ?_) <;> (try simp only [decide_eq_true_eq, decide_eq_false_iff_not, Bool.not_eq_true', Bool.not_eq_false', Bool.and_eq_true, Bool.or_eq_true, Bool.and_eq_false_iff, Bool.or_eq_false_iff, Bool.not_eq_true, Bool.not_eq_false, Int.not_lt, Int.not_le, List.length_map, beq_self_eq_true, Bool.true_eq_false, Bool.false_eq_true] at h) <;> (try (exfalso; first | contradiction | omega))))
    all_goals first | (exfalso; omega) | skip
    (refine W.ret ?_; refine RetR.tb' ?_)
    rfl
  · have hs : t.text.size ≤ 1048576 := by unfold szTk at hn; split at hn <;> omega
    have d := toToken_fn t
    have h1 := TokenTextS_fn t hs
    have h2 := TokenText_fn q t hs
    have er := eqTextRw_fn (tokC t) (tokS t) (tokC t) (tokS t)
    rw [show (decide (tokC t = tokC t) && decide (tokS t = tokS t)) = true by simp] at er
    generalize tokC t = c at *
    generalize tokS t = s at *
    repeat' (first | refine W.seq ?_ | refine W.rg ?_ | refine W.dra' ?_ | refine W.block ?_ | refine W.skip ?_ | refine W.exit ?_ | refine W.cond_true' ?_ | refine W.cond_false' ?_ | refine WG.nil ?_ | refine WG.run' (E := env) ?_ | refine WG.gt' ?_ | refine WG.gf' ?_ | refine WG.ixm' (E := env) ?_ | refine WG.ixo' (E := env) ?_ | refine WG.legm' (E := env) ?_ | refine WG.slS' (E := env) ?_ | refine WG.slD' (E := env) ?_ | refine WG.ap' (E := env) ?_ | refine WD.nil ?_ | refine WD.bs' (E := env) ?_ | refine WD.s' (E := env) (t := .d _) ?_ | refine WD.p' ?_ | refine WD.px' ?_ | refine WD.s' (E := env) (t := .ea _ _) ?_ | refine WD.s' (E := env) (t := .lp _ _) ?_ | refine WD.s' (E := env) (t := .og _ _) ?_ | refine WD.s' (E := env) (t := .agg _) ?_ | refine WD.s' (E := env) (t := .tup _) ?_ | refine WD.s' (E := env) (t := .clo _ _) ?_ | refine WD.ixm' (E := env) ?_ | refine WD.ixo' (E := env) ?_ | refine WD.legm' (E := env) ?_ | refine WD.slS' (E := env) ?_ | refine WD.slD' (E := env) ?_ | refine WG.c (E := env) rfl rfl (hz) rfl rfl ?_ | refine WD.c (E := env) rfl rfl (hz) rfl rfl ?_ | refine WG.co (E := env) rfl rfl (hz) rfl rfl rfl rfl ?_ | refine WG.cx (E := env) rfl (hz) rfl ?_ | refine WG.c (E := env) rfl rfl (d) rfl rfl ?_ | refine WD.c (E := env) rfl rfl (d) rfl rfl ?_ | refine WG.co (E := env) rfl rfl (d) rfl rfl rfl rfl ?_ | refine WG.cx (E := env) rfl (d) rfl ?_ | refine WG.c (E := env) rfl rfl (h1) rfl rfl ?_ | refine WD.c (E := env) rfl rfl (h1) rfl rfl ?_ | refine WG.co (E := env) rfl rfl (h1) rfl rfl rfl rfl ?_ | refine WG.cx (E := env) rfl (h1) rfl ?_ | refine WG.cq (E := env) [0] [0] false rfl rfl (h2) rfl rfl rfl rfl rfl rfl rfl (by first | exact trivial | exact ⟨rfl, trivial⟩ | exact ⟨rfl, rfl, trivial⟩) (.inl rfl) rfl (fun h => nomatch h) rfl rfl ?_ | refine WG.cqx (E := env) [0] [0] false rfl (h2) rfl rfl rfl rfl rfl rfl rfl (by first | exact trivial | exact ⟨rfl, trivial⟩ | exact ⟨rfl, rfl, trivial⟩) (.inl rfl) rfl (fun h => nomatch h) rfl ?_ | refine WG.c (E := env) rfl rfl (er) rfl rfl ?_ | refine WD.c (E := env) rfl rfl (er) rfl rfl ?_ | refine WG.co (E := env) rfl rfl (er) rfl rfl rfl rfl ?_ | refine WG.cx (E := env) rfl (er) rfl ?_ | ((first | refine WG.sp' (fun h => ?_) fun h => ?_ | refine W.cond' (fun h => ?_) fun h => ?_ | refine WD.sp' (fun h => ?_) fun h => ?_) <;> (try simp only [decide_eq_true_eq, decide_eq_false_iff_not, Bool.not_eq_true', Bool.not_eq_false', Bool.and_eq_true, Bool.or_eq_true, Bool.and_eq_false_iff, Bool.or_eq_false_iff, Bool.not_eq_true, Bool.not_eq_false, Int.not_lt, Int.not_le, List.length_map, beq_self_eq_true, Bool.true_eq_false, Bool.false_eq_true] at h) <;> (try (exfalso; first | contradiction | omega))))
    all_goals first | (exfalso; omega) | skip
    all_goals (refine W.ret ?_; refine RetR.tb' ?_)
    all_goals rfl

theorem tok_nou (t : Tk) : NoU (.agg t.row) :=
  .agg _ fun x hx => by
    simp only [Tk.row, List.mem_cons, List.not_mem_nil, or_false] at hx
    rcases hx with rfl | rfl | rfl | rfl <;> exact .v _ (fun n h => by cases h)

theorem tokA_of {x : D} (h : wfA env.P 23 x) : ∃ t : Tk, t.fit ∧ x = .agg t.row := by
  obtain ⟨m, ds, rfl, hm⟩ := wfA_struct (ts := [2, 2, 2, 9]) (by kernel_rfl) (by kernel_rfl) h
  match ds, hm with
  | [a, b, c, d], ⟨h1, h2, h3, h6, _⟩ =>
    obtain ⟨i1, _, rfl⟩ := wfD_int (k := .i64) (by kernel_rfl) h1
    obtain ⟨i2, _, rfl⟩ := wfD_int (k := .i64) (by kernel_rfl) h2
    obtain ⟨i3, _, rfl⟩ := wfD_int (k := .i64) (by kernel_rfl) h3
    obtain ⟨s6, l6, rfl⟩ := wfD_str (by kernel_rfl) h6
    exact ⟨⟨i1, i2, i3, s6⟩, l6, rfl⟩

theorem lawTokenText_nou (xs : List D) (h : wfAs env.P [23] xs) : ∀ x ∈ xs, NoU x := by
  match xs, h with
  | [x0], ⟨h0, _⟩ =>
    obtain ⟨t, _, rfl⟩ := tokA_of h0
    intro x hx
    rw [List.mem_singleton] at hx
    subst hx
    exact tok_nou t
theorem lawTokenText (q : TypeId × (Nat × Nat)) (xs : List D) (h : wfAs env.P [23] xs) : FunQ env.P 3 (xs.map .d) [tabO q] (just (.d (dB true)) [tabO q]) := by
  match xs, h with
  | [x0], ⟨h0, _⟩ =>
    obtain ⟨t, hc, rfl⟩ := tokA_of h0
    exact lawTokenText_fn q t hc

set_option maxHeartbeats 4000000 in
theorem lawJoinTokens_fn (q : TypeId × (Nat × Nat)) (ts : List Tk) (hc : ∀ t ∈ ts, t.fit) (hm : ts.length ≤ maxLen) : FunQ env.P 4 [.d (toksD ts)] [tabO q] (just (.d (dB true)) [tabO q]) := by
  have hz := szTokenS_fn ts 1048576 hc hm (by omega) (by omega)
  refine FunQ.intro Tryz.func4 rfl (by kernel_rfl) rfl ?_
  by_cases hn : szTs ts 1048576 < 0
  · repeat' (first | refine W.seq ?_ | refine W.rg ?_ | refine W.dra' ?_ | refine W.block ?_ | refine W.skip ?_ | refine W.exit ?_ | refine W.cond_true' ?_ | refine W.cond_false' ?_ | refine WG.nil ?_ | refine WG.run' (E := env) ?_ | refine WG.gt' ?_ | refine WG.gf' ?_ | refine WG.ixm' (E := env) ?_ | refine WG.ixo' (E := env) ?_ | refine WG.legm' (E := env) ?_ | refine WG.slS' (E := env) ?_ | refine WG.slD' (E := env) ?_ | refine WG.ap' (E := env) ?_ | refine WD.nil ?_ | refine WD.bs' (E := env) ?_ | refine WD.s' (E := env) (t := .d _) ?_ | refine WD.p' ?_ | refine WD.px' ?_ | refine WD.s' (E := env) (t := .ea _ _) ?_ | refine WD.s' (E := env) (t := .lp _ _) ?_ | refine WD.s' (E := env) (t := .og _ _) ?_ | refine WD.s' (E := env) (t := .agg _) ?_ | refine WD.s' (E := env) (t := .tup _) ?_ | refine WD.s' (E := env) (t := .clo _ _) ?_ | refine WD.ixm' (E := env) ?_ | refine WD.ixo' (E := env) ?_ | refine WD.legm' (E := env) ?_ | refine WD.slS' (E := env) ?_ | refine WD.slD' (E := env) ?_ | refine WG.c (E := env) rfl rfl (hz) rfl rfl ?_ | refine WD.c (E := env) rfl rfl (hz) rfl rfl ?_ | refine WG.co (E := env) rfl rfl (hz) rfl rfl rfl rfl ?_ | refine WG.cx (E := env) rfl (hz) rfl ?_ | ((first | refine WG.sp' (fun h => ?_) fun h => ?_ | refine W.cond' (fun h => ?_) fun h => ?_ | refine WD.sp' (fun h => ?_) fun h => ?_) <;> (try simp only [decide_eq_true_eq, decide_eq_false_iff_not, Bool.not_eq_true', Bool.not_eq_false', Bool.and_eq_true, Bool.or_eq_true, Bool.and_eq_false_iff, Bool.or_eq_false_iff, Bool.not_eq_true, Bool.not_eq_false, Int.not_lt, Int.not_le, List.length_map, beq_self_eq_true, Bool.true_eq_false, Bool.false_eq_true] at h) <;> (try (exfalso; first | contradiction | omega))))
    all_goals first | (exfalso; omega) | skip
    (refine W.ret ?_; refine RetR.tb' ?_)
    rfl
  · obtain ⟨hl, hs⟩ := szTs_ok (Int.not_lt.1 hn)
    have d := toTokenS_fn ts hl
    have h1 := JoinTokensS_fn ts hs hl
    have h2 := JoinTokens_fn q ts hs hl
    have er := eqTextRw_fn (toksC ts) (toksT ts) (toksC ts) (toksT ts)
    rw [show (decide (toksC ts = toksC ts) && decide (toksT ts = toksT ts)) = true by simp] at er
    have et := eqTokenS_fn ts ts hl
    rw [decide_eq_true rfl] at et
    generalize toksC ts = c at *
    generalize toksT ts = s at *
    repeat' (first | refine W.seq ?_ | refine W.rg ?_ | refine W.dra' ?_ | refine W.block ?_ | refine W.skip ?_ | refine W.exit ?_ | refine W.cond_true' ?_ | refine W.cond_false' ?_ | refine WG.nil ?_ | refine WG.run' (E := env) ?_ | refine WG.gt' ?_ | refine WG.gf' ?_ | refine WG.ixm' (E := env) ?_ | refine WG.ixo' (E := env) ?_ | refine WG.legm' (E := env) ?_ | refine WG.slS' (E := env) ?_ | refine WG.slD' (E := env) ?_ | refine WG.ap' (E := env) ?_ | refine WD.nil ?_ | refine WD.bs' (E := env) ?_ | refine WD.s' (E := env) (t := .d _) ?_ | refine WD.p' ?_ | refine WD.px' ?_ | refine WD.s' (E := env) (t := .ea _ _) ?_ | refine WD.s' (E := env) (t := .lp _ _) ?_ | refine WD.s' (E := env) (t := .og _ _) ?_ | refine WD.s' (E := env) (t := .agg _) ?_ | refine WD.s' (E := env) (t := .tup _) ?_ | refine WD.s' (E := env) (t := .clo _ _) ?_ | refine WD.ixm' (E := env) ?_ | refine WD.ixo' (E := env) ?_ | refine WD.legm' (E := env) ?_ | refine WD.slS' (E := env) ?_ | refine WD.slD' (E := env) ?_ | refine WG.c (E := env) rfl rfl (hz) rfl rfl ?_ | refine WD.c (E := env) rfl rfl (hz) rfl rfl ?_ | refine WG.co (E := env) rfl rfl (hz) rfl rfl rfl rfl ?_ | refine WG.cx (E := env) rfl (hz) rfl ?_ | refine WG.c (E := env) rfl rfl (d) rfl rfl ?_ | refine WD.c (E := env) rfl rfl (d) rfl rfl ?_ | refine WG.co (E := env) rfl rfl (d) rfl rfl rfl rfl ?_ | refine WG.cx (E := env) rfl (d) rfl ?_ | refine WG.c (E := env) rfl rfl (h1) rfl rfl ?_ | refine WD.c (E := env) rfl rfl (h1) rfl rfl ?_ | refine WG.co (E := env) rfl rfl (h1) rfl rfl rfl rfl ?_ | refine WG.cx (E := env) rfl (h1) rfl ?_ | refine WG.cq (E := env) [0] [0] false rfl rfl (h2) rfl rfl rfl rfl rfl rfl rfl (by first | exact trivial | exact ⟨rfl, trivial⟩ | exact ⟨rfl, rfl, trivial⟩) (.inl rfl) rfl (fun h => nomatch h) rfl rfl ?_ | refine WG.cqx (E := env) [0] [0] false rfl (h2) rfl rfl rfl rfl rfl rfl rfl (by first | exact trivial | exact ⟨rfl, trivial⟩ | exact ⟨rfl, rfl, trivial⟩) (.inl rfl) rfl (fun h => nomatch h) rfl ?_ | refine WG.c (E := env) rfl rfl (er) rfl rfl ?_ | refine WD.c (E := env) rfl rfl (er) rfl rfl ?_ | refine WG.co (E := env) rfl rfl (er) rfl rfl rfl rfl ?_ | refine WG.cx (E := env) rfl (er) rfl ?_ | refine WG.c (E := env) rfl rfl (et) rfl rfl ?_ | refine WD.c (E := env) rfl rfl (et) rfl rfl ?_ | refine WG.co (E := env) rfl rfl (et) rfl rfl rfl rfl ?_ | refine WG.cx (E := env) rfl (et) rfl ?_ | ((first | refine WG.sp' (fun h => ?_) fun h => ?_ | refine W.cond' (fun h => ?_) fun h => ?_ | refine WD.sp' (fun h => ?_) fun h => ?_) <;> (try simp only [decide_eq_true_eq, decide_eq_false_iff_not, Bool.not_eq_true', Bool.not_eq_false', Bool.and_eq_true, Bool.or_eq_true, Bool.and_eq_false_iff, Bool.or_eq_false_iff, Bool.not_eq_true, Bool.not_eq_false, Int.not_lt, Int.not_le, List.length_map, beq_self_eq_true, Bool.true_eq_false, Bool.false_eq_true] at h) <;> (try (exfalso; first | contradiction | omega))))
    all_goals first | (exfalso; omega) | skip
    all_goals (refine W.ret ?_; refine RetR.tb' ?_)
    all_goals rfl

theorem toks_nou (ts : List Tk) : NoU (toksD ts) :=
  .sl _ _ fun r hr x hx => by
    obtain ⟨t, _, rfl⟩ := List.mem_map.1 hr
    simp only [Tk.row, List.mem_cons, List.not_mem_nil, or_false] at hx
    rcases hx with rfl | rfl | rfl | rfl <;> exact .v _ (fun n h => by cases h)
theorem lawJoinTokens_nou (xs : List D) (h : wfAs env.P [32] xs) : ∀ x ∈ xs, NoU x := by
  match xs, h with
  | [x0], ⟨h0, _⟩ =>
    obtain ⟨ts, _, _, rfl⟩ := toks_of h0
    intro x hx
    rw [List.mem_singleton] at hx
    subst hx
    exact toks_nou ts
theorem lawJoinTokens (q : TypeId × (Nat × Nat)) (xs : List D) (h : wfAs env.P [32] xs) : FunQ env.P 4 (xs.map .d) [tabO q] (just (.d (dB true)) [tabO q]) := by
  match xs, h with
  | [x0], ⟨h0, _⟩ =>
    obtain ⟨ts, hc, hm, rfl⟩ := toks_of h0
    exact lawJoinTokens_fn q ts hc hm

end Go.Proofs.YtfmhfdegkpbeiaaGreatDoor
