/-
  The laws of EncodeValue and EncodeAll, walked. Conditions: the table of powers of ten is lent.
-/
import Derived.Test.YtfmhfdegkpbeiaaGreatDoorEn5
import Derived.Test.YtfmhfdegkpbeiaaGreatDoorTd1
set_option linter.unusedVariables false
set_option linter.unusedSimpArgs false
set_option maxRecDepth 100000
namespace Go.Proofs.YtfmhfdegkpbeiaaGreatDoor
open Go.RowKit

theorem cell_nou (c : Cell) : ∀ x ∈ c.row, NoU x := fun x hx => by
  simp only [Cell.row, List.mem_cons, List.not_mem_nil, or_false] at hx
  rcases hx with rfl | rfl | rfl | rfl | rfl <;> exact .v _ (fun n h => by cases h)
theorem cells_nou (cs : List Cell) : NoU (cellsD cs) :=
  .sl _ _ fun r hr x hx => by
    obtain ⟨c, _, rfl⟩ := List.mem_map.1 hr
    exact cell_nou c x hx
theorem cellss_nou (ls : List (List Cell)) : NoU (cellssD ls) :=
  .sl _ _ fun r hr x hx => by
    obtain ⟨cs, _, rfl⟩ := List.mem_map.1 hr
    simp only [cellsR, List.mem_cons, List.not_mem_nil, or_false] at hx
    subst hx
    exact cells_nou cs

theorem szSS_okT {xs : List (List Cell)} (h : 0 ≤ szSl szS xs 1048576) : xs.length ≤ 1048576 ∧ ∀ x ∈ xs, (∀ c ∈ x, c.text.size ≤ 1048576 ∧ c.key.size ≤ 1048576) ∧ x.length ≤ 1048576 := by
  obtain ⟨h1, h2⟩ := szSl_each szS_ok2 _ _ h
  refine ⟨by omega, fun x hx => ?_⟩
  obtain ⟨l', h3, h4, h5⟩ := h2 x hx
  unfold szS at h5
  split at h5
  · omega
  · exact ⟨szL_text x _ h5 (by omega), by omega⟩
theorem cellss_ofT {x : D} (h : wfA env.P 46 x) : ∃ xs : List (List Cell), (∀ c ∈ xs, fitS c) ∧ xs.length ≤ maxLen ∧ x = cellssD xs := by
  obtain ⟨rows, rfl, hm, m, hr⟩ := wfA_sl (e := 39) (by kernel_rfl) h
  have e1 : env.P.cellsOf 39 = 1 := by kernel_rfl
  obtain ⟨cs, rfl, hcs⟩ := rows_map (f := cellsR) (p := fitS) fun r hmem => by
    obtain ⟨hl, hw⟩ := hr r hmem
    rw [e1] at hl
    match r, hl, hw with
    | [y], _, hw =>
      obtain ⟨rows, rfl, hm, m, hr⟩ := wfD_sl (e := 78) (by kernel_rfl) hw
      obtain ⟨cs, rfl, hcs⟩ := rows_map fun r hmem => cell_of (hr r hmem).2
      rw [show env.P.cellsOf 78 = 5 by kernel_rfl]
      exact ⟨cs, ⟨hcs, by simpa using hm⟩, rfl⟩
  rw [e1]
  exact ⟨cs, hcs, by simpa using hm, rfl⟩

set_option maxHeartbeats 4000000 in
theorem lawEncodeValue_fn (q : TypeId × (Nat × Nat)) (cs : List Cell) (hc : ∀ c ∈ cs, c.fit) (hm : cs.length ≤ maxLen) : FunQ env.P 5 [.d (cellsD cs)] [tabO q] (just (.d (dB true)) [tabO q]) := by
  have hz := szCellS_fn cs 1048576 hc hm (by omega) (by omega)
  refine FunQ.intro Tryz.func5 rfl (by kernel_rfl) rfl ?_
  by_cases hn : szS cs 1048576 < 0
  · repeat' (first | refine W.seq ?_ | refine W.rg ?_ | refine W.dra' ?_ | refine W.block ?_ | refine W.skip ?_ | refine W.exit ?_ | refine W.cond_true' ?_ | refine W.cond_false' ?_ | refine WG.nil ?_ | refine WG.run' (E := env) ?_ | refine WG.gt' ?_ | refine WG.gf' ?_ | refine WG.ixm' (E := env) ?_ | refine WG.ixo' (E := env) ?_ | refine WG.legm' (E := env) ?_ | refine WG.slS' (E := env) ?_ | refine WG.slD' (E := env) ?_ | refine WG.ap' (E := env) ?_ | refine WD.nil ?_ | refine WD.bs' (E := env) ?_ | refine WD.s' (E := env) (t := .d _) ?_ | refine WD.p' ?_ | refine WD.px' ?_ | refine WD.s' (E := env) (t := .ea _ _) ?_ | refine WD.s' (E := env) (t := .lp _ _) ?_ | refine WD.s' (E := env) (t := .og _ _) ?_ | refine WD.s' (E := env) (t := .agg _) ?_ | refine WD.s' (E := env) (t := .tup _) ?_ | refine WD.s' (E := env) (t := .clo _ _) ?_ | refine WD.ixm' (E := env) ?_ | refine WD.ixo' (E := env) ?_ | refine WD.legm' (E := env) ?_ | refine WD.slS' (E := env) ?_ | refine WD.slD' (E := env) ?_ | refine WG.c (E := env) rfl rfl (hz) rfl rfl ?_ | refine WD.c (E := env) rfl rfl (hz) rfl rfl ?_ | refine WG.co (E := env) rfl rfl (hz) rfl rfl rfl rfl ?_ | refine WG.cx (E := env) rfl (hz) rfl ?_ | ((first | refine WG.sp' (fun h => ?_) fun h => ?_ | refine W.cond' (fun h => ?_) fun h => ?_ | refine WD.sp' (fun h => ?_) fun h => ?_) <;> (try simp only [decide_eq_true_eq, decide_eq_false_iff_not, Bool.not_eq_true', Bool.not_eq_false', Bool.and_eq_true, Bool.or_eq_true, Bool.and_eq_false_iff, Bool.or_eq_false_iff, Bool.not_eq_true, Bool.not_eq_false, Int.not_lt, Int.not_le, List.length_map, beq_self_eq_true, Bool.true_eq_false, Bool.false_eq_true] at h) <;> (try (exfalso; first | contradiction | omega))))
    all_goals first | (exfalso; omega) | skip
    (refine W.ret ?_; refine RetR.tb' ?_)
    rfl
  · obtain ⟨hl, ht⟩ := szS_ok (Int.not_lt.1 hn)
    have d := toCellS_fn cs hl
    have h1 := EncodeValueS_fn cs ⟨ht, hl⟩
    have h2 := EncodeValue_fn q cs ⟨ht, hl⟩
    have er := eqTextRw_fn ((valOfM cs).2) (encR cs) ((valOfM cs).2) (encR cs)
    rw [show (decide (((valOfM cs).2) = ((valOfM cs).2)) && decide ((encR cs) = (encR cs))) = true by simp] at er
    have et := eqCellS_fn cs cs hl
    rw [decide_eq_true rfl] at et
    generalize (valOfM cs).2 = c at *
    generalize encR cs = s at *
    repeat' (first | refine W.seq ?_ | refine W.rg ?_ | refine W.dra' ?_ | refine W.block ?_ | refine W.skip ?_ | refine W.exit ?_ | refine W.cond_true' ?_ | refine W.cond_false' ?_ | refine WG.nil ?_ | refine WG.run' (E := env) ?_ | refine WG.gt' ?_ | refine WG.gf' ?_ | refine WG.ixm' (E := env) ?_ | refine WG.ixo' (E := env) ?_ | refine WG.legm' (E := env) ?_ | refine WG.slS' (E := env) ?_ | refine WG.slD' (E := env) ?_ | refine WG.ap' (E := env) ?_ | refine WD.nil ?_ | refine WD.bs' (E := env) ?_ | refine WD.s' (E := env) (t := .d _) ?_ | refine WD.p' ?_ | refine WD.px' ?_ | refine WD.s' (E := env) (t := .ea _ _) ?_ | refine WD.s' (E := env) (t := .lp _ _) ?_ | refine WD.s' (E := env) (t := .og _ _) ?_ | refine WD.s' (E := env) (t := .agg _) ?_ | refine WD.s' (E := env) (t := .tup _) ?_ | refine WD.s' (E := env) (t := .clo _ _) ?_ | refine WD.ixm' (E := env) ?_ | refine WD.ixo' (E := env) ?_ | refine WD.legm' (E := env) ?_ | refine WD.slS' (E := env) ?_ | refine WD.slD' (E := env) ?_ | refine WG.c (E := env) rfl rfl (hz) rfl rfl ?_ | refine WD.c (E := env) rfl rfl (hz) rfl rfl ?_ | refine WG.co (E := env) rfl rfl (hz) rfl rfl rfl rfl ?_ | refine WG.cx (E := env) rfl (hz) rfl ?_ | refine WG.c (E := env) rfl rfl (d) rfl rfl ?_ | refine WD.c (E := env) rfl rfl (d) rfl rfl ?_ | refine WG.co (E := env) rfl rfl (d) rfl rfl rfl rfl ?_ | refine WG.cx (E := env) rfl (d) rfl ?_ | refine WG.c (E := env) rfl rfl (h1) rfl rfl ?_ | refine WD.c (E := env) rfl rfl (h1) rfl rfl ?_ | refine WG.co (E := env) rfl rfl (h1) rfl rfl rfl rfl ?_ | refine WG.cx (E := env) rfl (h1) rfl ?_ | refine WG.cq (E := env) [0] [0] false rfl rfl (h2) rfl rfl rfl rfl rfl rfl rfl (by first | exact trivial | exact ⟨rfl, trivial⟩ | exact ⟨rfl, rfl, trivial⟩) (.inl rfl) rfl (fun h => nomatch h) rfl rfl ?_ | refine WG.cqx (E := env) [0] [0] false rfl (h2) rfl rfl rfl rfl rfl rfl rfl (by first | exact trivial | exact ⟨rfl, trivial⟩ | exact ⟨rfl, rfl, trivial⟩) (.inl rfl) rfl (fun h => nomatch h) rfl ?_ | refine WG.c (E := env) rfl rfl (er) rfl rfl ?_ | refine WD.c (E := env) rfl rfl (er) rfl rfl ?_ | refine WG.co (E := env) rfl rfl (er) rfl rfl rfl rfl ?_ | refine WG.cx (E := env) rfl (er) rfl ?_ | refine WG.c (E := env) rfl rfl (et) rfl rfl ?_ | refine WD.c (E := env) rfl rfl (et) rfl rfl ?_ | refine WG.co (E := env) rfl rfl (et) rfl rfl rfl rfl ?_ | refine WG.cx (E := env) rfl (et) rfl ?_ | ((first | refine WG.sp' (fun h => ?_) fun h => ?_ | refine W.cond' (fun h => ?_) fun h => ?_ | refine WD.sp' (fun h => ?_) fun h => ?_) <;> (try simp only [decide_eq_true_eq, decide_eq_false_iff_not, Bool.not_eq_true', Bool.not_eq_false', Bool.and_eq_true, Bool.or_eq_true, Bool.and_eq_false_iff, Bool.or_eq_false_iff, Bool.not_eq_true, Bool.not_eq_false, Int.not_lt, Int.not_le, List.length_map, beq_self_eq_true, Bool.true_eq_false, Bool.false_eq_true] at h) <;> (try (exfalso; first | contradiction | omega))))
    all_goals first | (exfalso; omega) | skip
    all_goals (refine W.ret ?_; refine RetR.tb' ?_)
    all_goals rfl

theorem lawEncodeValue_nou (xs : List D) (h : wfAs env.P [39] xs) : ∀ x ∈ xs, NoU x := by
  match xs, h with
  | [x0], ⟨h0, _⟩ =>
    obtain ⟨cs, _, _, rfl⟩ := cells_of h0
    intro x hx
    rw [List.mem_singleton] at hx
    subst hx
    exact cells_nou cs
theorem lawEncodeValue (q : TypeId × (Nat × Nat)) (xs : List D) (h : wfAs env.P [39] xs) : FunQ env.P 5 (xs.map .d) [tabO q] (just (.d (dB true)) [tabO q]) := by
  match xs, h with
  | [x0], ⟨h0, _⟩ =>
    obtain ⟨cs, hc, hm, rfl⟩ := cells_of h0
    exact lawEncodeValue_fn q cs hc hm


set_option maxHeartbeats 4000000 in
theorem lawEncodeAll_fn (q : TypeId × (Nat × Nat)) (ls : List (List Cell)) (hc : ∀ c ∈ ls, fitS c) (hm : ls.length ≤ maxLen) : FunQ env.P 6 [.d (cellssD ls)] [tabO q] (just (.d (dB true)) [tabO q]) := by
  have hz := szCellSS_fn ls 1048576 hc hm (by omega) (by omega)
  refine FunQ.intro Tryz.func6 rfl (by kernel_rfl) rfl ?_
  by_cases hn : szSl szS ls 1048576 < 0
  · repeat' (first | refine W.seq ?_ | refine W.rg ?_ | refine W.dra' ?_ | refine W.block ?_ | refine W.skip ?_ | refine W.exit ?_ | refine W.cond_true' ?_ | refine W.cond_false' ?_ | refine WG.nil ?_ | refine WG.run' (E := env) ?_ | refine WG.gt' ?_ | refine WG.gf' ?_ | refine WG.ixm' (E := env) ?_ | refine WG.ixo' (E := env) ?_ | refine WG.legm' (E := env) ?_ | refine WG.slS' (E := env) ?_ | refine WG.slD' (E := env) ?_ | refine WG.ap' (E := env) ?_ | refine WD.nil ?_ | refine WD.bs' (E := env) ?_ | refine WD.s' (E := env) (t := .d _) ?_ | refine WD.p' ?_ | refine WD.px' ?_ | refine WD.s' (E := env) (t := .ea _ _) ?_ | refine WD.s' (E := env) (t := .lp _ _) ?_ | refine WD.s' (E := env) (t := .og _ _) ?_ | refine WD.s' (E := env) (t := .agg _) ?_ | refine WD.s' (E := env) (t := .tup _) ?_ | refine WD.s' (E := env) (t := .clo _ _) ?_ | refine WD.ixm' (E := env) ?_ | refine WD.ixo' (E := env) ?_ | refine WD.legm' (E := env) ?_ | refine WD.slS' (E := env) ?_ | refine WD.slD' (E := env) ?_ | refine WG.c (E := env) rfl rfl (hz) rfl rfl ?_ | refine WD.c (E := env) rfl rfl (hz) rfl rfl ?_ | refine WG.co (E := env) rfl rfl (hz) rfl rfl rfl rfl ?_ | refine WG.cx (E := env) rfl (hz) rfl ?_ | ((first | refine WG.sp' (fun h => ?_) fun h => ?_ | refine W.cond' (fun h => ?_) fun h => ?_ | refine WD.sp' (fun h => ?_) fun h => ?_) <;> (try simp only [decide_eq_true_eq, decide_eq_false_iff_not, Bool.not_eq_true', Bool.not_eq_false', Bool.and_eq_true, Bool.or_eq_true, Bool.and_eq_false_iff, Bool.or_eq_false_iff, Bool.not_eq_true, Bool.not_eq_false, Int.not_lt, Int.not_le, List.length_map, beq_self_eq_true, Bool.true_eq_false, Bool.false_eq_true] at h) <;> (try (exfalso; first | contradiction | omega))))
    all_goals first | (exfalso; omega) | skip
    (refine W.ret ?_; refine RetR.tb' ?_)
    rfl
  · obtain ⟨hl, ht⟩ := szSS_okT (Int.not_lt.1 hn)
    have d := toCellSS_fn ls hl (fun x hx => (ht x hx).2)
    have h1 := EncodeAllS_fn ls ⟨ht, hl⟩
    have h2 := EncodeAll_fn q ls ⟨ht, hl⟩
    have er := eqTextRw_fn (allC ls) (allR ls) (allC ls) (allR ls)
    rw [show (decide ((allC ls) = (allC ls)) && decide ((allR ls) = (allR ls))) = true by simp] at er
    have et := eqCellSS_fn ls ls hl (fun x hx => (ht x hx).2)
    rw [decide_eq_true rfl] at et
    generalize allC ls = c at *
    generalize allR ls = s at *
    repeat' (first | refine W.seq ?_ | refine W.rg ?_ | refine W.dra' ?_ | refine W.block ?_ | refine W.skip ?_ | refine W.exit ?_ | refine W.cond_true' ?_ | refine W.cond_false' ?_ | refine WG.nil ?_ | refine WG.run' (E := env) ?_ | refine WG.gt' ?_ | refine WG.gf' ?_ | refine WG.ixm' (E := env) ?_ | refine WG.ixo' (E := env) ?_ | refine WG.legm' (E := env) ?_ | refine WG.slS' (E := env) ?_ | refine WG.slD' (E := env) ?_ | refine WG.ap' (E := env) ?_ | refine WD.nil ?_ | refine WD.bs' (E := env) ?_ | refine WD.s' (E := env) (t := .d _) ?_ | refine WD.p' ?_ | refine WD.px' ?_ | refine WD.s' (E := env) (t := .ea _ _) ?_ | refine WD.s' (E := env) (t := .lp _ _) ?_ | refine WD.s' (E := env) (t := .og _ _) ?_ | refine WD.s' (E := env) (t := .agg _) ?_ | refine WD.s' (E := env) (t := .tup _) ?_ | refine WD.s' (E := env) (t := .clo _ _) ?_ | refine WD.ixm' (E := env) ?_ | refine WD.ixo' (E := env) ?_ | refine WD.legm' (E := env) ?_ | refine WD.slS' (E := env) ?_ | refine WD.slD' (E := env) ?_ | refine WG.c (E := env) rfl rfl (hz) rfl rfl ?_ | refine WD.c (E := env) rfl rfl (hz) rfl rfl ?_ | refine WG.co (E := env) rfl rfl (hz) rfl rfl rfl rfl ?_ | refine WG.cx (E := env) rfl (hz) rfl ?_ | refine WG.c (E := env) rfl rfl (d) rfl rfl ?_ | refine WD.c (E := env) rfl rfl (d) rfl rfl ?_ | refine WG.co (E := env) rfl rfl (d) rfl rfl rfl rfl ?_ | refine WG.cx (E := env) rfl (d) rfl ?_ | refine WG.c (E := env) rfl rfl (h1) rfl rfl ?_ | refine WD.c (E := env) rfl rfl (h1) rfl rfl ?_ | refine WG.co (E := env) rfl rfl (h1) rfl rfl rfl rfl ?_ | refine WG.cx (E := env) rfl (h1) rfl ?_ | refine WG.cq (E := env) [0] [0] false rfl rfl (h2) rfl rfl rfl rfl rfl rfl rfl (by first | exact trivial | exact ⟨rfl, trivial⟩ | exact ⟨rfl, rfl, trivial⟩) (.inl rfl) rfl (fun h => nomatch h) rfl rfl ?_ | refine WG.cqx (E := env) [0] [0] false rfl (h2) rfl rfl rfl rfl rfl rfl rfl (by first | exact trivial | exact ⟨rfl, trivial⟩ | exact ⟨rfl, rfl, trivial⟩) (.inl rfl) rfl (fun h => nomatch h) rfl ?_ | refine WG.c (E := env) rfl rfl (er) rfl rfl ?_ | refine WD.c (E := env) rfl rfl (er) rfl rfl ?_ | refine WG.co (E := env) rfl rfl (er) rfl rfl rfl rfl ?_ | refine WG.cx (E := env) rfl (er) rfl ?_ | refine WG.c (E := env) rfl rfl (et) rfl rfl ?_ | refine WD.c (E := env) rfl rfl (et) rfl rfl ?_ | refine WG.co (E := env) rfl rfl (et) rfl rfl rfl rfl ?_ | refine WG.cx (E := env) rfl (et) rfl ?_ | ((first | refine WG.sp' (fun h => ?_) fun h => ?_ | refine W.cond' (fun h => ?_) fun h => ?_ | refine WD.sp' (fun h => ?_) fun h => ?_) <;> (try simp only [decide_eq_true_eq, decide_eq_false_iff_not, Bool.not_eq_true', Bool.not_eq_false', Bool.and_eq_true, Bool.or_eq_true, Bool.and_eq_false_iff, Bool.or_eq_false_iff, Bool.not_eq_true, Bool.not_eq_false, Int.not_lt, Int.not_le, List.length_map, beq_self_eq_true, Bool.true_eq_false, Bool.false_eq_true] at h) <;> (try (exfalso; first | contradiction | omega))))
    all_goals first | (exfalso; omega) | skip
    all_goals (refine W.ret ?_; refine RetR.tb' ?_)
    all_goals rfl

theorem lawEncodeAll_nou (xs : List D) (h : wfAs env.P [46] xs) : ∀ x ∈ xs, NoU x := by
  match xs, h with
  | [x0], ⟨h0, _⟩ =>
    obtain ⟨ls, _, _, rfl⟩ := cellss_ofT h0
    intro x hx
    rw [List.mem_singleton] at hx
    subst hx
    exact cellss_nou ls
theorem lawEncodeAll (q : TypeId × (Nat × Nat)) (xs : List D) (h : wfAs env.P [46] xs) : FunQ env.P 6 (xs.map .d) [tabO q] (just (.d (dB true)) [tabO q]) := by
  match xs, h with
  | [x0], ⟨h0, _⟩ =>
    obtain ⟨ls, hc, hm, rfl⟩ := cellss_ofT h0
    exact lawEncodeAll_fn q ls hc hm


end Go.Proofs.YtfmhfdegkpbeiaaGreatDoor
