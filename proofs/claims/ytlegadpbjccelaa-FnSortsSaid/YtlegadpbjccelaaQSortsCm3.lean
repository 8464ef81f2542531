/-
  The reference's way of comparing values: parts, keys, comparison; what both ways give. Conditions: none.
-/
import Derived.Test.YtlegadpbjccelaaQSortsCm2
import Derived.Test.YtlegadpbjccelaaQSortsG8
set_option linter.unusedVariables false
set_option linter.unusedSimpArgs false
set_option maxRecDepth 100000
namespace Go.Proofs.Ytlegadpbjccelaa
open Go.RowKit

/-- A value that cells may be. -/
def V.fine (v : V) : Prop := v.good ∧ v.count ≤ 200 ∧ v.depth ≤ 20

theorem valOfM_fine {cs : List Cell} (h : (valOfM cs).2 = 0) : (valOfM cs).1.fine ∧ cs = (valOfM cs).1.cells := by
  obtain ⟨h1, h2, h3, h4, _⟩ := valOfM_cells h
  exact ⟨⟨h1, h3, h4⟩, h2⟩

theorem V.fine_val {v : V} (h : v.fine) : valOfM v.cells = (v, 0) := by
  rw [valOfM_good v h.1 h.2.1, if_neg (by have := h.2.2; omega)]

theorem V.depths_mem {l : List V} : ∀ v ∈ l, v.depth ≤ V.depths l := by
  induction l with
  | nil => intro v h; cases h
  | cons x r ih =>
    intro v h
    simp only [V.depths]
    rcases List.mem_cons.1 h with rfl | h
    · omega
    · have := ih v h; omega

theorem V.good_kids {v : V} (h : v.good) : V.goods v.kids := by
  cases v; exact h.2.2.2.2.2.2.2.2.2.2

theorem V.fine_kids {v : V} (h : v.fine) : ∀ w ∈ v.kids, w.fine ∧ w.count < v.count := by
  intro w hw
  have h1 := V.counts_ge w hw
  have h2 := V.depths_mem w hw
  have h3 := V.count_eq v
  have h4 : v.depth = V.depths v.kids + 1 := by cases v; rfl
  obtain ⟨g1, g2, g3⟩ := h
  exact ⟨⟨V.goods_mem (V.good_kids g1) w hw, by omega, by omega⟩, by omega⟩

/-- The first cell of a value's cells. -/
theorem V.cells_cons (v : V) : ∃ r, v.cells = ⟨v.kind, v.num, v.text, noS, (v.kids.length : Int)⟩ :: r := by
  cases v; exact ⟨_, rfl⟩

theorem V.headC_cellsK (v : V) (key : ByteArray) : headC (v.cellsK key) = v.cells := by cases v; rfl

theorem part_kid {v : V} (h : v.fine) {j : Nat} (hj : j < v.kids.length) :
    headC (subC v.cells (v.at 0 j)) = (v.kids.getD j default).cells ∧ (v.cells.getD (v.at 0 j) default).key = v.keys.getD j noS ∧ v.at 0 j < v.cells.length := by
  have h0 : (valOfM v.cells).2 = 0 := by rw [V.fine_val h]
  have hv := V.valA_cells v h.1
  obtain ⟨h1, h2, h3, h4⟩ := kid_at (valOfM_codes h0) hv hj
  obtain ⟨he, hl⟩ := endM_kid h0 hv hj
  refine ⟨?_, h2, hl⟩
  have : subC v.cells (v.at 0 j) = cut v.cells (v.at 0 j) (v.at 0 (j + 1)) := by unfold subC cut; rw [he]
  rw [this, h3, V.headC_cellsK]

abbrev partR (v : V) : List D := [cellsD v.cells]
def V.keysL (v : V) (n : Nat) : List ByteArray := (List.range n).map fun i => v.keys.getD i noS
theorem V.keysL_succ (v : V) (n : Nat) : v.keysL (n + 1) = v.keysL n ++ [v.keys.getD n noS] := by simp [V.keysL, List.range_succ]

theorem V.children_fn (v : V) (h : v.fine) : Fun env.P 176 [cellsD v.cells, dI 0] (.d (.sl 1 ((v.ats 0 v.kids.length).map intRow))) [] := by
  have h0 : (valOfM v.cells).2 = 0 := by rw [V.fine_val h]
  exact FunQ.pubG (l1Children_fn v.cells h0 0 v v.count (V.valA_cells v h.1))

set_option maxHeartbeats 1000000 in
theorem l1Parts_fn (v : V) (h : v.fine) : Fun env.P 96 [cellsD v.cells] (.og 0 0) [.gr 1 24 (v.kids.map partR) 0 false] := by
  have h0 : (valOfM v.cells).2 = 0 := by rw [V.fine_val h]
  have hch := V.children_fn v h
  have hlen := V.ats_length v 0 v.kids.length
  have hcl : v.cells.length ≤ 200 := (valOfM_kind h0).2.2.1
  have hkl : v.kids.length ≤ 200 := by have := kids_le h0 (V.valA_cells v h.1); omega
  refine Fun.intro Try.func96 rfl (by kernel_rfl) rfl ?_
  repeat' (first | refine W.seq ?_ | refine W.rg ?_ | refine W.dra' ?_ | refine W.block ?_ | refine W.skip ?_ | refine W.exit ?_ | refine W.cond_true' ?_ | refine W.cond_false' ?_ | refine WG.nil ?_ | refine WG.run' (E := env) ?_ | refine WG.gt' ?_ | refine WG.gf' ?_ | refine WG.ixm' (E := env) ?_ | refine WG.ixo' (E := env) ?_ | refine WG.legm' (E := env) ?_ | refine WG.slS' (E := env) ?_ | refine WG.slD' (E := env) ?_ | refine WG.ap' (E := env) ?_ | refine WD.nil ?_ | refine WD.bs' (E := env) ?_ | refine WD.s' (E := env) (t := .d _) ?_ | refine WD.p' ?_ | refine WD.px' ?_ | refine WD.s' (E := env) (t := .ea _ _) ?_ | refine WD.s' (E := env) (t := .lp _ _) ?_ | refine WD.s' (E := env) (t := .og _ _) ?_ | refine WD.s' (E := env) (t := .agg _) ?_ | refine WD.s' (E := env) (t := .tup _) ?_ | refine WD.s' (E := env) (t := .clo _ _) ?_ | refine WD.ixm' (E := env) ?_ | refine WD.ixo' (E := env) ?_ | refine WD.legm' (E := env) ?_ | refine WD.slS' (E := env) ?_ | refine WD.slD' (E := env) ?_ | refine WG.c (E := env) rfl rfl (hch) rfl rfl ?_ | refine WD.c (E := env) rfl rfl (hch) rfl rfl ?_ | refine WG.co (E := env) rfl rfl (hch) rfl rfl rfl rfl ?_ | refine WG.cx (E := env) rfl (hch) rfl ?_ | ((first | refine WG.sp' (fun h => ?_) fun h => ?_ | refine W.cond' (fun h => ?_) fun h => ?_ | refine WD.sp' (fun h => ?_) fun h => ?_) <;> (try simp only [decide_eq_true_eq, decide_eq_false_iff_not, Bool.not_eq_true', Bool.not_eq_false', Bool.and_eq_true, Bool.or_eq_true, Bool.and_eq_false_iff, Bool.or_eq_false_iff, Bool.not_eq_true, Bool.not_eq_false, Int.not_lt, Int.not_le, List.length_map, beq_self_eq_true, Bool.true_eq_false, Bool.false_eq_true] at h) <;> (try (exfalso; first | contradiction | omega))))
  refine W.loopI (fun m S => ∃ (i : Nat) (rv : List (List D)), m = v.kids.length - i ∧ (i ≤ v.kids.length ∧ rv = (v.kids.take i).map partR) ∧
    S = ⟨ofL [(0, .d (cellsD v.cells)), (3, .og 0 0), (4, .d (.sl 1 ((v.ats 0 v.kids.length).map intRow))), (5, vI .i64 i)], [.gr 1 24 rv 0 false]⟩) _ _ ⟨0, [], rfl, ⟨by omega, rfl⟩, rfl⟩ (St.imp.of_le (by (refine le_ofL rfl ?_ ?_ <;> (repeat (first | exact trivial | refine ⟨⟨rfl, rfl⟩, ?_⟩ | refine ⟨rfl, .inl rfl, ?_⟩ | refine ⟨rfl, .inr rfl, ?_⟩))))) ?_
  rintro m S ⟨i, rv, rfl, ⟨hi, hrv⟩, rfl⟩
  have hrl : rv.length = i := by rw [hrv, List.length_map, List.length_take]; omega
  by_cases hlt : i < v.kids.length
  · obtain ⟨hp1, hp2, hp3⟩ := part_kid h hlt
    have hpart := FunQ.pubG (l1PartS_fn v.cells (v.at 0 i) hp3 h0)
    rw [hp1] at hpart
    have hat : (v.ats 0 v.kids.length).getD (Int.toNat (i : Int)) default = ((v.at 0 i : Nat) : Int) := by rw [Int.toNat_natCast]; exact V.ats_at v 0 _ i hlt
    rw [← hat] at hpart
    repeat' (first | refine W.seq ?_ | refine W.rg ?_ | refine W.dra' ?_ | refine W.block ?_ | refine W.skip ?_ | refine W.exit ?_ | refine W.cond_true' ?_ | refine W.cond_false' ?_ | refine WG.nil ?_ | refine WG.run' (E := env) ?_ | refine WG.gt' ?_ | refine WG.gf' ?_ | refine WG.ixm' (E := env) ?_ | refine WG.ixo' (E := env) ?_ | refine WG.legm' (E := env) ?_ | refine WG.slS' (E := env) ?_ | refine WG.slD' (E := env) ?_ | refine WG.ap' (E := env) ?_ | refine WD.nil ?_ | refine WD.bs' (E := env) ?_ | refine WD.s' (E := env) (t := .d _) ?_ | refine WD.p' ?_ | refine WD.px' ?_ | refine WD.s' (E := env) (t := .ea _ _) ?_ | refine WD.s' (E := env) (t := .lp _ _) ?_ | refine WD.s' (E := env) (t := .og _ _) ?_ | refine WD.s' (E := env) (t := .agg _) ?_ | refine WD.s' (E := env) (t := .tup _) ?_ | refine WD.s' (E := env) (t := .clo _ _) ?_ | refine WD.ixm' (E := env) ?_ | refine WD.ixo' (E := env) ?_ | refine WD.legm' (E := env) ?_ | refine WD.slS' (E := env) ?_ | refine WD.slD' (E := env) ?_ | refine WG.c (E := env) rfl rfl (hpart) rfl rfl ?_ | refine WD.c (E := env) rfl rfl (hpart) rfl rfl ?_ | refine WG.co (E := env) rfl rfl (hpart) rfl rfl rfl rfl ?_ | refine WG.cx (E := env) rfl (hpart) rfl ?_ | ((first | refine WG.sp' (fun h => ?_) fun h => ?_ | refine W.cond' (fun h => ?_) fun h => ?_ | refine WD.sp' (fun h => ?_) fun h => ?_) <;> (try simp only [decide_eq_true_eq, decide_eq_false_iff_not, Bool.not_eq_true', Bool.not_eq_false', Bool.and_eq_true, Bool.or_eq_true, Bool.and_eq_false_iff, Bool.or_eq_false_iff, Bool.not_eq_true, Bool.not_eq_false, Int.not_lt, Int.not_le, List.length_map, beq_self_eq_true, Bool.true_eq_false, Bool.false_eq_true] at h) <;> (try (exfalso; first | contradiction | omega))))
    refine ⟨_, _, by omega, ⟨i + 1, _, rfl, ⟨by omega, ?_⟩, rfl⟩, (St.imp.rev 0 1 rfl).trans (St.imp.of_le (by (refine le_ofL rfl ?_ ?_ <;> (repeat (first | exact trivial | refine ⟨⟨rfl, rfl⟩, ?_⟩ | refine ⟨rfl, .inl rfl, ?_⟩ | refine ⟨rfl, .inr rfl, ?_⟩)))))⟩
    rw [take_step hlt, List.map_append, ← hrv]
    rfl
  · obtain rfl : i = v.kids.length := by omega
    repeat' (first | refine W.seq ?_ | refine W.rg ?_ | refine W.dra' ?_ | refine W.block ?_ | refine W.skip ?_ | refine W.exit ?_ | refine W.cond_true' ?_ | refine W.cond_false' ?_ | refine WG.nil ?_ | refine WG.run' (E := env) ?_ | refine WG.gt' ?_ | refine WG.gf' ?_ | refine WG.ixm' (E := env) ?_ | refine WG.ixo' (E := env) ?_ | refine WG.legm' (E := env) ?_ | refine WG.slS' (E := env) ?_ | refine WG.slD' (E := env) ?_ | refine WG.ap' (E := env) ?_ | refine WD.nil ?_ | refine WD.bs' (E := env) ?_ | refine WD.s' (E := env) (t := .d _) ?_ | refine WD.p' ?_ | refine WD.px' ?_ | refine WD.s' (E := env) (t := .ea _ _) ?_ | refine WD.s' (E := env) (t := .lp _ _) ?_ | refine WD.s' (E := env) (t := .og _ _) ?_ | refine WD.s' (E := env) (t := .agg _) ?_ | refine WD.s' (E := env) (t := .tup _) ?_ | refine WD.s' (E := env) (t := .clo _ _) ?_ | refine WD.ixm' (E := env) ?_ | refine WD.ixo' (E := env) ?_ | refine WD.legm' (E := env) ?_ | refine WD.slS' (E := env) ?_ | refine WD.slD' (E := env) ?_ | ((first | refine WG.sp' (fun h => ?_) fun h => ?_ | refine W.cond' (fun h => ?_) fun h => ?_ | refine WD.sp' (fun h => ?_) fun h => ?_) <;> (try simp only [decide_eq_true_eq, decide_eq_false_iff_not, Bool.not_eq_true', Bool.not_eq_false', Bool.and_eq_true, Bool.or_eq_true, Bool.and_eq_false_iff, Bool.or_eq_false_iff, Bool.not_eq_true, Bool.not_eq_false, Int.not_lt, Int.not_le, List.length_map, beq_self_eq_true, Bool.true_eq_false, Bool.false_eq_true] at h) <;> (try (exfalso; first | contradiction | omega))))
    (refine W.ret ?_; first | refine RetR.g' ?_ | refine RetR.ag' ?_ ?_ | refine RetR.agn' ?_ | exact RetR.gn' | refine RetR.ag3' ?_ ?_ ?_ | refine RetR.agn3' ?_ ?_)
    rw [hrv, List.take_length]

set_option maxHeartbeats 1000000 in
theorem l1Keys_fn (v : V) (h : v.fine) : Fun env.P 121 [cellsD v.cells] (.og 0 0) [.gr 1 9 ((v.keysL v.kids.length).map keyRow) 0 false] := by
  have h0 : (valOfM v.cells).2 = 0 := by rw [V.fine_val h]
  have hch := V.children_fn v h
  have hlen := V.ats_length v 0 v.kids.length
  have hcl : v.cells.length ≤ 200 := (valOfM_kind h0).2.2.1
  have hkl : v.kids.length ≤ 200 := by have := kids_le h0 (V.valA_cells v h.1); omega
  refine Fun.intro Try.func121 rfl (by kernel_rfl) rfl ?_
  repeat' (first | refine W.seq ?_ | refine W.rg ?_ | refine W.dra' ?_ | refine W.block ?_ | refine W.skip ?_ | refine W.exit ?_ | refine W.cond_true' ?_ | refine W.cond_false' ?_ | refine WG.nil ?_ | refine WG.run' (E := env) ?_ | refine WG.gt' ?_ | refine WG.gf' ?_ | refine WG.ixm' (E := env) ?_ | refine WG.ixo' (E := env) ?_ | refine WG.legm' (E := env) ?_ | refine WG.slS' (E := env) ?_ | refine WG.slD' (E := env) ?_ | refine WG.ap' (E := env) ?_ | refine WD.nil ?_ | refine WD.bs' (E := env) ?_ | refine WD.s' (E := env) (t := .d _) ?_ | refine WD.p' ?_ | refine WD.px' ?_ | refine WD.s' (E := env) (t := .ea _ _) ?_ | refine WD.s' (E := env) (t := .lp _ _) ?_ | refine WD.s' (E := env) (t := .og _ _) ?_ | refine WD.s' (E := env) (t := .agg _) ?_ | refine WD.s' (E := env) (t := .tup _) ?_ | refine WD.s' (E := env) (t := .clo _ _) ?_ | refine WD.ixm' (E := env) ?_ | refine WD.ixo' (E := env) ?_ | refine WD.legm' (E := env) ?_ | refine WD.slS' (E := env) ?_ | refine WD.slD' (E := env) ?_ | refine WG.c (E := env) rfl rfl (hch) rfl rfl ?_ | refine WD.c (E := env) rfl rfl (hch) rfl rfl ?_ | refine WG.co (E := env) rfl rfl (hch) rfl rfl rfl rfl ?_ | refine WG.cx (E := env) rfl (hch) rfl ?_ | ((first | refine WG.sp' (fun h => ?_) fun h => ?_ | refine W.cond' (fun h => ?_) fun h => ?_ | refine WD.sp' (fun h => ?_) fun h => ?_) <;> (try simp only [decide_eq_true_eq, decide_eq_false_iff_not, Bool.not_eq_true', Bool.not_eq_false', Bool.and_eq_true, Bool.or_eq_true, Bool.and_eq_false_iff, Bool.or_eq_false_iff, Bool.not_eq_true, Bool.not_eq_false, Int.not_lt, Int.not_le, List.length_map, beq_self_eq_true, Bool.true_eq_false, Bool.false_eq_true] at h) <;> (try (exfalso; first | contradiction | omega))))
  refine W.loopI (fun m S => ∃ (i : Nat) (rv : List (List D)), m = v.kids.length - i ∧ (i ≤ v.kids.length ∧ rv = (v.keysL i).map keyRow) ∧
    S = ⟨ofL [(0, .d (cellsD v.cells)), (3, .og 0 0), (4, .d (.sl 1 ((v.ats 0 v.kids.length).map intRow))), (5, vI .i64 i)], [.gr 1 9 rv 0 false]⟩) _ _ ⟨0, [], rfl, ⟨by omega, rfl⟩, rfl⟩ (St.imp.of_le (by (refine le_ofL rfl ?_ ?_ <;> (repeat (first | exact trivial | refine ⟨⟨rfl, rfl⟩, ?_⟩ | refine ⟨rfl, .inl rfl, ?_⟩ | refine ⟨rfl, .inr rfl, ?_⟩))))) ?_
  rintro m S ⟨i, rv, rfl, ⟨hi, hrv⟩, rfl⟩
  have hrl : rv.length = i := by rw [hrv, List.length_map, V.keysL, List.length_map, List.length_range]
  by_cases hlt : i < v.kids.length
  · obtain ⟨hp1, hp2, hp3⟩ := part_kid h hlt
    have hat : (v.ats 0 v.kids.length).getD (Int.toNat (i : Int)) default = ((v.at 0 i : Nat) : Int) := by rw [Int.toNat_natCast]; exact V.ats_at v 0 _ i hlt
    repeat' (first | refine W.seq ?_ | refine W.rg ?_ | refine W.dra' ?_ | refine W.block ?_ | refine W.skip ?_ | refine W.exit ?_ | refine W.cond_true' ?_ | refine W.cond_false' ?_ | refine WG.nil ?_ | refine WG.run' (E := env) ?_ | refine WG.gt' ?_ | refine WG.gf' ?_ | refine WG.ixm' (E := env) ?_ | refine WG.ixo' (E := env) ?_ | refine WG.legm' (E := env) ?_ | refine WG.slS' (E := env) ?_ | refine WG.slD' (E := env) ?_ | refine WG.ap' (E := env) ?_ | refine WD.nil ?_ | refine WD.bs' (E := env) ?_ | refine WD.s' (E := env) (t := .d _) ?_ | refine WD.p' ?_ | refine WD.px' ?_ | refine WD.s' (E := env) (t := .ea _ _) ?_ | refine WD.s' (E := env) (t := .lp _ _) ?_ | refine WD.s' (E := env) (t := .og _ _) ?_ | refine WD.s' (E := env) (t := .agg _) ?_ | refine WD.s' (E := env) (t := .tup _) ?_ | refine WD.s' (E := env) (t := .clo _ _) ?_ | refine WD.ixm' (E := env) ?_ | refine WD.ixo' (E := env) ?_ | refine WD.legm' (E := env) ?_ | refine WD.slS' (E := env) ?_ | refine WD.slD' (E := env) ?_ | ((first | refine WG.sp' (fun h => ?_) fun h => ?_ | refine W.cond' (fun h => ?_) fun h => ?_ | refine WD.sp' (fun h => ?_) fun h => ?_) <;> (try simp only [decide_eq_true_eq, decide_eq_false_iff_not, Bool.not_eq_true', Bool.not_eq_false', Bool.and_eq_true, Bool.or_eq_true, Bool.and_eq_false_iff, Bool.or_eq_false_iff, Bool.not_eq_true, Bool.not_eq_false, Int.not_lt, Int.not_le, List.length_map, beq_self_eq_true, Bool.true_eq_false, Bool.false_eq_true] at h) <;> (try (exfalso; first | contradiction | omega))))
    refine ⟨_, _, by omega, ⟨i + 1, _, rfl, ⟨by omega, ?_⟩, rfl⟩, (St.imp.rev 0 1 rfl).trans (St.imp.of_le (by (refine le_ofL rfl ?_ ?_ <;> (repeat (first | exact trivial | refine ⟨⟨rfl, rfl⟩, ?_⟩ | refine ⟨rfl, .inl rfl, ?_⟩ | refine ⟨rfl, .inr rfl, ?_⟩)))))⟩
    rw [V.keysL_succ, List.map_append, ← hrv, ← hp2, hat]
    rfl
  · obtain rfl : i = v.kids.length := by omega
    repeat' (first | refine W.seq ?_ | refine W.rg ?_ | refine W.dra' ?_ | refine W.block ?_ | refine W.skip ?_ | refine W.exit ?_ | refine W.cond_true' ?_ | refine W.cond_false' ?_ | refine WG.nil ?_ | refine WG.run' (E := env) ?_ | refine WG.gt' ?_ | refine WG.gf' ?_ | refine WG.ixm' (E := env) ?_ | refine WG.ixo' (E := env) ?_ | refine WG.legm' (E := env) ?_ | refine WG.slS' (E := env) ?_ | refine WG.slD' (E := env) ?_ | refine WG.ap' (E := env) ?_ | refine WD.nil ?_ | refine WD.bs' (E := env) ?_ | refine WD.s' (E := env) (t := .d _) ?_ | refine WD.p' ?_ | refine WD.px' ?_ | refine WD.s' (E := env) (t := .ea _ _) ?_ | refine WD.s' (E := env) (t := .lp _ _) ?_ | refine WD.s' (E := env) (t := .og _ _) ?_ | refine WD.s' (E := env) (t := .agg _) ?_ | refine WD.s' (E := env) (t := .tup _) ?_ | refine WD.s' (E := env) (t := .clo _ _) ?_ | refine WD.ixm' (E := env) ?_ | refine WD.ixo' (E := env) ?_ | refine WD.legm' (E := env) ?_ | refine WD.slS' (E := env) ?_ | refine WD.slD' (E := env) ?_ | ((first | refine WG.sp' (fun h => ?_) fun h => ?_ | refine W.cond' (fun h => ?_) fun h => ?_ | refine WD.sp' (fun h => ?_) fun h => ?_) <;> (try simp only [decide_eq_true_eq, decide_eq_false_iff_not, Bool.not_eq_true', Bool.not_eq_false', Bool.and_eq_true, Bool.or_eq_true, Bool.and_eq_false_iff, Bool.or_eq_false_iff, Bool.not_eq_true, Bool.not_eq_false, Int.not_lt, Int.not_le, List.length_map, beq_self_eq_true, Bool.true_eq_false, Bool.false_eq_true] at h) <;> (try (exfalso; first | contradiction | omega))))
    (refine W.ret ?_; first | refine RetR.g' ?_ | refine RetR.ag' ?_ ?_ | refine RetR.agn' ?_ | exact RetR.gn' | refine RetR.ag3' ?_ ?_ ?_ | refine RetR.agn3' ?_ ?_)
    exact hrv

def sign2 (a b : Bool) : Int := if a then -1 else if b then 1 else 0

theorem l1Sign_fn (a b : Bool) : Fun env.P 281 [dB a, dB b] (.d (dI (sign2 a b))) [] := by
  refine Fun.intro Try.func281 rfl (by kernel_rfl) rfl ?_
  repeat' (first | refine W.seq ?_ | refine W.rg ?_ | refine W.dra' ?_ | refine W.block ?_ | refine W.skip ?_ | refine W.exit ?_ | refine W.cond_true' ?_ | refine W.cond_false' ?_ | refine WG.nil ?_ | refine WG.run' (E := env) ?_ | refine WG.gt' ?_ | refine WG.gf' ?_ | refine WG.ixm' (E := env) ?_ | refine WG.ixo' (E := env) ?_ | refine WG.legm' (E := env) ?_ | refine WG.slS' (E := env) ?_ | refine WG.slD' (E := env) ?_ | refine WG.ap' (E := env) ?_ | refine WD.nil ?_ | refine WD.bs' (E := env) ?_ | refine WD.s' (E := env) (t := .d _) ?_ | refine WD.p' ?_ | refine WD.px' ?_ | refine WD.s' (E := env) (t := .ea _ _) ?_ | refine WD.s' (E := env) (t := .lp _ _) ?_ | refine WD.s' (E := env) (t := .og _ _) ?_ | refine WD.s' (E := env) (t := .agg _) ?_ | refine WD.s' (E := env) (t := .tup _) ?_ | refine WD.s' (E := env) (t := .clo _ _) ?_ | refine WD.ixm' (E := env) ?_ | refine WD.ixo' (E := env) ?_ | refine WD.legm' (E := env) ?_ | refine WD.slS' (E := env) ?_ | refine WD.slD' (E := env) ?_ | ((first | refine WG.sp' (fun h => ?_) fun h => ?_ | refine W.cond' (fun h => ?_) fun h => ?_ | refine WD.sp' (fun h => ?_) fun h => ?_) <;> (try simp only [decide_eq_true_eq, decide_eq_false_iff_not, Bool.not_eq_true', Bool.not_eq_false', Bool.and_eq_true, Bool.or_eq_true, Bool.and_eq_false_iff, Bool.or_eq_false_iff, Bool.not_eq_true, Bool.not_eq_false, Int.not_lt, Int.not_le, List.length_map, beq_self_eq_true, Bool.true_eq_false, Bool.false_eq_true] at h) <;> (try (exfalso; first | contradiction | omega))))
  all_goals (refine W.ret ?_; (first | refine RetQ.b' ?_ | refine RetQ.i' ?_ | refine RetQ.d' ?_ | refine RetQ.t2' ?_ ?_ | refine RetQ.t3' ?_ ?_ ?_))
  all_goals simp_all [sign2]

theorem sign2_I (a b : Int) : sign2 (decide (a < b)) (decide (b < a)) = cmpI a b := by unfold sign2 cmpI; by_cases h1 : a < b <;> by_cases h2 : b < a <;> simp [h1, h2]

theorem l1KeyLists_fn (a b : List ByteArray) (ha : a.length ≤ 1048576) : Fun env.P 283 [.sl 1 (a.map keyRow), .sl 1 (b.map keyRow)] (.d (dI (cmpKs a b))) [] := by
  refine Fun.intro Try.func283 rfl (by kernel_rfl) rfl ?_
  repeat' (first | refine W.seq ?_ | refine W.rg ?_ | refine W.dra' ?_ | refine W.block ?_ | refine W.skip ?_ | refine W.exit ?_ | refine W.cond_true' ?_ | refine W.cond_false' ?_ | refine WG.nil ?_ | refine WG.run' (E := env) ?_ | refine WG.gt' ?_ | refine WG.gf' ?_ | refine WG.ixm' (E := env) ?_ | refine WG.ixo' (E := env) ?_ | refine WG.legm' (E := env) ?_ | refine WG.slS' (E := env) ?_ | refine WG.slD' (E := env) ?_ | refine WG.ap' (E := env) ?_ | refine WD.nil ?_ | refine WD.bs' (E := env) ?_ | refine WD.s' (E := env) (t := .d _) ?_ | refine WD.p' ?_ | refine WD.px' ?_ | refine WD.s' (E := env) (t := .ea _ _) ?_ | refine WD.s' (E := env) (t := .lp _ _) ?_ | refine WD.s' (E := env) (t := .og _ _) ?_ | refine WD.s' (E := env) (t := .agg _) ?_ | refine WD.s' (E := env) (t := .tup _) ?_ | refine WD.s' (E := env) (t := .clo _ _) ?_ | refine WD.ixm' (E := env) ?_ | refine WD.ixo' (E := env) ?_ | refine WD.legm' (E := env) ?_ | refine WD.slS' (E := env) ?_ | refine WD.slD' (E := env) ?_ | ((first | refine WG.sp' (fun h => ?_) fun h => ?_ | refine W.cond' (fun h => ?_) fun h => ?_ | refine WD.sp' (fun h => ?_) fun h => ?_) <;> (try simp only [decide_eq_true_eq, decide_eq_false_iff_not, Bool.not_eq_true', Bool.not_eq_false', Bool.and_eq_true, Bool.or_eq_true, Bool.and_eq_false_iff, Bool.or_eq_false_iff, Bool.not_eq_true, Bool.not_eq_false, Int.not_lt, Int.not_le, List.length_map, beq_self_eq_true, Bool.true_eq_false, Bool.false_eq_true] at h) <;> (try (exfalso; first | contradiction | omega))))
  refine W.loop (fun m S => ∃ (i : Nat), m = a.length - i ∧ (i ≤ a.length ∧ i ≤ b.length ∧ cmpKs a b = cmpKs (a.drop i) (b.drop i)) ∧ S = ⟨ofL [(0, .d (.sl 1 (a.map keyRow))), (1, .d (.sl 1 (b.map keyRow))), (5, vI .i64 i)], []⟩) _ _ ⟨0, rfl, ⟨by omega, by omega, rfl⟩, rfl⟩ (by (refine le_ofL rfl ?_ ?_ <;> (repeat (first | exact trivial | refine ⟨⟨rfl, rfl⟩, ?_⟩ | refine ⟨rfl, .inl rfl, ?_⟩ | refine ⟨rfl, .inr rfl, ?_⟩)))) ?_
  rintro m S ⟨i, rfl, ⟨hi, hi2, he⟩, rfl⟩
  repeat' (first | refine W.seq ?_ | refine W.rg ?_ | refine W.dra' ?_ | refine W.block ?_ | refine W.skip ?_ | refine W.exit ?_ | refine W.cond_true' ?_ | refine W.cond_false' ?_ | refine WG.nil ?_ | refine WG.run' (E := env) ?_ | refine WG.gt' ?_ | refine WG.gf' ?_ | refine WG.ixm' (E := env) ?_ | refine WG.ixo' (E := env) ?_ | refine WG.legm' (E := env) ?_ | refine WG.slS' (E := env) ?_ | refine WG.slD' (E := env) ?_ | refine WG.ap' (E := env) ?_ | refine WD.nil ?_ | refine WD.bs' (E := env) ?_ | refine WD.s' (E := env) (t := .d _) ?_ | refine WD.p' ?_ | refine WD.px' ?_ | refine WD.s' (E := env) (t := .ea _ _) ?_ | refine WD.s' (E := env) (t := .lp _ _) ?_ | refine WD.s' (E := env) (t := .og _ _) ?_ | refine WD.s' (E := env) (t := .agg _) ?_ | refine WD.s' (E := env) (t := .tup _) ?_ | refine WD.s' (E := env) (t := .clo _ _) ?_ | refine WD.ixm' (E := env) ?_ | refine WD.ixo' (E := env) ?_ | refine WD.legm' (E := env) ?_ | refine WD.slS' (E := env) ?_ | refine WD.slD' (E := env) ?_ | refine WG.c (E := env) rfl rfl (l1Sign_fn _ _) rfl rfl ?_ | refine WD.c (E := env) rfl rfl (l1Sign_fn _ _) rfl rfl ?_ | refine WG.co (E := env) rfl rfl (l1Sign_fn _ _) rfl rfl rfl rfl ?_ | refine WG.cx (E := env) rfl (l1Sign_fn _ _) rfl ?_ | ((first | refine WG.sp' (fun h => ?_) fun h => ?_ | refine W.cond' (fun h => ?_) fun h => ?_ | refine WD.sp' (fun h => ?_) fun h => ?_) <;> (try simp only [decide_eq_true_eq, decide_eq_false_iff_not, Bool.not_eq_true', Bool.not_eq_false', Bool.and_eq_true, Bool.or_eq_true, Bool.and_eq_false_iff, Bool.or_eq_false_iff, Bool.not_eq_true, Bool.not_eq_false, Int.not_lt, Int.not_le, List.length_map, beq_self_eq_true, Bool.true_eq_false, Bool.false_eq_true] at h) <;> (try (exfalso; first | contradiction | omega))))
  · (try simp only [Int.toNat_natCast, Int.toNat_zero, toNat_cc, toNat_c1, toNat_cm1, toNat_cm] at *)
    (refine W.ret ?_; (first | refine RetQ.b' ?_ | refine RetQ.i' ?_ | refine RetQ.d' ?_ | refine RetQ.t2' ?_ ?_ | refine RetQ.t3' ?_ ?_ ?_))
    rw [he, cmpKs_at _ _ _ (by omega) (by omega), orI, if_neg (by rw [cmpS_zero]; assumption)]
    generalize a.getD i default = x at *
    generalize b.getD i default = y at *
    unfold sign2 cmpS lessK
    by_cases h1 : Op.bytesLess x.data.toList y.data.toList = true
    · simp [h1]
    · have h2 : Op.bytesLess y.data.toList x.data.toList = true := by
        cases h3 : Op.bytesLess y.data.toList x.data.toList with
        | true => rfl
        | false => exact absurd (bytes_ext (less_tri _ _ (by simpa using h1) h3)) h
      simp [h1, h2]
  · (try simp only [Int.toNat_natCast, Int.toNat_zero, toNat_cc, toNat_c1, toNat_cm1, toNat_cm] at *)
    refine ⟨_, _, by omega, ⟨i + 1, rfl, ⟨by omega, by omega, ?_⟩, rfl⟩, (by (refine le_ofL rfl ?_ ?_ <;> (repeat (first | exact trivial | refine ⟨⟨rfl, rfl⟩, ?_⟩ | refine ⟨rfl, .inl rfl, ?_⟩ | refine ⟨rfl, .inr rfl, ?_⟩))))⟩
    rw [he, cmpKs_at _ _ _ (by omega) (by omega), orI, if_pos (by rw [cmpS_zero]; assumption)]
  · (refine W.ret ?_; (first | refine RetQ.b' ?_ | refine RetQ.i' ?_ | refine RetQ.d' ?_ | refine RetQ.t2' ?_ ?_ | refine RetQ.t3' ?_ ?_ ?_))
    rw [he, cmpKs_end _ _ _ (by omega) hi hi2, sign2_I]
    simp
  · (refine W.ret ?_; (first | refine RetQ.b' ?_ | refine RetQ.i' ?_ | refine RetQ.d' ?_ | refine RetQ.t2' ?_ ?_ | refine RetQ.t3' ?_ ?_ ?_))
    rw [he, cmpKs_end _ _ _ (by omega) hi hi2, sign2_I]
    simp

theorem l1Lists_fn (l m : List V) (hl : l.length ≤ 1048576) (hc : ∀ v ∈ l, ∀ w ∈ m, Fun env.P 231 [cellsD v.cells, cellsD w.cells] (.d (dI (V.cmp v w))) []) :
    Fun env.P 282 [.sl 1 (l.map partR), .sl 1 (m.map partR)] (.d (dI (V.cmps l m))) [] := by
  refine Fun.intro Try.func282 rfl (by kernel_rfl) rfl ?_
  repeat' (first | refine W.seq ?_ | refine W.rg ?_ | refine W.dra' ?_ | refine W.block ?_ | refine W.skip ?_ | refine W.exit ?_ | refine W.cond_true' ?_ | refine W.cond_false' ?_ | refine WG.nil ?_ | refine WG.run' (E := env) ?_ | refine WG.gt' ?_ | refine WG.gf' ?_ | refine WG.ixm' (E := env) ?_ | refine WG.ixo' (E := env) ?_ | refine WG.legm' (E := env) ?_ | refine WG.slS' (E := env) ?_ | refine WG.slD' (E := env) ?_ | refine WG.ap' (E := env) ?_ | refine WD.nil ?_ | refine WD.bs' (E := env) ?_ | refine WD.s' (E := env) (t := .d _) ?_ | refine WD.p' ?_ | refine WD.px' ?_ | refine WD.s' (E := env) (t := .ea _ _) ?_ | refine WD.s' (E := env) (t := .lp _ _) ?_ | refine WD.s' (E := env) (t := .og _ _) ?_ | refine WD.s' (E := env) (t := .agg _) ?_ | refine WD.s' (E := env) (t := .tup _) ?_ | refine WD.s' (E := env) (t := .clo _ _) ?_ | refine WD.ixm' (E := env) ?_ | refine WD.ixo' (E := env) ?_ | refine WD.legm' (E := env) ?_ | refine WD.slS' (E := env) ?_ | refine WD.slD' (E := env) ?_ | ((first | refine WG.sp' (fun h => ?_) fun h => ?_ | refine W.cond' (fun h => ?_) fun h => ?_ | refine WD.sp' (fun h => ?_) fun h => ?_) <;> (try simp only [decide_eq_true_eq, decide_eq_false_iff_not, Bool.not_eq_true', Bool.not_eq_false', Bool.and_eq_true, Bool.or_eq_true, Bool.and_eq_false_iff, Bool.or_eq_false_iff, Bool.not_eq_true, Bool.not_eq_false, Int.not_lt, Int.not_le, List.length_map, beq_self_eq_true, Bool.true_eq_false, Bool.false_eq_true] at h) <;> (try (exfalso; first | contradiction | omega))))
  refine W.loop (fun q S => ∃ (i : Nat), q = l.length - i ∧ (i ≤ l.length ∧ i ≤ m.length ∧ V.cmps l m = V.cmps (l.drop i) (m.drop i)) ∧ S = ⟨ofL [(0, .d (.sl 1 (l.map partR))), (1, .d (.sl 1 (m.map partR))), (5, vI .i64 i)], []⟩) _ _ ⟨0, rfl, ⟨by omega, by omega, rfl⟩, rfl⟩ (by (refine le_ofL rfl ?_ ?_ <;> (repeat (first | exact trivial | refine ⟨⟨rfl, rfl⟩, ?_⟩ | refine ⟨rfl, .inl rfl, ?_⟩ | refine ⟨rfl, .inr rfl, ?_⟩)))) ?_
  rintro q S ⟨i, rfl, ⟨hi, hi2, he⟩, rfl⟩
  have hat : ∀ j, j < l.length → j < m.length → Fun env.P 231 [cellsD (l.getD j default).cells, cellsD (m.getD j default).cells] (.d (dI (V.cmp (l.getD j default) (m.getD j default)))) [] := fun j h1 h2 => hc _ (getD_mem' h1) _ (getD_mem' h2)
  repeat' (first | refine W.seq ?_ | refine W.rg ?_ | refine W.dra' ?_ | refine W.block ?_ | refine W.skip ?_ | refine W.exit ?_ | refine W.cond_true' ?_ | refine W.cond_false' ?_ | refine WG.nil ?_ | refine WG.run' (E := env) ?_ | refine WG.gt' ?_ | refine WG.gf' ?_ | refine WG.ixm' (E := env) ?_ | refine WG.ixo' (E := env) ?_ | refine WG.legm' (E := env) ?_ | refine WG.slS' (E := env) ?_ | refine WG.slD' (E := env) ?_ | refine WG.ap' (E := env) ?_ | refine WD.nil ?_ | refine WD.bs' (E := env) ?_ | refine WD.s' (E := env) (t := .d _) ?_ | refine WD.p' ?_ | refine WD.px' ?_ | refine WD.s' (E := env) (t := .ea _ _) ?_ | refine WD.s' (E := env) (t := .lp _ _) ?_ | refine WD.s' (E := env) (t := .og _ _) ?_ | refine WD.s' (E := env) (t := .agg _) ?_ | refine WD.s' (E := env) (t := .tup _) ?_ | refine WD.s' (E := env) (t := .clo _ _) ?_ | refine WD.ixm' (E := env) ?_ | refine WD.ixo' (E := env) ?_ | refine WD.legm' (E := env) ?_ | refine WD.slS' (E := env) ?_ | refine WD.slD' (E := env) ?_ | refine WG.c (E := env) rfl rfl (l1Sign_fn _ _) rfl rfl ?_ | refine WD.c (E := env) rfl rfl (l1Sign_fn _ _) rfl rfl ?_ | refine WG.co (E := env) rfl rfl (l1Sign_fn _ _) rfl rfl rfl rfl ?_ | refine WG.cx (E := env) rfl (l1Sign_fn _ _) rfl ?_ | refine WG.c (E := env) rfl rfl (hat _ (by omega) (by omega)) rfl rfl ?_ | refine WD.c (E := env) rfl rfl (hat _ (by omega) (by omega)) rfl rfl ?_ | refine WG.co (E := env) rfl rfl (hat _ (by omega) (by omega)) rfl rfl rfl rfl ?_ | refine WG.cx (E := env) rfl (hat _ (by omega) (by omega)) rfl ?_ | ((first | refine WG.sp' (fun h => ?_) fun h => ?_ | refine W.cond' (fun h => ?_) fun h => ?_ | refine WD.sp' (fun h => ?_) fun h => ?_) <;> (try simp only [decide_eq_true_eq, decide_eq_false_iff_not, Bool.not_eq_true', Bool.not_eq_false', Bool.and_eq_true, Bool.or_eq_true, Bool.and_eq_false_iff, Bool.or_eq_false_iff, Bool.not_eq_true, Bool.not_eq_false, Int.not_lt, Int.not_le, List.length_map, beq_self_eq_true, Bool.true_eq_false, Bool.false_eq_true] at h) <;> (try (exfalso; first | contradiction | omega))))
  · (try simp only [Int.toNat_natCast, Int.toNat_zero, toNat_cc, toNat_c1, toNat_cm1, toNat_cm] at *)
    (refine W.ret ?_; (first | refine RetQ.b' ?_ | refine RetQ.i' ?_ | refine RetQ.d' ?_ | refine RetQ.t2' ?_ ?_ | refine RetQ.t3' ?_ ?_ ?_))
    rw [he, V.cmps_at _ _ _ (by omega) (by omega), orI, if_neg h]
  · (try simp only [Int.toNat_natCast, Int.toNat_zero, toNat_cc, toNat_c1, toNat_cm1, toNat_cm] at *)
    refine ⟨_, _, by omega, ⟨i + 1, rfl, ⟨by omega, by omega, ?_⟩, rfl⟩, (by (refine le_ofL rfl ?_ ?_ <;> (repeat (first | exact trivial | refine ⟨⟨rfl, rfl⟩, ?_⟩ | refine ⟨rfl, .inl rfl, ?_⟩ | refine ⟨rfl, .inr rfl, ?_⟩))))⟩
    rw [he, V.cmps_at _ _ _ (by omega) (by omega), orI, if_pos h]
  · (refine W.ret ?_; (first | refine RetQ.b' ?_ | refine RetQ.i' ?_ | refine RetQ.d' ?_ | refine RetQ.t2' ?_ ?_ | refine RetQ.t3' ?_ ?_ ?_))
    rw [he, V.cmps_end _ _ _ (by omega) hi hi2, sign2_I]
    simp
  · (refine W.ret ?_; (first | refine RetQ.b' ?_ | refine RetQ.i' ?_ | refine RetQ.d' ?_ | refine RetQ.t2' ?_ ?_ | refine RetQ.t3' ?_ ?_ ?_))
    rw [he, V.cmps_end _ _ _ (by omega) hi hi2, sign2_I]
    simp

theorem V.plain_kids {v : V} (h : v.good) (hk : v.kind ≠ 5) (hk2 : v.kind ≠ 6) : v.kids = [] ∧ v.keys = [] := by
  obtain ⟨k, n, t, ks, kids⟩ := v
  obtain ⟨g1, g2, g3, g4, g5, g6, g7, g8, g9, g10, g11⟩ := h
  simp only [V.kind] at hk hk2
  refine ⟨?_, g8 hk2⟩
  cases kids with
  | nil => rfl
  | cons a r => rcases g4 (by simp) with h | h <;> contradiction
theorem V.plain_num {v : V} (h : v.good) (hk : v.kind ≠ 3) : v.num = 0 := by
  obtain ⟨k, n, t, ks, kids⟩ := v
  exact Decidable.byContradiction fun hn => hk (h.2.1 hn)
theorem V.plain_text {v : V} (h : v.good) (hk : v.kind ≠ 4) : v.text = noS := by
  obtain ⟨k, n, t, ks, kids⟩ := v
  exact Decidable.byContradiction fun hn => hk (h.2.2.1 hn)
theorem V.plain_keys {v : V} (h : v.good) (hk : v.kind ≠ 6) : v.keys = [] := by
  obtain ⟨k, n, t, ks, kids⟩ := v
  exact h.2.2.2.2.2.2.2.1 hk
theorem V.keysL_obj {v : V} (h : v.good) (hk : v.kind = 6) : v.keysL v.kids.length = v.keys := by
  obtain ⟨k, n, t, ks, kids⟩ := v
  have hl : ks.length = kids.length := h.2.2.2.2.2.2.1 hk
  simp only [V.keysL, V.keys, V.kids]
  apply List.ext_getElem (by simp [hl])
  intro i h1 h2
  simp [List.getElem?_eq_getElem h2]

theorem cmpI_self (a : Int) : cmpI a a = 0 := by unfold cmpI; rw [if_neg (by omega), if_neg (by omega)]
theorem cmpS_self (a : ByteArray) : cmpS a a = 0 := cmpS_zero.2 rfl
theorem orI_zero (q : Int) : orI 0 q = q := rfl
theorem orI_zero' (q : Int) : orI q 0 = q := by unfold orI; split <;> omega

/-- What is left of the order where the kinds are known. -/
theorem V.cmp_same {v w : V} (hv : v.good) (hw : w.good) (hk : v.kind = w.kind) :
    V.cmp v w = if v.kind = 3 then cmpI v.num w.num else if v.kind = 4 then cmpS v.text w.text else if v.kind = 5 then V.cmps v.kids w.kids else if v.kind = 6 then orI (cmpKs v.keys w.keys) (V.cmps v.kids w.kids) else 0 := by
  rw [V.cmp_eq, ← hk, cmpI_self, orI_zero]
  by_cases h3 : v.kind = 3
  · obtain ⟨e1, e2⟩ := V.plain_kids hv (by omega) (by omega)
    obtain ⟨e3, e4⟩ := V.plain_kids hw (by omega) (by omega)
    rw [if_pos h3, V.plain_text hv (by omega), V.plain_text hw (by omega), cmpS_self, e1, e2, e3, e4]
    simp [cmpKs, V.cmps, orI_zero, orI_zero']
  rw [if_neg h3, V.plain_num hv h3, V.plain_num hw (by omega), cmpI_self, orI_zero]
  by_cases h4 : v.kind = 4
  · obtain ⟨e1, e2⟩ := V.plain_kids hv (by omega) (by omega)
    obtain ⟨e3, e4⟩ := V.plain_kids hw (by omega) (by omega)
    rw [if_pos h4, e1, e2, e3, e4]
    simp [cmpKs, V.cmps, orI_zero, orI_zero']
  rw [if_neg h4, V.plain_text hv h4, V.plain_text hw (by omega), cmpS_self, orI_zero]
  by_cases h5 : v.kind = 5
  · rw [if_pos h5, V.plain_keys hv (by omega), V.plain_keys hw (by omega)]
    rfl
  rw [if_neg h5]
  by_cases h6 : v.kind = 6
  · rw [if_pos h6]
  rw [if_neg h6]
  obtain ⟨e1, e2⟩ := V.plain_kids hv h5 h6
  obtain ⟨e3, e4⟩ := V.plain_kids hw (by omega) (by omega)
  rw [e1, e2, e3, e4]
  rfl

set_option maxHeartbeats 2000000 in
theorem l1Compare_fn : ∀ (n : Nat) (v w : V), v.count ≤ n → v.fine → w.fine → Fun env.P 231 [cellsD v.cells, cellsD w.cells] (.d (dI (V.cmp v w))) []
  | 0, v, w, h, _, _ => by
    have := V.depth_le v
    omega
  | n + 1, v, w, h, hv, hw => by
    have ih := l1Compare_fn n
    have p1 := FunQ.pubG (l1Parts_fn v hv)
    have p2 := FunQ.pubG (l1Parts_fn w hw)
    have k1 := FunQ.pubG (l1Keys_fn v hv)
    have k2 := FunQ.pubG (l1Keys_fn w hw)
    have hlc := V.length_counts v.kids
    have hce := V.count_eq v
    have hv200 := hv.2.1
    have ll := l1Lists_fn v.kids w.kids (by omega) fun a ha b hb => ih a b (by have := (V.fine_kids hv a ha).2; omega) (V.fine_kids hv a ha).1 (V.fine_kids hw b hb).1
    have kl := l1KeyLists_fn (v.keysL v.kids.length) (w.keysL w.kids.length) (by simp [V.keysL]; omega)
    have hko : v.kind = 6 → w.kind = 6 → cmpKs (v.keysL v.kids.length) (w.keysL w.kids.length) = cmpKs v.keys w.keys := fun h1 h2 => by rw [V.keysL_obj hv.1 h1, V.keysL_obj hw.1 h2]
    have hcs := fun hk => V.cmp_same hv.1 hw.1 hk
    have hck := V.cmp_kind v w
    obtain ⟨r1, e1⟩ := V.cells_cons v
    obtain ⟨r2, e2⟩ := V.cells_cons w
    rw [e1] at p1 k1 ⊢
    rw [e2] at p2 k2 ⊢
    generalize V.cmp v w = res at hcs hck ⊢
    generalize v.keysL v.kids.length = kl1 at *
    generalize w.keysL w.kids.length = kl2 at *
    generalize v.kind = vk at *
    generalize w.kind = wk at *
    generalize v.num = vn at *
    generalize w.num = wn at *
    generalize v.text = vt at *
    generalize w.text = wt at *
    generalize v.kids = vd at *
    generalize w.kids = wd at *
    have hl1 : 1 ≤ ((⟨vk, vn, vt, noS, (vd.length : Int)⟩ :: r1 : List Cell)).length := by simp
    have hl2 : 1 ≤ ((⟨wk, wn, wt, noS, (wd.length : Int)⟩ :: r2 : List Cell)).length := by simp
    refine Fun.intro Try.func231 rfl (by kernel_rfl) rfl ?_
    repeat' (first | refine W.seq ?_ | refine W.rg ?_ | refine W.dra' ?_ | refine W.block ?_ | refine W.skip ?_ | refine W.exit ?_ | refine W.cond_true' ?_ | refine W.cond_false' ?_ | refine WG.nil ?_ | refine WG.run' (E := env) ?_ | refine WG.gt' ?_ | refine WG.gf' ?_ | refine WG.ixm' (E := env) ?_ | refine WG.ixo' (E := env) ?_ | refine WG.legm' (E := env) ?_ | refine WG.slS' (E := env) ?_ | refine WG.slD' (E := env) ?_ | refine WG.ap' (E := env) ?_ | refine WD.nil ?_ | refine WD.bs' (E := env) ?_ | refine WD.s' (E := env) (t := .d _) ?_ | refine WD.p' ?_ | refine WD.px' ?_ | refine WD.s' (E := env) (t := .ea _ _) ?_ | refine WD.s' (E := env) (t := .lp _ _) ?_ | refine WD.s' (E := env) (t := .og _ _) ?_ | refine WD.s' (E := env) (t := .agg _) ?_ | refine WD.s' (E := env) (t := .tup _) ?_ | refine WD.s' (E := env) (t := .clo _ _) ?_ | refine WD.ixm' (E := env) ?_ | refine WD.ixo' (E := env) ?_ | refine WD.legm' (E := env) ?_ | refine WD.slS' (E := env) ?_ | refine WD.slD' (E := env) ?_ | refine WG.c (E := env) rfl rfl (l1Sign_fn _ _) rfl rfl ?_ | refine WD.c (E := env) rfl rfl (l1Sign_fn _ _) rfl rfl ?_ | refine WG.co (E := env) rfl rfl (l1Sign_fn _ _) rfl rfl rfl rfl ?_ | refine WG.cx (E := env) rfl (l1Sign_fn _ _) rfl ?_ | refine WG.c (E := env) rfl rfl (p1) rfl rfl ?_ | refine WD.c (E := env) rfl rfl (p1) rfl rfl ?_ | refine WG.co (E := env) rfl rfl (p1) rfl rfl rfl rfl ?_ | refine WG.cx (E := env) rfl (p1) rfl ?_ | refine WG.c (E := env) rfl rfl (p2) rfl rfl ?_ | refine WD.c (E := env) rfl rfl (p2) rfl rfl ?_ | refine WG.co (E := env) rfl rfl (p2) rfl rfl rfl rfl ?_ | refine WG.cx (E := env) rfl (p2) rfl ?_ | refine WG.c (E := env) rfl rfl (k1) rfl rfl ?_ | refine WD.c (E := env) rfl rfl (k1) rfl rfl ?_ | refine WG.co (E := env) rfl rfl (k1) rfl rfl rfl rfl ?_ | refine WG.cx (E := env) rfl (k1) rfl ?_ | refine WG.c (E := env) rfl rfl (k2) rfl rfl ?_ | refine WD.c (E := env) rfl rfl (k2) rfl rfl ?_ | refine WG.co (E := env) rfl rfl (k2) rfl rfl rfl rfl ?_ | refine WG.cx (E := env) rfl (k2) rfl ?_ | refine WG.c (E := env) rfl rfl (ll) rfl rfl ?_ | refine WD.c (E := env) rfl rfl (ll) rfl rfl ?_ | refine WG.co (E := env) rfl rfl (ll) rfl rfl rfl rfl ?_ | refine WG.cx (E := env) rfl (ll) rfl ?_ | refine WG.c (E := env) rfl rfl (kl) rfl rfl ?_ | refine WD.c (E := env) rfl rfl (kl) rfl rfl ?_ | refine WG.co (E := env) rfl rfl (kl) rfl rfl rfl rfl ?_ | refine WG.cx (E := env) rfl (kl) rfl ?_ | ((first | refine WG.sp' (fun h => ?_) fun h => ?_ | refine W.cond' (fun h => ?_) fun h => ?_ | refine WD.sp' (fun h => ?_) fun h => ?_) <;> (try simp only [decide_eq_true_eq, decide_eq_false_iff_not, Bool.not_eq_true', Bool.not_eq_false', Bool.and_eq_true, Bool.or_eq_true, Bool.and_eq_false_iff, Bool.or_eq_false_iff, Bool.not_eq_true, Bool.not_eq_false, Int.not_lt, Int.not_le, List.length_map, beq_self_eq_true, Bool.true_eq_false, Bool.false_eq_true] at h) <;> (try (exfalso; first | contradiction | omega))))
    all_goals (refine W.ret ?_; (first | refine RetQ.b' ?_ | refine RetQ.i' ?_ | refine RetQ.d' ?_ | refine RetQ.t2' ?_ ?_ | refine RetQ.t3' ?_ ?_ ?_))
    all_goals simp only [Int.toNat_zero, List.getD_cons_zero] at *
    · rw [hck (by assumption)]
      unfold sign2 cmpI
      by_cases h1 : vk < wk
      · simp [h1]
      · have : wk < vk := by omega
        simp [h1, this]
    · rw [hcs (by assumption), if_pos (by assumption), sign2_I]
    · rw [hcs (by assumption), if_neg (by assumption), if_pos (by assumption)]
      rfl
    · rw [hcs (by assumption), if_neg (by assumption), if_neg (by assumption), if_pos (by assumption)]
    · rw [hcs (by assumption), if_neg (by assumption), if_neg (by assumption), if_neg (by assumption), if_pos (by assumption), ← hko (by assumption) (by omega), orI, if_neg (by assumption)]
    · rw [hcs (by assumption), if_neg (by assumption), if_neg (by assumption), if_neg (by assumption), if_pos (by assumption), ← hko (by assumption) (by omega), orI, if_pos (by assumption)]
    · rw [hcs (by assumption), if_neg (by assumption), if_neg (by assumption), if_neg (by assumption), if_neg (by assumption)]

end Go.Proofs.Ytlegadpbjccelaa
