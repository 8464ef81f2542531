/-
  The reference's way of comparing values: parts, keys, comparison; what both ways give. Conditions: none.
-/
import Derived.Test.YtlegadpbjccelaaQEachOfCm2
import Derived.Test.YtlegadpbjccelaaQEachOfG8
set_option linter.unusedVariables false
set_option linter.unusedSimpArgs false
set_option maxRecDepth 100000
namespace Go.Proofs.Ytlegadpbjccelaa
open Go.RowKit

/-- A value that cells may be. -/
def V.fine (v : V) : Prop := v.good ∧ v.count ≤ 200 ∧ v.depth ≤ 20

theorem valOfM_fine {cs : List Cell} (h : (valOfM cs).2 = 0) : (valOfM cs).1.fine ∧ cs = (valOfM cs).1.cells := by
  obtain ⟨h1, h2, h3, h4, _⟩ := valOfM_cells h
  exact ⟨⟨h1, h3, h4⟩, h2⟩

theorem V.fine_val {v : V} (h : v.fine) : valOfM v.cells = (v, 0) := by
  rw [valOfM_good v h.1 h.2.1, if_neg (by have := h.2.2; omega)]

theorem V.depths_mem {l : List V} : ∀ v ∈ l, v.depth ≤ V.depths l := by
  induction l with
  | nil => intro v h; cases h
  | cons x r ih =>
    intro v h
    simp only [V.depths]
    rcases List.mem_cons.1 h with rfl | h
    · omega
    · have := ih v h; omega

theorem V.good_kids {v : V} (h : v.good) : V.goods v.kids := by
  cases v; exact h.2.2.2.2.2.2.2.2.2.2

theorem V.fine_kids {v : V} (h : v.fine) : ∀ w ∈ v.kids, w.fine ∧ w.count < v.count := by
  intro w hw
  have h1 := V.counts_ge w hw
  have h2 := V.depths_mem w hw
  have h3 := V.count_eq v
  have h4 : v.depth = V.depths v.kids + 1 := by cases v; rfl
  obtain ⟨g1, g2, g3⟩ := h
  exact ⟨⟨V.goods_mem (V.good_kids g1) w hw, by omega, by omega⟩, by omega⟩

/-- The first cell of a value's cells. -/
theorem V.cells_cons (v : V) : ∃ r, v.cells = ⟨v.kind, v.num, v.text, noS, (v.kids.length : Int)⟩ :: r := by
  cases v; exact ⟨_, rfl⟩

theorem V.headC_cellsK (v : V) (key : ByteArray) : headC (v.cellsK key) = v.cells := by cases v; rfl

theorem part_kid {v : V} (h : v.fine) {j : Nat} (hj : j < v.kids.length) :
    headC (subC v.cells (v.at 0 j)) = (v.kids.getD j default).cells ∧ (v.cells.getD (v.at 0 j) default).key = v.keys.getD j noS ∧ v.at 0 j < v.cells.length := by
  have h0 : (valOfM v.cells).2 = 0 := by rw [V.fine_val h]
  have hv := V.valA_cells v h.1
  obtain ⟨h1, h2, h3, h4⟩ := kid_at (valOfM_codes h0) hv hj
  obtain ⟨he, hl⟩ := endM_kid h0 hv hj
  refine ⟨?_, h2, hl⟩
  have : subC v.cells (v.at 0 j) = cut v.cells (v.at 0 j) (v.at 0 (j + 1)) := by unfold subC cut; rw [he]
  rw [this, h3, V.headC_cellsK]

abbrev partR (v : V) : List D := [cellsD v.cells]
theorem V.children_fn (v : V) (h : v.fine) : Fun env.P 176 [cellsD v.cells, dI 0] (.d (.sl 1 ((v.ats 0 v.kids.length).map intRow))) [] := by
  have h0 : (valOfM v.cells).2 = 0 := by rw [V.fine_val h]
  exact FunQ.pubG (l1Children_fn v.cells h0 0 v v.count (V.valA_cells v h.1))

set_option maxHeartbeats 1000000 in
theorem l1Parts_fn (v : V) (h : v.fine) : Fun env.P 96 [cellsD v.cells] (.og 0 0) [.gr 1 24 (v.kids.map partR) 0 false] := by
  have h0 : (valOfM v.cells).2 = 0 := by rw [V.fine_val h]
  have hch := V.children_fn v h
  have hlen := V.ats_length v 0 v.kids.length
  have hcl : v.cells.length ≤ 200 := (valOfM_kind h0).2.2.1
  have hkl : v.kids.length ≤ 200 := by have := kids_le h0 (V.valA_cells v h.1); omega
  refine Fun.intro Try.func96 rfl (by kernel_rfl) rfl ?_
  repeat' (first | refine W.seq ?_ | refine W.rg ?_ | refine W.dra' ?_ | refine W.block ?_ | refine W.skip ?_ | refine W.exit ?_ | refine W.cond_true' ?_ | refine W.cond_false' ?_ | refine WG.nil ?_ | refine WG.run' (E := env) ?_ | refine WG.gt' ?_ | refine WG.gf' ?_ | refine WG.ixm' (E := env) ?_ | refine WG.ixo' (E := env) ?_ | refine WG.legm' (E := env) ?_ | refine WG.slS' (E := env) ?_ | refine WG.slD' (E := env) ?_ | refine WG.ap' (E := env) ?_ | refine WD.nil ?_ | refine WD.bs' (E := env) ?_ | refine WD.s' (E := env) (t := .d _) ?_ | refine WD.p' ?_ | refine WD.px' ?_ | refine WD.s' (E := env) (t := .ea _ _) ?_ | refine WD.s' (E := env) (t := .lp _ _) ?_ | refine WD.s' (E := env) (t := .og _ _) ?_ | refine WD.s' (E := env) (t := .agg _) ?_ | refine WD.s' (E := env) (t := .tup _) ?_ | refine WD.s' (E := env) (t := .clo _ _) ?_ | refine WD.ixm' (E := env) ?_ | refine WD.ixo' (E := env) ?_ | refine WD.legm' (E := env) ?_ | refine WD.slS' (E := env) ?_ | refine WD.slD' (E := env) ?_ | refine WG.c (E := env) rfl rfl (hch) rfl rfl ?_ | refine WD.c (E := env) rfl rfl (hch) rfl rfl ?_ | refine WG.co (E := env) rfl rfl (hch) rfl rfl rfl rfl ?_ | refine WG.cx (E := env) rfl (hch) rfl ?_ | ((first | refine WG.sp' (fun h => ?_) fun h => ?_ | refine W.cond' (fun h => ?_) fun h => ?_ | refine WD.sp' (fun h => ?_) fun h => ?_) <;> (try simp only [decide_eq_true_eq, decide_eq_false_iff_not, Bool.not_eq_true', Bool.not_eq_false', Bool.and_eq_true, Bool.or_eq_true, Bool.and_eq_false_iff, Bool.or_eq_false_iff, Bool.not_eq_true, Bool.not_eq_false, Int.not_lt, Int.not_le, List.length_map, beq_self_eq_true, Bool.true_eq_false, Bool.false_eq_true] at h) <;> (try (exfalso; first | contradiction | omega))))
  refine W.loopI (fun m S => ∃ (i : Nat) (rv : List (List D)), m = v.kids.length - i ∧ (i ≤ v.kids.length ∧ rv = (v.kids.take i).map partR) ∧
    S = ⟨ofL [(0, .d (cellsD v.cells)), (3, .og 0 0), (4, .d (.sl 1 ((v.ats 0 v.kids.length).map intRow))), (5, vI .i64 i)], [.gr 1 24 rv 0 false]⟩) _ _ ⟨0, [], rfl, ⟨by omega, rfl⟩, rfl⟩ (St.imp.of_le (by (refine le_ofL rfl ?_ ?_ <;> (repeat (first | exact trivial | refine ⟨⟨rfl, rfl⟩, ?_⟩ | refine ⟨rfl, .inl rfl, ?_⟩ | refine ⟨rfl, .inr rfl, ?_⟩))))) ?_
  rintro m S ⟨i, rv, rfl, ⟨hi, hrv⟩, rfl⟩
  have hrl : rv.length = i := by rw [hrv, List.length_map, List.length_take]; omega
  by_cases hlt : i < v.kids.length
  · obtain ⟨hp1, hp2, hp3⟩ := part_kid h hlt
    have hpart := FunQ.pubG (l1PartS_fn v.cells (v.at 0 i) hp3 h0)
    rw [hp1] at hpart
    have hat : (v.ats 0 v.kids.length).getD (Int.toNat (i : Int)) default = ((v.at 0 i : Nat) : Int) := by rw [Int.toNat_natCast]; exact V.ats_at v 0 _ i hlt
    rw [← hat] at hpart
    repeat' (first | refine W.seq ?_ | refine W.rg ?_ | refine W.dra' ?_ | refine W.block ?_ | refine W.skip ?_ | refine W.exit ?_ | refine W.cond_true' ?_ | refine W.cond_false' ?_ | refine WG.nil ?_ | refine WG.run' (E := env) ?_ | refine WG.gt' ?_ | refine WG.gf' ?_ | refine WG.ixm' (E := env) ?_ | refine WG.ixo' (E := env) ?_ | refine WG.legm' (E := env) ?_ | refine WG.slS' (E := env) ?_ | refine WG.slD' (E := env) ?_ | refine WG.ap' (E := env) ?_ | refine WD.nil ?_ | refine WD.bs' (E := env) ?_ | refine WD.s' (E := env) (t := .d _) ?_ | refine WD.p' ?_ | refine WD.px' ?_ | refine WD.s' (E := env) (t := .ea _ _) ?_ | refine WD.s' (E := env) (t := .lp _ _) ?_ | refine WD.s' (E := env) (t := .og _ _) ?_ | refine WD.s' (E := env) (t := .agg _) ?_ | refine WD.s' (E := env) (t := .tup _) ?_ | refine WD.s' (E := env) (t := .clo _ _) ?_ | refine WD.ixm' (E := env) ?_ | refine WD.ixo' (E := env) ?_ | refine WD.legm' (E := env) ?_ | refine WD.slS' (E := env) ?_ | refine WD.slD' (E := env) ?_ | refine WG.c (E := env) rfl rfl (hpart) rfl rfl ?_ | refine WD.c (E := env) rfl rfl (hpart) rfl rfl ?_ | refine WG.co (E := env) rfl rfl (hpart) rfl rfl rfl rfl ?_ | refine WG.cx (E := env) rfl (hpart) rfl ?_ | ((first | refine WG.sp' (fun h => ?_) fun h => ?_ | refine W.cond' (fun h => ?_) fun h => ?_ | refine WD.sp' (fun h => ?_) fun h => ?_) <;> (try simp only [decide_eq_true_eq, decide_eq_false_iff_not, Bool.not_eq_true', Bool.not_eq_false', Bool.and_eq_true, Bool.or_eq_true, Bool.and_eq_false_iff, Bool.or_eq_false_iff, Bool.not_eq_true, Bool.not_eq_false, Int.not_lt, Int.not_le, List.length_map, beq_self_eq_true, Bool.true_eq_false, Bool.false_eq_true] at h) <;> (try (exfalso; first | contradiction | omega))))
    refine ⟨_, _, by omega, ⟨i + 1, _, rfl, ⟨by omega, ?_⟩, rfl⟩, (St.imp.rev 0 1 rfl).trans (St.imp.of_le (by (refine le_ofL rfl ?_ ?_ <;> (repeat (first | exact trivial | refine ⟨⟨rfl, rfl⟩, ?_⟩ | refine ⟨rfl, .inl rfl, ?_⟩ | refine ⟨rfl, .inr rfl, ?_⟩)))))⟩
    rw [take_step hlt, List.map_append, ← hrv]
    rfl
  · obtain rfl : i = v.kids.length := by omega
    repeat' (first | refine W.seq ?_ | refine W.rg ?_ | refine W.dra' ?_ | refine W.block ?_ | refine W.skip ?_ | refine W.exit ?_ | refine W.cond_true' ?_ | refine W.cond_false' ?_ | refine WG.nil ?_ | refine WG.run' (E := env) ?_ | refine WG.gt' ?_ | refine WG.gf' ?_ | refine WG.ixm' (E := env) ?_ | refine WG.ixo' (E := env) ?_ | refine WG.legm' (E := env) ?_ | refine WG.slS' (E := env) ?_ | refine WG.slD' (E := env) ?_ | refine WG.ap' (E := env) ?_ | refine WD.nil ?_ | refine WD.bs' (E := env) ?_ | refine WD.s' (E := env) (t := .d _) ?_ | refine WD.p' ?_ | refine WD.px' ?_ | refine WD.s' (E := env) (t := .ea _ _) ?_ | refine WD.s' (E := env) (t := .lp _ _) ?_ | refine WD.s' (E := env) (t := .og _ _) ?_ | refine WD.s' (E := env) (t := .agg _) ?_ | refine WD.s' (E := env) (t := .tup _) ?_ | refine WD.s' (E := env) (t := .clo _ _) ?_ | refine WD.ixm' (E := env) ?_ | refine WD.ixo' (E := env) ?_ | refine WD.legm' (E := env) ?_ | refine WD.slS' (E := env) ?_ | refine WD.slD' (E := env) ?_ | ((first | refine WG.sp' (fun h => ?_) fun h => ?_ | refine W.cond' (fun h => ?_) fun h => ?_ | refine WD.sp' (fun h => ?_) fun h => ?_) <;> (try simp only [decide_eq_true_eq, decide_eq_false_iff_not, Bool.not_eq_true', Bool.not_eq_false', Bool.and_eq_true, Bool.or_eq_true, Bool.and_eq_false_iff, Bool.or_eq_false_iff, Bool.not_eq_true, Bool.not_eq_false, Int.not_lt, Int.not_le, List.length_map, beq_self_eq_true, Bool.true_eq_false, Bool.false_eq_true] at h) <;> (try (exfalso; first | contradiction | omega))))
    (refine W.ret ?_; first | refine RetR.g' ?_ | refine RetR.ag' ?_ ?_ | refine RetR.agn' ?_ | exact RetR.gn' | refine RetR.ag3' ?_ ?_ ?_ | refine RetR.agn3' ?_ ?_)
    rw [hrv, List.take_length]

end Go.Proofs.Ytlegadpbjccelaa
