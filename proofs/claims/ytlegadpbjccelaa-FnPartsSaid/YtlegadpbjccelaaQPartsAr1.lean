/-
  An array out of values, by the program and by the reference. Conditions: cells of at most 2^20 bytes.
-/
import Derived.Test.YtlegadpbjccelaaQPartsG11
import Derived.Test.YtlegadpbjccelaaQPartsV6
set_option linter.unusedVariables false
set_option linter.unusedSimpArgs false
set_option maxRecDepth 100000
namespace Go.Proofs.Ytlegadpbjccelaa
open Go.RowKit

/-- The first fault of values; the values. -/
def firstV : List (List Cell) → Int
  | [] => 0
  | x :: r => if (valOfM x).2 ≠ 0 then (valOfM x).2 else firstV r
noncomputable def valsV (xs : List (List Cell)) : List V := xs.map fun x => (valOfM x).1
def fitsCC (xs : List (List Cell)) : Prop := (∀ x ∈ xs, fitsC x) ∧ xs.length ≤ 1048576

theorem firstV_zero : ∀ {xs : List (List Cell)}, firstV xs = 0 → ∀ x ∈ xs, (valOfM x).2 = 0
  | [], _, x, hx => by simp at hx
  | a :: r, h, x, hx => by
    unfold firstV at h
    split at h
    · rename_i h1; exact absurd h h1
    · rename_i h1
      rcases List.mem_cons.1 hx with rfl | hx
      · exact Classical.not_not.1 h1
      · exact firstV_zero h x hx
theorem firstV_step {xs : List (List Cell)} {i : Nat} (hi : i < xs.length) : firstV (xs.drop i) = if (valOfM (xs.getD i default)).2 ≠ 0 then (valOfM (xs.getD i default)).2 else firstV (xs.drop (i + 1)) := by
  rw [drop_step hi, firstV]
theorem valsV_take {xs : List (List Cell)} {i : Nat} (hi : i < xs.length) : valsV (xs.take (i + 1)) = valsV (xs.take i) ++ [(valOfM (xs.getD i default)).1] := by
  rw [valsV, take_step hi, List.map_append]; rfl
theorem valsV_fine {xs : List (List Cell)} (h : firstV xs = 0) : ∀ v ∈ valsV xs, v.fine := fun v hv => by
  obtain ⟨x, hx, rfl⟩ := List.mem_map.1 hv
  exact (valOfM_fine (firstV_zero h x hx)).1
theorem valsV_counts {xs : List (List Cell)} (h : firstV xs = 0) : V.counts (valsV xs) ≤ 200 * xs.length := by
  have hf := valsV_fine h
  have : ∀ l : List V, (∀ v ∈ l, v.fine) → V.counts l ≤ 200 * l.length := by
    intro l
    induction l with
    | nil => intro _; simp [V.counts]
    | cons a r ih =>
      intro h
      have h1 := (h a (List.mem_cons_self ..)).2.1
      have h2 := ih fun v hv => h v (List.mem_cons_of_mem _ hv)
      simp only [V.counts, List.length_cons]
      omega
  have h2 := this _ hf
  simpa [valsV] using h2
set_option maxHeartbeats 2000000 in
theorem valsOf_fn (xs : List (List Cell)) (hf : fitsCC xs) (hl : xs.length ≤ 200) (h0 : firstV xs = 0) : Fun env.P 105 [cellssD xs] (.tup [.d (.sl 5 ((valsV xs).map V.row)), .d (dI 0)]) [] := by
  refine Fun.intro Try.func105 rfl (by kernel_rfl) rfl ?_
  repeat' (first | refine W.seq ?_ | refine W.rg ?_ | refine W.dra' ?_ | refine W.block ?_ | refine W.skip ?_ | refine W.exit ?_ | refine W.cond_true' ?_ | refine W.cond_false' ?_ | refine WG.nil ?_ | refine WG.run' (E := env) ?_ | refine WG.gt' ?_ | refine WG.gf' ?_ | refine WG.ixm' (E := env) ?_ | refine WG.ixo' (E := env) ?_ | refine WG.legm' (E := env) ?_ | refine WG.slS' (E := env) ?_ | refine WG.slD' (E := env) ?_ | refine WG.ap' (E := env) ?_ | refine WD.nil ?_ | refine WD.bs' (E := env) ?_ | refine WD.s' (E := env) (t := .d _) ?_ | refine WD.p' ?_ | refine WD.px' ?_ | refine WD.s' (E := env) (t := .ea _ _) ?_ | refine WD.s' (E := env) (t := .lp _ _) ?_ | refine WD.s' (E := env) (t := .og _ _) ?_ | refine WD.s' (E := env) (t := .agg _) ?_ | refine WD.s' (E := env) (t := .tup _) ?_ | refine WD.s' (E := env) (t := .clo _ _) ?_ | refine WD.ixm' (E := env) ?_ | refine WD.ixo' (E := env) ?_ | refine WD.legm' (E := env) ?_ | refine WD.slS' (E := env) ?_ | refine WD.slD' (E := env) ?_ | ((first | refine WG.sp' (fun h => ?_) fun h => ?_ | refine W.cond' (fun h => ?_) fun h => ?_ | refine WD.sp' (fun h => ?_) fun h => ?_) <;> (try simp only [decide_eq_true_eq, decide_eq_false_iff_not, Bool.not_eq_true', Bool.not_eq_false', Bool.and_eq_true, Bool.or_eq_true, Bool.and_eq_false_iff, Bool.or_eq_false_iff, Bool.not_eq_true, Bool.not_eq_false, Int.not_lt, Int.not_le, List.length_map, beq_self_eq_true, Bool.true_eq_false, Bool.false_eq_true] at h) <;> (try (exfalso; first | contradiction | omega))))
  refine W.loopI (fun m S => ∃ (i : Nat) (rv : List (List D)), m = xs.length - i ∧ (i ≤ xs.length ∧ rv = (valsV (xs.take i)).map V.row) ∧ S = ⟨ofL [(4, .og 0 0), (10, .d (cellssD xs)), (11, vI .i64 (xs.map cellsR).length), (12, vI .i64 i)], [.gr 5 112 rv 0 false]⟩) _ _ ⟨0, [], rfl, ⟨by omega, rfl⟩, rfl⟩ (St.imp.of_le (by (refine le_ofL rfl ?_ ?_ <;> (repeat (first | exact trivial | refine ⟨⟨rfl, rfl⟩, ?_⟩ | refine ⟨rfl, .inl rfl, ?_⟩ | refine ⟨rfl, .inr rfl, ?_⟩))))) ?_
  rintro m S ⟨i, rv, rfl, ⟨hi, hrv⟩, rfl⟩
  have hrl : rv.length = i := by rw [hrv]; simp [valsV]; omega
  by_cases hlt : i < xs.length
  · have hv := valOf_fn' (xs.getD (Int.toNat (i : Int)) default) (hf.1 _ (getD_mem' (by rw [Int.toNat_natCast]; exact hlt)))
    rw [firstV_zero h0 _ (getD_mem' (show Int.toNat (i : Int) < xs.length by rw [Int.toNat_natCast]; exact hlt))] at hv
    repeat' (first | refine W.seq ?_ | refine W.rg ?_ | refine W.dra' ?_ | refine W.block ?_ | refine W.skip ?_ | refine W.exit ?_ | refine W.cond_true' ?_ | refine W.cond_false' ?_ | refine WG.nil ?_ | refine WG.run' (E := env) ?_ | refine WG.gt' ?_ | refine WG.gf' ?_ | refine WG.ixm' (E := env) ?_ | refine WG.ixo' (E := env) ?_ | refine WG.legm' (E := env) ?_ | refine WG.slS' (E := env) ?_ | refine WG.slD' (E := env) ?_ | refine WG.ap' (E := env) ?_ | refine WD.nil ?_ | refine WD.bs' (E := env) ?_ | refine WD.s' (E := env) (t := .d _) ?_ | refine WD.p' ?_ | refine WD.px' ?_ | refine WD.s' (E := env) (t := .ea _ _) ?_ | refine WD.s' (E := env) (t := .lp _ _) ?_ | refine WD.s' (E := env) (t := .og _ _) ?_ | refine WD.s' (E := env) (t := .agg _) ?_ | refine WD.s' (E := env) (t := .tup _) ?_ | refine WD.s' (E := env) (t := .clo _ _) ?_ | refine WD.ixm' (E := env) ?_ | refine WD.ixo' (E := env) ?_ | refine WD.legm' (E := env) ?_ | refine WD.slS' (E := env) ?_ | refine WD.slD' (E := env) ?_ | refine WG.c (E := env) rfl rfl (hv) rfl rfl ?_ | refine WD.c (E := env) rfl rfl (hv) rfl rfl ?_ | refine WG.co (E := env) rfl rfl (hv) rfl rfl rfl rfl ?_ | refine WG.cx (E := env) rfl (hv) rfl ?_ | ((first | refine WG.sp' (fun h => ?_) fun h => ?_ | refine W.cond' (fun h => ?_) fun h => ?_ | refine WD.sp' (fun h => ?_) fun h => ?_) <;> (try simp only [decide_eq_true_eq, decide_eq_false_iff_not, Bool.not_eq_true', Bool.not_eq_false', Bool.and_eq_true, Bool.or_eq_true, Bool.and_eq_false_iff, Bool.or_eq_false_iff, Bool.not_eq_true, Bool.not_eq_false, Int.not_lt, Int.not_le, List.length_map, beq_self_eq_true, Bool.true_eq_false, Bool.false_eq_true] at h) <;> (try (exfalso; first | contradiction | omega))))
    refine ⟨_, _, by omega, ⟨i + 1, rv ++ [V.rowP (valOfM (xs.getD (Int.toNat (i : Int)) default)).1], rfl, ⟨by omega, ?_⟩, rfl⟩, (St.imp.rev 0 1 rfl).trans (St.imp.of_le (by (refine le_ofL rfl ?_ ?_ <;> (repeat (first | exact trivial | refine ⟨⟨rfl, rfl⟩, ?_⟩ | refine ⟨rfl, .inl rfl, ?_⟩ | refine ⟨rfl, .inr rfl, ?_⟩)))))⟩
    rw [valsV_take hlt, List.map_append, ← hrv, Int.toNat_natCast]
    simp [V.row_eq]
  · obtain rfl : i = xs.length := by omega
    rw [List.take_length] at hrv
    subst hrv
    refine W.pub 0 rfl ?_
    repeat' (first | refine W.seq ?_ | refine W.rg ?_ | refine W.dra' ?_ | refine W.block ?_ | refine W.skip ?_ | refine W.exit ?_ | refine W.cond_true' ?_ | refine W.cond_false' ?_ | refine WG.nil ?_ | refine WG.run' (E := env) ?_ | refine WG.gt' ?_ | refine WG.gf' ?_ | refine WG.ixm' (E := env) ?_ | refine WG.ixo' (E := env) ?_ | refine WG.legm' (E := env) ?_ | refine WG.slS' (E := env) ?_ | refine WG.slD' (E := env) ?_ | refine WG.ap' (E := env) ?_ | refine WD.nil ?_ | refine WD.bs' (E := env) ?_ | refine WD.s' (E := env) (t := .d _) ?_ | refine WD.p' ?_ | refine WD.px' ?_ | refine WD.s' (E := env) (t := .ea _ _) ?_ | refine WD.s' (E := env) (t := .lp _ _) ?_ | refine WD.s' (E := env) (t := .og _ _) ?_ | refine WD.s' (E := env) (t := .agg _) ?_ | refine WD.s' (E := env) (t := .tup _) ?_ | refine WD.s' (E := env) (t := .clo _ _) ?_ | refine WD.ixm' (E := env) ?_ | refine WD.ixo' (E := env) ?_ | refine WD.legm' (E := env) ?_ | refine WD.slS' (E := env) ?_ | refine WD.slD' (E := env) ?_ | ((first | refine WG.sp' (fun h => ?_) fun h => ?_ | refine W.cond' (fun h => ?_) fun h => ?_ | refine WD.sp' (fun h => ?_) fun h => ?_) <;> (try simp only [decide_eq_true_eq, decide_eq_false_iff_not, Bool.not_eq_true', Bool.not_eq_false', Bool.and_eq_true, Bool.or_eq_true, Bool.and_eq_false_iff, Bool.or_eq_false_iff, Bool.not_eq_true, Bool.not_eq_false, Int.not_lt, Int.not_le, List.length_map, beq_self_eq_true, Bool.true_eq_false, Bool.false_eq_true] at h) <;> (try (exfalso; first | contradiction | omega))))
    (refine W.ret ?_; (first | refine RetQ.b' ?_ | refine RetQ.i' ?_ | refine RetQ.d' ?_ | refine RetQ.t2' ?_ ?_ | refine RetQ.t3' ?_ ?_ ?_))
    all_goals rfl

set_option maxHeartbeats 2000000 in
theorem valsOfE_fn (xs : List (List Cell)) (hf : fitsCC xs) (hl : xs.length ≤ 200) (h0 : firstV xs ≠ 0) : Fun env.P 105 [cellssD xs] (.tup [.d (.sl 5 []), .d (dI (firstV xs))]) [] := by
  refine Fun.intro Try.func105 rfl (by kernel_rfl) rfl ?_
  repeat' (first | refine W.seq ?_ | refine W.rg ?_ | refine W.dra' ?_ | refine W.block ?_ | refine W.skip ?_ | refine W.exit ?_ | refine W.cond_true' ?_ | refine W.cond_false' ?_ | refine WG.nil ?_ | refine WG.run' (E := env) ?_ | refine WG.gt' ?_ | refine WG.gf' ?_ | refine WG.ixm' (E := env) ?_ | refine WG.ixo' (E := env) ?_ | refine WG.legm' (E := env) ?_ | refine WG.slS' (E := env) ?_ | refine WG.slD' (E := env) ?_ | refine WG.ap' (E := env) ?_ | refine WD.nil ?_ | refine WD.bs' (E := env) ?_ | refine WD.s' (E := env) (t := .d _) ?_ | refine WD.p' ?_ | refine WD.px' ?_ | refine WD.s' (E := env) (t := .ea _ _) ?_ | refine WD.s' (E := env) (t := .lp _ _) ?_ | refine WD.s' (E := env) (t := .og _ _) ?_ | refine WD.s' (E := env) (t := .agg _) ?_ | refine WD.s' (E := env) (t := .tup _) ?_ | refine WD.s' (E := env) (t := .clo _ _) ?_ | refine WD.ixm' (E := env) ?_ | refine WD.ixo' (E := env) ?_ | refine WD.legm' (E := env) ?_ | refine WD.slS' (E := env) ?_ | refine WD.slD' (E := env) ?_ | ((first | refine WG.sp' (fun h => ?_) fun h => ?_ | refine W.cond' (fun h => ?_) fun h => ?_ | refine WD.sp' (fun h => ?_) fun h => ?_) <;> (try simp only [decide_eq_true_eq, decide_eq_false_iff_not, Bool.not_eq_true', Bool.not_eq_false', Bool.and_eq_true, Bool.or_eq_true, Bool.and_eq_false_iff, Bool.or_eq_false_iff, Bool.not_eq_true, Bool.not_eq_false, Int.not_lt, Int.not_le, List.length_map, beq_self_eq_true, Bool.true_eq_false, Bool.false_eq_true] at h) <;> (try (exfalso; first | contradiction | omega))))
  refine W.loopI (fun m S => ∃ (i : Nat) (rv : List (List D)), m = xs.length - i ∧ (i ≤ xs.length ∧ rv.length = i ∧ firstV (xs.drop i) = firstV xs) ∧ S = ⟨ofL [(4, .og 0 0), (10, .d (cellssD xs)), (11, vI .i64 (xs.map cellsR).length), (12, vI .i64 i)], [.gr 5 112 rv 0 false]⟩) _ _ ⟨0, [], rfl, ⟨by omega, rfl, by simp⟩, rfl⟩ (St.imp.of_le (by (refine le_ofL rfl ?_ ?_ <;> (repeat (first | exact trivial | refine ⟨⟨rfl, rfl⟩, ?_⟩ | refine ⟨rfl, .inl rfl, ?_⟩ | refine ⟨rfl, .inr rfl, ?_⟩))))) ?_
  rintro m S ⟨i, rv, rfl, ⟨hi, hrl, hfe⟩, rfl⟩
  by_cases hlt : i < xs.length
  · have hv := valOf_fn' (xs.getD (Int.toNat (i : Int)) default) (hf.1 _ (getD_mem' (by rw [Int.toNat_natCast]; exact hlt)))
    rw [firstV_step hlt, ← Int.toNat_natCast i] at hfe
    generalize (valOfM (xs.getD (Int.toNat (i : Int)) default)).1 = v at hv
    generalize (valOfM (xs.getD (Int.toNat (i : Int)) default)).2 = c at hv hfe
    repeat' (first | refine W.seq ?_ | refine W.rg ?_ | refine W.dra' ?_ | refine W.block ?_ | refine W.skip ?_ | refine W.exit ?_ | refine W.cond_true' ?_ | refine W.cond_false' ?_ | refine WG.nil ?_ | refine WG.run' (E := env) ?_ | refine WG.gt' ?_ | refine WG.gf' ?_ | refine WG.ixm' (E := env) ?_ | refine WG.ixo' (E := env) ?_ | refine WG.legm' (E := env) ?_ | refine WG.slS' (E := env) ?_ | refine WG.slD' (E := env) ?_ | refine WG.ap' (E := env) ?_ | refine WD.nil ?_ | refine WD.bs' (E := env) ?_ | refine WD.s' (E := env) (t := .d _) ?_ | refine WD.p' ?_ | refine WD.px' ?_ | refine WD.s' (E := env) (t := .ea _ _) ?_ | refine WD.s' (E := env) (t := .lp _ _) ?_ | refine WD.s' (E := env) (t := .og _ _) ?_ | refine WD.s' (E := env) (t := .agg _) ?_ | refine WD.s' (E := env) (t := .tup _) ?_ | refine WD.s' (E := env) (t := .clo _ _) ?_ | refine WD.ixm' (E := env) ?_ | refine WD.ixo' (E := env) ?_ | refine WD.legm' (E := env) ?_ | refine WD.slS' (E := env) ?_ | refine WD.slD' (E := env) ?_ | refine WG.c (E := env) rfl rfl (hv) rfl rfl ?_ | refine WD.c (E := env) rfl rfl (hv) rfl rfl ?_ | refine WG.co (E := env) rfl rfl (hv) rfl rfl rfl rfl ?_ | refine WG.cx (E := env) rfl (hv) rfl ?_ | ((first | refine WG.sp' (fun h => ?_) fun h => ?_ | refine W.cond' (fun h => ?_) fun h => ?_ | refine WD.sp' (fun h => ?_) fun h => ?_) <;> (try simp only [decide_eq_true_eq, decide_eq_false_iff_not, Bool.not_eq_true', Bool.not_eq_false', Bool.and_eq_true, Bool.or_eq_true, Bool.and_eq_false_iff, Bool.or_eq_false_iff, Bool.not_eq_true, Bool.not_eq_false, Int.not_lt, Int.not_le, List.length_map, beq_self_eq_true, Bool.true_eq_false, Bool.false_eq_true] at h) <;> (try (exfalso; first | contradiction | omega))))
    · (refine W.ret ?_; (first | refine RetQ.b' ?_ | refine RetQ.i' ?_ | refine RetQ.d' ?_ | refine RetQ.t2' ?_ ?_ | refine RetQ.t3' ?_ ?_ ?_))
      all_goals first | rfl | (rw [← hfe, if_pos (by assumption)]; done) | (rw [← hfe, if_pos (by assumption)]; rfl)
    · refine ⟨_, _, by omega, ⟨i + 1, rv ++ [V.rowP v], rfl, ⟨by omega, by simp [hrl], ?_⟩, rfl⟩, (St.imp.rev 0 1 rfl).trans (St.imp.of_le (by (refine le_ofL rfl ?_ ?_ <;> (repeat (first | exact trivial | refine ⟨⟨rfl, rfl⟩, ?_⟩ | refine ⟨rfl, .inl rfl, ?_⟩ | refine ⟨rfl, .inr rfl, ?_⟩)))))⟩
      rw [← hfe, if_neg (fun h => h (by assumption)), Int.toNat_natCast]
  · exfalso
    rw [List.drop_eq_nil_of_le (by omega)] at hfe
    exact h0 hfe.symm

noncomputable def arrC (xs : List (List Cell)) : Int := if 200 < xs.length then 2 else if firstV xs ≠ 0 then firstV xs else faultV (arrV (valsV xs))
noncomputable def arrR (xs : List (List Cell)) : List Cell := if 200 < xs.length then [] else if firstV xs ≠ 0 then [] else madeC (arrV (valsV xs))

set_option maxHeartbeats 2000000 in
theorem ArrayValue_fn (xs : List (List Cell)) (hf : fitsCC xs) : Fun env.P 36 [cellssD xs] (.agg [vI .i64 (arrC xs), .og 0 0]) [.gr 5 91 ((arrR xs).map Cell.row) 0 false] := by
  unfold arrC arrR
  have hl := hf.2
  by_cases h2 : 200 < xs.length
  · rw [if_pos h2, if_pos h2]
    refine Fun.intro Try.func36 rfl (by kernel_rfl) rfl ?_
    repeat' (first | refine W.seq ?_ | refine W.rg ?_ | refine W.dra' ?_ | refine W.block ?_ | refine W.skip ?_ | refine W.exit ?_ | refine W.cond_true' ?_ | refine W.cond_false' ?_ | refine WG.nil ?_ | refine WG.run' (E := env) ?_ | refine WG.gt' ?_ | refine WG.gf' ?_ | refine WG.ixm' (E := env) ?_ | refine WG.ixo' (E := env) ?_ | refine WG.legm' (E := env) ?_ | refine WG.slS' (E := env) ?_ | refine WG.slD' (E := env) ?_ | refine WG.ap' (E := env) ?_ | refine WD.nil ?_ | refine WD.bs' (E := env) ?_ | refine WD.s' (E := env) (t := .d _) ?_ | refine WD.p' ?_ | refine WD.px' ?_ | refine WD.s' (E := env) (t := .ea _ _) ?_ | refine WD.s' (E := env) (t := .lp _ _) ?_ | refine WD.s' (E := env) (t := .og _ _) ?_ | refine WD.s' (E := env) (t := .agg _) ?_ | refine WD.s' (E := env) (t := .tup _) ?_ | refine WD.s' (E := env) (t := .clo _ _) ?_ | refine WD.ixm' (E := env) ?_ | refine WD.ixo' (E := env) ?_ | refine WD.legm' (E := env) ?_ | refine WD.slS' (E := env) ?_ | refine WD.slD' (E := env) ?_ | ((first | refine WG.sp' (fun h => ?_) fun h => ?_ | refine W.cond' (fun h => ?_) fun h => ?_ | refine WD.sp' (fun h => ?_) fun h => ?_) <;> (try simp only [decide_eq_true_eq, decide_eq_false_iff_not, Bool.not_eq_true', Bool.not_eq_false', Bool.and_eq_true, Bool.or_eq_true, Bool.and_eq_false_iff, Bool.or_eq_false_iff, Bool.not_eq_true, Bool.not_eq_false, Int.not_lt, Int.not_le, List.length_map, beq_self_eq_true, Bool.true_eq_false, Bool.false_eq_true] at h) <;> (try (exfalso; first | contradiction | omega))))
    (refine W.ret ?_; first | refine RetR.g' ?_ | refine RetR.ag' ?_ ?_ | refine RetR.agn' ?_ | exact RetR.gn' | refine RetR.ag3' ?_ ?_ ?_ | refine RetR.agn3' ?_ ?_)
    all_goals rfl
  · rw [if_neg h2, if_neg h2]
    by_cases h0 : firstV xs = 0
    · rw [if_neg (fun h => h h0), if_neg (fun h => h h0)]
      have h1 := valsOf_fn xs hf (by omega) h0
      have h3 := arrayP_fn (valsV xs)
      have hcc := valsV_counts h0
      have h4 := madeP_fn (arrV (valsV xs)) (arrV_good fun v hv => (valsV_fine h0 v hv).1) (by rw [arrV_count]; omega)
      change Fun env.P 107 [.sl 5 ((valsV xs).map V.row)] (.d (.agg (arrV (valsV xs)).rowP)) [] at h3
      generalize faultV (arrV (valsV xs)) = c at h4 ⊢
      generalize madeC (arrV (valsV xs)) = rs at h4 ⊢
      refine Fun.intro Try.func36 rfl (by kernel_rfl) rfl ?_
      repeat' (first | refine W.seq ?_ | refine W.rg ?_ | refine W.dra' ?_ | refine W.block ?_ | refine W.skip ?_ | refine W.exit ?_ | refine W.cond_true' ?_ | refine W.cond_false' ?_ | refine WG.nil ?_ | refine WG.run' (E := env) ?_ | refine WG.gt' ?_ | refine WG.gf' ?_ | refine WG.ixm' (E := env) ?_ | refine WG.ixo' (E := env) ?_ | refine WG.legm' (E := env) ?_ | refine WG.slS' (E := env) ?_ | refine WG.slD' (E := env) ?_ | refine WG.ap' (E := env) ?_ | refine WD.nil ?_ | refine WD.bs' (E := env) ?_ | refine WD.s' (E := env) (t := .d _) ?_ | refine WD.p' ?_ | refine WD.px' ?_ | refine WD.s' (E := env) (t := .ea _ _) ?_ | refine WD.s' (E := env) (t := .lp _ _) ?_ | refine WD.s' (E := env) (t := .og _ _) ?_ | refine WD.s' (E := env) (t := .agg _) ?_ | refine WD.s' (E := env) (t := .tup _) ?_ | refine WD.s' (E := env) (t := .clo _ _) ?_ | refine WD.ixm' (E := env) ?_ | refine WD.ixo' (E := env) ?_ | refine WD.legm' (E := env) ?_ | refine WD.slS' (E := env) ?_ | refine WD.slD' (E := env) ?_ | refine WG.c (E := env) rfl rfl (h1) rfl rfl ?_ | refine WD.c (E := env) rfl rfl (h1) rfl rfl ?_ | refine WG.co (E := env) rfl rfl (h1) rfl rfl rfl rfl ?_ | refine WG.cx (E := env) rfl (h1) rfl ?_ | refine WG.c (E := env) rfl rfl (h3) rfl rfl ?_ | refine WD.c (E := env) rfl rfl (h3) rfl rfl ?_ | refine WG.co (E := env) rfl rfl (h3) rfl rfl rfl rfl ?_ | refine WG.cx (E := env) rfl (h3) rfl ?_ | refine WG.coG' (E := env) rfl rfl (h4) rfl ?_ | refine WG.coA' (E := env) rfl rfl (h4) rfl ?_ | refine WG.coA3' (E := env) rfl rfl (h4) rfl ?_ | ((first | refine WG.sp' (fun h => ?_) fun h => ?_ | refine W.cond' (fun h => ?_) fun h => ?_ | refine WD.sp' (fun h => ?_) fun h => ?_) <;> (try simp only [decide_eq_true_eq, decide_eq_false_iff_not, Bool.not_eq_true', Bool.not_eq_false', Bool.and_eq_true, Bool.or_eq_true, Bool.and_eq_false_iff, Bool.or_eq_false_iff, Bool.not_eq_true, Bool.not_eq_false, Int.not_lt, Int.not_le, List.length_map, beq_self_eq_true, Bool.true_eq_false, Bool.false_eq_true] at h) <;> (try (exfalso; first | contradiction | omega))))
      (refine W.ret ?_; first | refine RetR.g' ?_ | refine RetR.ag' ?_ ?_ | refine RetR.agn' ?_ | exact RetR.gn' | refine RetR.ag3' ?_ ?_ ?_ | refine RetR.agn3' ?_ ?_)
      all_goals rfl
    · rw [if_pos h0, if_pos h0]
      have h1 := valsOfE_fn xs hf (by omega) h0
      generalize firstV xs = c at h1 h0 ⊢
      refine Fun.intro Try.func36 rfl (by kernel_rfl) rfl ?_
      repeat' (first | refine W.seq ?_ | refine W.rg ?_ | refine W.dra' ?_ | refine W.block ?_ | refine W.skip ?_ | refine W.exit ?_ | refine W.cond_true' ?_ | refine W.cond_false' ?_ | refine WG.nil ?_ | refine WG.run' (E := env) ?_ | refine WG.gt' ?_ | refine WG.gf' ?_ | refine WG.ixm' (E := env) ?_ | refine WG.ixo' (E := env) ?_ | refine WG.legm' (E := env) ?_ | refine WG.slS' (E := env) ?_ | refine WG.slD' (E := env) ?_ | refine WG.ap' (E := env) ?_ | refine WD.nil ?_ | refine WD.bs' (E := env) ?_ | refine WD.s' (E := env) (t := .d _) ?_ | refine WD.p' ?_ | refine WD.px' ?_ | refine WD.s' (E := env) (t := .ea _ _) ?_ | refine WD.s' (E := env) (t := .lp _ _) ?_ | refine WD.s' (E := env) (t := .og _ _) ?_ | refine WD.s' (E := env) (t := .agg _) ?_ | refine WD.s' (E := env) (t := .tup _) ?_ | refine WD.s' (E := env) (t := .clo _ _) ?_ | refine WD.ixm' (E := env) ?_ | refine WD.ixo' (E := env) ?_ | refine WD.legm' (E := env) ?_ | refine WD.slS' (E := env) ?_ | refine WD.slD' (E := env) ?_ | refine WG.c (E := env) rfl rfl (h1) rfl rfl ?_ | refine WD.c (E := env) rfl rfl (h1) rfl rfl ?_ | refine WG.co (E := env) rfl rfl (h1) rfl rfl rfl rfl ?_ | refine WG.cx (E := env) rfl (h1) rfl ?_ | ((first | refine WG.sp' (fun h => ?_) fun h => ?_ | refine W.cond' (fun h => ?_) fun h => ?_ | refine WD.sp' (fun h => ?_) fun h => ?_) <;> (try simp only [decide_eq_true_eq, decide_eq_false_iff_not, Bool.not_eq_true', Bool.not_eq_false', Bool.and_eq_true, Bool.or_eq_true, Bool.and_eq_false_iff, Bool.or_eq_false_iff, Bool.not_eq_true, Bool.not_eq_false, Int.not_lt, Int.not_le, List.length_map, beq_self_eq_true, Bool.true_eq_false, Bool.false_eq_true] at h) <;> (try (exfalso; first | contradiction | omega))))
      all_goals (refine W.ret ?_; first | refine RetR.g' ?_ | refine RetR.ag' ?_ ?_ | refine RetR.agn' ?_ | exact RetR.gn' | refine RetR.ag3' ?_ ?_ ?_ | refine RetR.agn3' ?_ ?_)
      all_goals rfl

end Go.Proofs.Ytlegadpbjccelaa
