/-
  The law of RangeOf. Conditions: none.
-/
import Derived.Test.YtlegadpbjccelaaG3
import Derived.Test.YtlegadpbjccelaaC2
set_option linter.unusedVariables false
set_option linter.unusedSimpArgs false
set_option maxRecDepth 100000
namespace Go.Proofs.Ytlegadpbjccelaa
open Go.RowKit

def numsV (m : Nat) : List V := (List.range m).map fun (j : Nat) => V.mk 3 (j : Int) noS [] []
theorem numsV_succ (m : Nat) : numsV (m + 1) = numsV m ++ [V.mk 3 (m : Int) noS [] []] := by simp [numsV, List.range_succ]
theorem numsV_length (m : Nat) : (numsV m).length = m := by simp [numsV]
theorem numsV_counts : ∀ m : Nat, V.counts (numsV m) = m
  | 0 => rfl
  | m + 1 => by rw [numsV_succ, V.counts_app, numsV_counts m]; rfl
theorem numsV_depths : ∀ m : Nat, V.depths (numsV m) ≤ 1
  | 0 => by decide
  | m + 1 => by
    have := numsV_depths m
    rw [numsV_succ, V.depths_app]
    have : (V.mk 3 (m : Int) noS [] []).depth = 1 := rfl
    omega
def numsC (m : Nat) : List Cell := (List.range m).map fun (j : Nat) => ⟨3, (j : Int), noS, noS, 0⟩
theorem numsC_succ (m : Nat) : numsC (m + 1) = numsC m ++ [⟨3, (m : Int), noS, noS, 0⟩] := by simp [numsC, List.range_succ]
theorem numsC_length (m : Nat) : (numsC m).length = m := by simp [numsC]
theorem numsV_cells : ∀ m : Nat, V.kidsC (numsV m) [] = numsC m
  | 0 => rfl
  | m + 1 => by rw [numsV_succ, V.kidsC_app0, numsV_cells m, numsC_succ]; rfl

def rangeV (m : Nat) : V := .mk 5 0 noS [] (numsV m)
theorem rangeV_cells (m : Nat) : (rangeV m).cells = ⟨5, 0, noS, noS, (m : Int)⟩ :: numsC m := by
  show (⟨5, 0, noS, noS, ((numsV m).length : Int)⟩ : Cell) :: V.kidsC (numsV m) [] = _
  rw [numsV_length, numsV_cells]
theorem rangeV_good {m : Nat} (h : m ≤ 199) : (rangeV m).good :=
  ⟨by decide, fun h => absurd rfl h, fun h => absurd rfl h, fun _ => .inl rfl, by decide, rfl, fun h => absurd h (by decide), fun _ => rfl, fun k hk => absurd hk (by simp), trivial, V.goods_of fun v hv => by
    obtain ⟨j, hj, rfl⟩ := List.mem_map.1 hv
    have := List.mem_range.1 hj
    exact number_good _ (by omega)⟩
theorem rangeV_count (m : Nat) : (rangeV m).count = m + 1 := by
  show V.counts (numsV m) + 1 = _
  rw [numsV_counts]
theorem rangeV_fault {m : Nat} (h : m ≤ 199) : faultV (rangeV m) = 0 := by
  have hd : (rangeV m).depth = V.depths (numsV m) + 1 := rfl
  have := numsV_depths m
  unfold faultV
  rw [rangeV_count, if_neg (by omega), if_neg (by omega)]

theorem arrayP_fn (kids : List V) : Fun env.P 107 [.sl 5 (kids.map V.row)] (.d (.agg (V.mk 5 0 noS [] kids).rowP)) [] := by
  refine Fun.intro Try.func107 rfl (by kernel_rfl) rfl ?_
  repeat' (first | refine W.seq ?_ | refine W.rg ?_ | refine W.dra' ?_ | refine W.block ?_ | refine W.skip ?_ | refine W.exit ?_ | refine W.cond_true' ?_ | refine W.cond_false' ?_ | refine WG.nil ?_ | refine WG.run' (E := env) ?_ | refine WG.gt' ?_ | refine WG.gf' ?_ | refine WG.ixm' (E := env) ?_ | refine WG.ixo' (E := env) ?_ | refine WG.legm' (E := env) ?_ | refine WG.slS' (E := env) ?_ | refine WG.slD' (E := env) ?_ | refine WG.ap' (E := env) ?_ | refine WD.nil ?_ | refine WD.bs' (E := env) ?_ | refine WD.s' (E := env) (t := .d _) ?_ | refine WD.p' ?_ | refine WD.px' ?_ | refine WD.s' (E := env) (t := .ea _ _) ?_ | refine WD.s' (E := env) (t := .lp _ _) ?_ | refine WD.s' (E := env) (t := .og _ _) ?_ | refine WD.s' (E := env) (t := .agg _) ?_ | refine WD.s' (E := env) (t := .tup _) ?_ | refine WD.s' (E := env) (t := .clo _ _) ?_ | refine WD.ixm' (E := env) ?_ | refine WD.ixo' (E := env) ?_ | refine WD.legm' (E := env) ?_ | refine WD.slS' (E := env) ?_ | refine WD.slD' (E := env) ?_ | ((first | refine WG.sp' (fun h => ?_) fun h => ?_ | refine W.cond' (fun h => ?_) fun h => ?_ | refine WD.sp' (fun h => ?_) fun h => ?_) <;> (try simp only [decide_eq_true_eq, decide_eq_false_iff_not, Bool.not_eq_true', Bool.not_eq_false', Bool.and_eq_true, Bool.or_eq_true, Bool.and_eq_false_iff, Bool.or_eq_false_iff, Bool.not_eq_true, Bool.not_eq_false, Int.not_lt, Int.not_le, List.length_map, beq_self_eq_true, Bool.true_eq_false, Bool.false_eq_true] at h) <;> (try (exfalso; first | contradiction | omega))))
  (refine W.ret ?_; (first | refine RetQ.b' ?_ | refine RetQ.i' ?_ | refine RetQ.d' ?_ | refine RetQ.t2' ?_ ?_ | refine RetQ.t3' ?_ ?_ ?_))
  rfl


def rangeCode (n : Int) : Int := if 199 < n then 3 else 0
def rangeC (n : Int) : List Cell := if 199 < n then [] else ⟨5, 0, noS, noS, (n.toNat : Int)⟩ :: numsC n.toNat


theorem l1NumberD_fn (n : Int) : Fun env.P 234 [dI n] (.d (cellsD [⟨3, n, noS, noS, 0⟩])) [] := by
  refine Fun.intro Try.func234 rfl (by kernel_rfl) rfl ?_
  repeat' (first | refine W.seq ?_ | refine W.rg ?_ | refine W.dra' ?_ | refine W.block ?_ | refine W.skip ?_ | refine W.exit ?_ | refine W.cond_true' ?_ | refine W.cond_false' ?_ | refine WG.nil ?_ | refine WG.run' (E := env) ?_ | refine WG.gt' ?_ | refine WG.gf' ?_ | refine WG.ixm' (E := env) ?_ | refine WG.ixo' (E := env) ?_ | refine WG.legm' (E := env) ?_ | refine WG.slS' (E := env) ?_ | refine WG.slD' (E := env) ?_ | refine WG.ap' (E := env) ?_ | refine WD.nil ?_ | refine WD.bs' (E := env) ?_ | refine WD.s' (E := env) (t := .d _) ?_ | refine WD.p' ?_ | refine WD.px' ?_ | refine WD.s' (E := env) (t := .ea _ _) ?_ | refine WD.s' (E := env) (t := .lp _ _) ?_ | refine WD.s' (E := env) (t := .og _ _) ?_ | refine WD.s' (E := env) (t := .agg _) ?_ | refine WD.s' (E := env) (t := .tup _) ?_ | refine WD.s' (E := env) (t := .clo _ _) ?_ | refine WD.ixm' (E := env) ?_ | refine WD.ixo' (E := env) ?_ | refine WD.legm' (E := env) ?_ | refine WD.slS' (E := env) ?_ | refine WD.slD' (E := env) ?_ | ((first | refine WG.sp' (fun h => ?_) fun h => ?_ | refine W.cond' (fun h => ?_) fun h => ?_ | refine WD.sp' (fun h => ?_) fun h => ?_) <;> (try simp only [decide_eq_true_eq, decide_eq_false_iff_not, Bool.not_eq_true', Bool.not_eq_false', Bool.and_eq_true, Bool.or_eq_true, Bool.and_eq_false_iff, Bool.or_eq_false_iff, Bool.not_eq_true, Bool.not_eq_false, Int.not_lt, Int.not_le, List.length_map, beq_self_eq_true, Bool.true_eq_false, Bool.false_eq_true] at h) <;> (try (exfalso; first | contradiction | omega))))
  refine W.pub 0 rfl ?_
  (refine W.ret ?_; (first | refine RetQ.b' ?_ | refine RetQ.i' ?_ | refine RetQ.d' ?_ | refine RetQ.t2' ?_ ?_ | refine RetQ.t3' ?_ ?_ ?_))
  rfl

theorem flatten_take_succ (css : List (List Cell)) (i : Nat) (h : i < css.length) : (css.take (i + 1)).flatten = (css.take i).flatten ++ css.getD i default := by
  rw [take_step h, List.flatten_append]
  simp

set_option maxHeartbeats 2000000 in
theorem l1ArrayS_fn (css : List (List Cell)) (hl : css.length ≤ 1000000) (hf : ∀ i, (css.take i).flatten.length ≤ 1000000) (hx : ∀ i, (css.getD i default).length ≤ 1000000) :
    Fun env.P 104 [cellssD css] (.og 0 0) [.gr 5 91 ((⟨5, 0, noS, noS, (css.length : Int)⟩ :: css.flatten : List Cell).map Cell.row) 0 false] := by
  refine Fun.intro Try.func104 rfl (by kernel_rfl) rfl ?_
  repeat' (first | refine W.seq ?_ | refine W.rg ?_ | refine W.dra' ?_ | refine W.block ?_ | refine W.skip ?_ | refine W.exit ?_ | refine W.cond_true' ?_ | refine W.cond_false' ?_ | refine WG.nil ?_ | refine WG.run' (E := env) ?_ | refine WG.gt' ?_ | refine WG.gf' ?_ | refine WG.ixm' (E := env) ?_ | refine WG.ixo' (E := env) ?_ | refine WG.legm' (E := env) ?_ | refine WG.slS' (E := env) ?_ | refine WG.slD' (E := env) ?_ | refine WG.ap' (E := env) ?_ | refine WD.nil ?_ | refine WD.bs' (E := env) ?_ | refine WD.s' (E := env) (t := .d _) ?_ | refine WD.p' ?_ | refine WD.px' ?_ | refine WD.s' (E := env) (t := .ea _ _) ?_ | refine WD.s' (E := env) (t := .lp _ _) ?_ | refine WD.s' (E := env) (t := .og _ _) ?_ | refine WD.s' (E := env) (t := .agg _) ?_ | refine WD.s' (E := env) (t := .tup _) ?_ | refine WD.s' (E := env) (t := .clo _ _) ?_ | refine WD.ixm' (E := env) ?_ | refine WD.ixo' (E := env) ?_ | refine WD.legm' (E := env) ?_ | refine WD.slS' (E := env) ?_ | refine WD.slD' (E := env) ?_ | ((first | refine WG.sp' (fun h => ?_) fun h => ?_ | refine W.cond' (fun h => ?_) fun h => ?_ | refine WD.sp' (fun h => ?_) fun h => ?_) <;> (try simp only [decide_eq_true_eq, decide_eq_false_iff_not, Bool.not_eq_true', Bool.not_eq_false', Bool.and_eq_true, Bool.or_eq_true, Bool.and_eq_false_iff, Bool.or_eq_false_iff, Bool.not_eq_true, Bool.not_eq_false, Int.not_lt, Int.not_le, List.length_map, beq_self_eq_true, Bool.true_eq_false, Bool.false_eq_true] at h) <;> (try (exfalso; first | contradiction | omega))))
  refine W.loopI (fun m S => ∃ (i : Nat) (rv : List (List D)), m = css.length - i ∧ (i ≤ css.length ∧ rv = (css.take i).flatten.map Cell.row) ∧
    S = ⟨ofL [(0, .d (cellssD css)), (3, .og 0 0), (4, vI .i64 i)],
      [.gr 5 91 (Cell.row ⟨5, 0, noS, noS, ((css.map cellsR).length : Int)⟩ :: rv) 0 false]⟩) _ _ ⟨0, [], rfl, ⟨by omega, rfl⟩, rfl⟩ (St.imp.of_le (by (refine le_ofL rfl ?_ ?_ <;> (repeat (first | exact trivial | refine ⟨⟨rfl, rfl⟩, ?_⟩ | refine ⟨rfl, .inl rfl, ?_⟩ | refine ⟨rfl, .inr rfl, ?_⟩))))) ?_
  rintro m S ⟨i, rv, rfl, ⟨hi, hrv⟩, rfl⟩
  have hrl : rv.length ≤ 1000000 := by rw [hrv, List.length_map]; exact hf i
  by_cases hlt : i < css.length
  · have hxi := hx i
    have hxi2 : ((css.getD (Int.toNat (i : Int)) default).map Cell.row).length ≤ 1000000 := by rw [Int.toNat_natCast, List.length_map]; exact hxi
    repeat' (first | refine WG.ap (E := env) rfl rfl rfl rfl rfl rfl rfl rfl rfl rfl rfl (by show (List.length (_ :: _) + List.length (List.map Cell.row (css.getD (Int.toNat (i : Int)) default))) * 56 ≤ _; simp only [List.length_cons]; omega) ?_ | refine W.seq ?_ | refine W.rg ?_ | refine W.dra' ?_ | refine W.block ?_ | refine W.skip ?_ | refine W.exit ?_ | refine W.cond_true' ?_ | refine W.cond_false' ?_ | refine WG.nil ?_ | refine WG.run' (E := env) ?_ | refine WG.gt' ?_ | refine WG.gf' ?_ | refine WG.ixm' (E := env) ?_ | refine WG.ixo' (E := env) ?_ | refine WG.legm' (E := env) ?_ | refine WG.slS' (E := env) ?_ | refine WG.slD' (E := env) ?_ | refine WG.ap' (E := env) ?_ | refine WD.nil ?_ | refine WD.bs' (E := env) ?_ | refine WD.s' (E := env) (t := .d _) ?_ | refine WD.p' ?_ | refine WD.px' ?_ | refine WD.s' (E := env) (t := .ea _ _) ?_ | refine WD.s' (E := env) (t := .lp _ _) ?_ | refine WD.s' (E := env) (t := .og _ _) ?_ | refine WD.s' (E := env) (t := .agg _) ?_ | refine WD.s' (E := env) (t := .tup _) ?_ | refine WD.s' (E := env) (t := .clo _ _) ?_ | refine WD.ixm' (E := env) ?_ | refine WD.ixo' (E := env) ?_ | refine WD.legm' (E := env) ?_ | refine WD.slS' (E := env) ?_ | refine WD.slD' (E := env) ?_ | fail | ((first | refine WG.sp' (fun h => ?_) fun h => ?_ | refine W.cond' (fun h => ?_) fun h => ?_ | refine WD.sp' (fun h => ?_) fun h => ?_) <;> (try simp only [decide_eq_true_eq, decide_eq_false_iff_not, Bool.not_eq_true', Bool.not_eq_false', Bool.and_eq_true, Bool.or_eq_true, Bool.and_eq_false_iff, Bool.or_eq_false_iff, Bool.not_eq_true, Bool.not_eq_false, Int.not_lt, Int.not_le, List.length_map, beq_self_eq_true, Bool.true_eq_false, Bool.false_eq_true] at h) <;> (try (exfalso; first | contradiction | omega))))
    refine ⟨_, _, by omega, ⟨i + 1, _, rfl, ⟨by omega, ?_⟩, rfl⟩, (St.imp.rev 0 1 rfl).trans (St.imp.of_le (by (refine le_ofL rfl ?_ ?_ <;> (repeat (first | exact trivial | refine ⟨⟨rfl, rfl⟩, ?_⟩ | refine ⟨rfl, .inl rfl, ?_⟩ | refine ⟨rfl, .inr rfl, ?_⟩)))))⟩
    rw [flatten_take_succ css i hlt, List.map_append, ← hrv]
    rfl
  · obtain rfl : i = css.length := by omega
    repeat' (first | refine W.seq ?_ | refine W.rg ?_ | refine W.dra' ?_ | refine W.block ?_ | refine W.skip ?_ | refine W.exit ?_ | refine W.cond_true' ?_ | refine W.cond_false' ?_ | refine WG.nil ?_ | refine WG.run' (E := env) ?_ | refine WG.gt' ?_ | refine WG.gf' ?_ | refine WG.ixm' (E := env) ?_ | refine WG.ixo' (E := env) ?_ | refine WG.legm' (E := env) ?_ | refine WG.slS' (E := env) ?_ | refine WG.slD' (E := env) ?_ | refine WG.ap' (E := env) ?_ | refine WD.nil ?_ | refine WD.bs' (E := env) ?_ | refine WD.s' (E := env) (t := .d _) ?_ | refine WD.p' ?_ | refine WD.px' ?_ | refine WD.s' (E := env) (t := .ea _ _) ?_ | refine WD.s' (E := env) (t := .lp _ _) ?_ | refine WD.s' (E := env) (t := .og _ _) ?_ | refine WD.s' (E := env) (t := .agg _) ?_ | refine WD.s' (E := env) (t := .tup _) ?_ | refine WD.s' (E := env) (t := .clo _ _) ?_ | refine WD.ixm' (E := env) ?_ | refine WD.ixo' (E := env) ?_ | refine WD.legm' (E := env) ?_ | refine WD.slS' (E := env) ?_ | refine WD.slD' (E := env) ?_ | ((first | refine WG.sp' (fun h => ?_) fun h => ?_ | refine W.cond' (fun h => ?_) fun h => ?_ | refine WD.sp' (fun h => ?_) fun h => ?_) <;> (try simp only [decide_eq_true_eq, decide_eq_false_iff_not, Bool.not_eq_true', Bool.not_eq_false', Bool.and_eq_true, Bool.or_eq_true, Bool.and_eq_false_iff, Bool.or_eq_false_iff, Bool.not_eq_true, Bool.not_eq_false, Int.not_lt, Int.not_le, List.length_map, beq_self_eq_true, Bool.true_eq_false, Bool.false_eq_true] at h) <;> (try (exfalso; first | contradiction | omega))))
    refine W.ret ?_
    exact RetQ.own (tt := .og 0 0) 0 0 (.inl rfl) rfl (by first | trivial | exact resOK_of (E := env) rfl) rfl rfl rfl rfl (by rw [hrv, List.take_length, List.length_map]; rfl)

def numsL (m : Nat) : List (List Cell) := (List.range m).map fun (j : Nat) => [⟨3, (j : Int), noS, noS, 0⟩]
theorem numsL_succ (m : Nat) : numsL (m + 1) = numsL m ++ [[⟨3, (m : Int), noS, noS, 0⟩]] := by simp [numsL, List.range_succ]
theorem numsL_length (m : Nat) : (numsL m).length = m := by simp [numsL]
theorem numsL_flatten : ∀ m : Nat, (numsL m).flatten = numsC m
  | 0 => rfl
  | m + 1 => by rw [numsL_succ, List.flatten_append, numsL_flatten m, numsC_succ]; rfl
theorem numsL_take (m i : Nat) : (numsL m).take i = numsL (min i m) := by
  unfold numsL
  rw [← List.map_take, List.take_range]

theorem numsL_at (m i : Nat) : ((numsL m).getD i default).length ≤ 1 := by
  by_cases h : i < m
  · simp [numsL, h]
  · rw [List.getD_eq_getElem?_getD, List.getElem?_eq_none (by rw [numsL_length]; omega)]
    exact Nat.zero_le _





end Go.Proofs.Ytlegadpbjccelaa
