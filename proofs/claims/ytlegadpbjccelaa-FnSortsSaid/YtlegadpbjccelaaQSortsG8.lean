/-
  The parts of a value and their keys: the program's ChildrenAt, the reference's children, parts and keys. Conditions: none.
-/
import Derived.Test.YtlegadpbjccelaaQSortsG7
import Derived.Test.YtlegadpbjccelaaQSortsP2
import Derived.Test.YtlegadpbjccelaaQSortsPgD
import Derived.Test.YtlegadpbjccelaaQSortsEnv
import Derived.Test.YtlegadpbjccelaaQSortsOr1
import Derived.Test.YtlegadpbjccelaaQSortsTh1
import Derived.Test.YtlegadpbjccelaaQSortsV6
import Derived.Test.YtlegadpbjccelaaQSortsG3
set_option linter.unusedVariables false
set_option linter.unusedSimpArgs false
set_option maxRecDepth 100000
namespace Go.Proofs.Ytlegadpbjccelaa
open Go.RowKit

/-- Where the first parts of a value begin. -/
def V.ats (v : V) (k n : Nat) : List Int := (List.range n).map fun i => ((v.at k i : Nat) : Int)
theorem V.ats_succ (v : V) (k n : Nat) : v.ats k (n + 1) = v.ats k n ++ [((v.at k n : Nat) : Int)] := by simp [V.ats, List.range_succ]
theorem V.ats_length (v : V) (k n : Nat) : (v.ats k n).length = n := by simp [V.ats]
theorem V.ats_at (v : V) (k n i : Nat) (h : i < n) : (v.ats k n).getD i default = ((v.at k i : Nat) : Int) := by simp [V.ats, h]

theorem valOfM_codes {cs : List Cell} (h : (valOfM cs).2 = 0) : ∀ i, i < cs.length → cellCode (cs.getD i default) = 0 := by
  obtain ⟨_, hl1, hl2, hcc⟩ := valOfM_kind h
  exact cellsCode_kind hcc

theorem endM_kid {cs : List Cell} (h : (valOfM cs).2 = 0) {k : Nat} {v : V} {b : Nat} (hv : valA cs k = some (v, b)) {j : Nat} (hj : j < v.kids.length) : endM cs (v.at k j) = v.at k (j + 1) ∧ v.at k j < cs.length := by
  obtain ⟨h1, _, _, h4⟩ := kid_at (valOfM_codes h) hv hj
  have := valA_le h1
  have := valA_le hv
  exact ⟨by unfold endM; rw [h1], by omega⟩

theorem kids_le {cs : List Cell} {k : Nat} {v : V} {b : Nat} (h : (valOfM cs).2 = 0) (hv : valA cs k = some (v, b)) : v.kids.length ≤ cs.length := by
  obtain ⟨h1, h2, h3, h4⟩ := valA_split (valOfM_codes h) hv
  have hlc := V.length_counts v.kids
  cases v with
  | mk a b c d e => simp only [V.count, V.kids] at *; omega

set_option maxHeartbeats 1000000 in
theorem l1Children_fn (cs : List Cell) (h0 : (valOfM cs).2 = 0) (k : Nat) (v : V) (b : Nat) (hv : valA cs k = some (v, b)) :
    Fun env.P 176 [cellsD cs, dI k] (.og 0 0) [.gr 1 2 ((v.ats k v.kids.length).map intRow) 0 false] := by
  have hl := (valOfM_kind h0).2.2.1
  have hn := (valA_head (valOfM_codes h0) hv).2.2.2
  have hle := valA_le hv
  have hkl := kids_le h0 hv
  have hcell : (cs.getD (Int.toNat (k : Int)) default).n = (v.kids.length : Int) := by rw [Int.toNat_natCast, hn]
  refine Fun.intro Try.func176 rfl (by kernel_rfl) rfl ?_
  repeat' (first | refine W.seq ?_ | refine W.rg ?_ | refine W.dra' ?_ | refine W.block ?_ | refine W.skip ?_ | refine W.exit ?_ | refine W.cond_true' ?_ | refine W.cond_false' ?_ | refine WG.nil ?_ | refine WG.run' (E := env) ?_ | refine WG.gt' ?_ | refine WG.gf' ?_ | refine WG.ixm' (E := env) ?_ | refine WG.ixo' (E := env) ?_ | refine WG.legm' (E := env) ?_ | refine WG.slS' (E := env) ?_ | refine WG.slD' (E := env) ?_ | refine WG.ap' (E := env) ?_ | refine WD.nil ?_ | refine WD.bs' (E := env) ?_ | refine WD.s' (E := env) (t := .d _) ?_ | refine WD.p' ?_ | refine WD.px' ?_ | refine WD.s' (E := env) (t := .ea _ _) ?_ | refine WD.s' (E := env) (t := .lp _ _) ?_ | refine WD.s' (E := env) (t := .og _ _) ?_ | refine WD.s' (E := env) (t := .agg _) ?_ | refine WD.s' (E := env) (t := .tup _) ?_ | refine WD.s' (E := env) (t := .clo _ _) ?_ | refine WD.ixm' (E := env) ?_ | refine WD.ixo' (E := env) ?_ | refine WD.legm' (E := env) ?_ | refine WD.slS' (E := env) ?_ | refine WD.slD' (E := env) ?_ | ((first | refine WG.sp' (fun h => ?_) fun h => ?_ | refine W.cond' (fun h => ?_) fun h => ?_ | refine WD.sp' (fun h => ?_) fun h => ?_) <;> (try simp only [decide_eq_true_eq, decide_eq_false_iff_not, Bool.not_eq_true', Bool.not_eq_false', Bool.and_eq_true, Bool.or_eq_true, Bool.and_eq_false_iff, Bool.or_eq_false_iff, Bool.not_eq_true, Bool.not_eq_false, Int.not_lt, Int.not_le, List.length_map, beq_self_eq_true, Bool.true_eq_false, Bool.false_eq_true] at h) <;> (try (exfalso; first | contradiction | omega))))
  refine W.loopI (fun m S => ∃ (i : Nat) (rv : List (List D)) (q : Int), m = v.kids.length - i ∧ (i ≤ v.kids.length ∧ rv = (v.ats k i).map intRow ∧ q = ((v.at k i : Nat) : Int)) ∧
    S = ⟨ofL [(0, .d (cellsD cs)), (1, vI .i64 k), (5, .og 0 0), (6, vI .i64 q), (7, vI .i64 i)], [.gr 1 2 rv 0 false]⟩) _ _ ⟨0, [], _, rfl, ⟨by omega, rfl, by rw [V.at_zero]⟩, rfl⟩ (St.imp.of_le (by (refine le_ofL rfl ?_ ?_ <;> (repeat (first | exact trivial | refine ⟨⟨rfl, rfl⟩, ?_⟩ | refine ⟨rfl, .inl rfl, ?_⟩ | refine ⟨rfl, .inr rfl, ?_⟩))))) ?_
  rintro m S ⟨i, rv, q, rfl, ⟨hi, hrv, hq⟩, rfl⟩
  have hlen : rv.length = i := by rw [hrv, List.length_map, V.ats_length]
  by_cases hlt : i < v.kids.length
  · obtain ⟨he, hnl⟩ := endM_kid h0 hv hlt
    have hend := l1End_fn cs (v.at k i) hl (by omega) (valOfM_every h0 _ hnl)
    rw [he, ← hq] at hend
    repeat' (first | refine W.seq ?_ | refine W.rg ?_ | refine W.dra' ?_ | refine W.block ?_ | refine W.skip ?_ | refine W.exit ?_ | refine W.cond_true' ?_ | refine W.cond_false' ?_ | refine WG.nil ?_ | refine WG.run' (E := env) ?_ | refine WG.gt' ?_ | refine WG.gf' ?_ | refine WG.ixm' (E := env) ?_ | refine WG.ixo' (E := env) ?_ | refine WG.legm' (E := env) ?_ | refine WG.slS' (E := env) ?_ | refine WG.slD' (E := env) ?_ | refine WG.ap' (E := env) ?_ | refine WD.nil ?_ | refine WD.bs' (E := env) ?_ | refine WD.s' (E := env) (t := .d _) ?_ | refine WD.p' ?_ | refine WD.px' ?_ | refine WD.s' (E := env) (t := .ea _ _) ?_ | refine WD.s' (E := env) (t := .lp _ _) ?_ | refine WD.s' (E := env) (t := .og _ _) ?_ | refine WD.s' (E := env) (t := .agg _) ?_ | refine WD.s' (E := env) (t := .tup _) ?_ | refine WD.s' (E := env) (t := .clo _ _) ?_ | refine WD.ixm' (E := env) ?_ | refine WD.ixo' (E := env) ?_ | refine WD.legm' (E := env) ?_ | refine WD.slS' (E := env) ?_ | refine WD.slD' (E := env) ?_ | refine WG.c (E := env) rfl rfl (hend) rfl rfl ?_ | refine WD.c (E := env) rfl rfl (hend) rfl rfl ?_ | refine WG.co (E := env) rfl rfl (hend) rfl rfl rfl rfl ?_ | refine WG.cx (E := env) rfl (hend) rfl ?_ | ((first | refine WG.sp' (fun h => ?_) fun h => ?_ | refine W.cond' (fun h => ?_) fun h => ?_ | refine WD.sp' (fun h => ?_) fun h => ?_) <;> (try simp only [decide_eq_true_eq, decide_eq_false_iff_not, Bool.not_eq_true', Bool.not_eq_false', Bool.and_eq_true, Bool.or_eq_true, Bool.and_eq_false_iff, Bool.or_eq_false_iff, Bool.not_eq_true, Bool.not_eq_false, Int.not_lt, Int.not_le, List.length_map, beq_self_eq_true, Bool.true_eq_false, Bool.false_eq_true] at h) <;> (try (exfalso; first | contradiction | omega))))
    refine ⟨_, _, by omega, ⟨i + 1, _, _, rfl, ⟨by omega, ?_, rfl⟩, rfl⟩, (St.imp.rev 0 1 rfl).trans (St.imp.of_le (by (refine le_ofL rfl ?_ ?_ <;> (repeat (first | exact trivial | refine ⟨⟨rfl, rfl⟩, ?_⟩ | refine ⟨rfl, .inl rfl, ?_⟩ | refine ⟨rfl, .inr rfl, ?_⟩)))))⟩
    rw [V.ats_succ, List.map_append, ← hrv, hq]
    rfl
  · obtain rfl : i = v.kids.length := by omega
    repeat' (first | refine W.seq ?_ | refine W.rg ?_ | refine W.dra' ?_ | refine W.block ?_ | refine W.skip ?_ | refine W.exit ?_ | refine W.cond_true' ?_ | refine W.cond_false' ?_ | refine WG.nil ?_ | refine WG.run' (E := env) ?_ | refine WG.gt' ?_ | refine WG.gf' ?_ | refine WG.ixm' (E := env) ?_ | refine WG.ixo' (E := env) ?_ | refine WG.legm' (E := env) ?_ | refine WG.slS' (E := env) ?_ | refine WG.slD' (E := env) ?_ | refine WG.ap' (E := env) ?_ | refine WD.nil ?_ | refine WD.bs' (E := env) ?_ | refine WD.s' (E := env) (t := .d _) ?_ | refine WD.p' ?_ | refine WD.px' ?_ | refine WD.s' (E := env) (t := .ea _ _) ?_ | refine WD.s' (E := env) (t := .lp _ _) ?_ | refine WD.s' (E := env) (t := .og _ _) ?_ | refine WD.s' (E := env) (t := .agg _) ?_ | refine WD.s' (E := env) (t := .tup _) ?_ | refine WD.s' (E := env) (t := .clo _ _) ?_ | refine WD.ixm' (E := env) ?_ | refine WD.ixo' (E := env) ?_ | refine WD.legm' (E := env) ?_ | refine WD.slS' (E := env) ?_ | refine WD.slD' (E := env) ?_ | ((first | refine WG.sp' (fun h => ?_) fun h => ?_ | refine W.cond' (fun h => ?_) fun h => ?_ | refine WD.sp' (fun h => ?_) fun h => ?_) <;> (try simp only [decide_eq_true_eq, decide_eq_false_iff_not, Bool.not_eq_true', Bool.not_eq_false', Bool.and_eq_true, Bool.or_eq_true, Bool.and_eq_false_iff, Bool.or_eq_false_iff, Bool.not_eq_true, Bool.not_eq_false, Int.not_lt, Int.not_le, List.length_map, beq_self_eq_true, Bool.true_eq_false, Bool.false_eq_true] at h) <;> (try (exfalso; first | contradiction | omega))))
    (refine W.ret ?_; first | refine RetR.g' ?_ | refine RetR.ag' ?_ ?_ | refine RetR.agn' ?_ | exact RetR.gn' | refine RetR.ag3' ?_ ?_ ?_ | refine RetR.agn3' ?_ ?_)
    exact hrv

end Go.Proofs.Ytlegadpbjccelaa
