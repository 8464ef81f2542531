/-
  Slices of slices of cells that are the call's own: the laws' own copies, their marks, what is held. Conditions: none.
-/
import Derived.Test.YtlegadpbjccelaaQEachOfNe1
import Derived.Test.YtlegadpbjccelaaQEachOfOr1
import Derived.Test.YtlegadpbjccelaaQEachOfC2
import Derived.Test.YtlegadpbjccelaaQEachOfMk1
import Derived.Test.YtlegadpbjccelaaQEachOfV6
set_option linter.unusedVariables false
set_option linter.unusedSimpArgs false
set_option maxRecDepth 100000
namespace Go.Proofs.Ytlegadpbjccelaa
open Go.RowKit

abbrev neS (rows : List NR) (dd : Option (List (List D))) : ObX := nestX 24 1 0 91 5 rows none dd
def ceN (cs : List Cell) : NR := ⟨[.v undef], some (cs.map Cell.row)⟩
theorem ceN_dat (xs : List (List Cell)) : datN 0 5 (xs.map ceN) = some (xs.map cellsR) := datN_map 0 5 _ _ xs

def sumC : List (List Cell) → Nat
  | [] => 0
  | n :: r => n.length + sumC r

/-- The marks of slices of so many cells. -/
def marksSS (k : Nat) : List Nat → List (List Cell)
  | [] => []
  | l :: r => marksL k l :: marksSS (k + 5 * l) r
def endSS (k : Nat) : List Nat → Nat
  | [] => k
  | l :: r => endSS (k + 5 * l) r

theorem marksSS_length : ∀ (k : Nat) (ls : List Nat), (marksSS k ls).length = ls.length
  | _, [] => rfl
  | k, l :: r => by simp [marksSS, marksSS_length]
theorem endSS_take : ∀ (k : Nat) (ls : List Nat) (i : Nat), i < ls.length → endSS k (ls.take (i + 1)) = endSS k (ls.take i) + 5 * ls.getD i default
  | _, [], i, h => by simp at h
  | k, l :: r, 0, _ => by simp [endSS]
  | k, l :: r, i + 1, h => by
    have := endSS_take (k + 5 * l) r i (by simpa using h)
    simpa [endSS] using this
theorem marksSS_at : ∀ (k : Nat) (ls : List Nat) (i : Nat), i < ls.length → (marksSS k ls).getD i default = marksL (endSS k (ls.take i)) (ls.getD i default)
  | _, [], i, h => by simp at h
  | k, l :: r, 0, _ => by simp [marksSS, endSS]
  | k, l :: r, i + 1, h => by
    have := marksSS_at (k + 5 * l) r i (by simpa using h)
    simpa [marksSS, endSS] using this
theorem endSS_le : ∀ (k : Nat) (xs : List (List Cell)), endSS k (xs.map List.length) = k + 5 * sumC xs
  | k, [] => by simp [endSS, sumC]
  | k, n :: r => by simp only [List.map_cons, endSS, endSS_le, sumC]; omega
theorem endSS_ge : ∀ (r : List Nat) (q : Nat), q ≤ endSS q r
  | [], q => Nat.le_refl _
  | a :: r, q => Nat.le_trans (by omega) (endSS_ge r (q + 5 * a))
theorem endSS_mono : ∀ (k : Nat) (ls : List Nat) (i : Nat), endSS k (ls.take i) ≤ endSS k ls
  | k, [], i => by simp
  | k, l :: r, 0 => endSS_ge (l :: r) k
  | k, l :: r, i + 1 => by simpa [endSS] using endSS_mono (k + 5 * l) r i

set_option maxHeartbeats 8000000 in
theorem markCellSS_fn (xs : List (List Cell)) (dd : Option (List (List D))) (k : Nat) (hk : k + 5 * sumC xs ≤ 1099511000000) (hl : xs.length ≤ 1048576) :
    FunQ env.P 39 [.og 0 0, vI .i64 k] [.x (neS (xs.map ceN) dd) 0]
      (just (vI .i64 ((k + 5 * sumC xs : Nat) : Int)) [.x (neS ((marksSS k (xs.map List.length)).map ceN) (some ((marksSS k (xs.map List.length)).map cellsR))) 0]) := by
  generalize hls : xs.map List.length = ls
  have hll : ls.length = xs.length := by rw [← hls]; simp
  have hml : (marksSS k ls).length = xs.length := by rw [marksSS_length, hll]
  have hend : endSS k ls = k + 5 * sumC xs := by rw [← hls, endSS_le]
  rw [← hend]
  refine FunQ.intro Try.func39 rfl (by kernel_rfl) rfl ?_
  repeat' (first | refine W.seq ?_ | refine W.rg ?_ | refine W.dra' ?_ | refine W.block ?_ | refine W.skip ?_ | refine W.exit ?_ | refine W.cond_true' ?_ | refine W.cond_false' ?_ | refine WG.nil ?_ | refine WG.run' (E := env) ?_ | refine WG.gt' ?_ | refine WG.gf' ?_ | refine WG.ixm' (E := env) ?_ | refine WG.ixo' (E := env) ?_ | refine WG.legm' (E := env) ?_ | refine WG.slS' (E := env) ?_ | refine WG.slD' (E := env) ?_ | refine WG.ap' (E := env) ?_ | refine WD.nil ?_ | refine WD.bs' (E := env) ?_ | refine WD.s' (E := env) (t := .d _) ?_ | refine WD.p' ?_ | refine WD.px' ?_ | refine WD.s' (E := env) (t := .ea _ _) ?_ | refine WD.s' (E := env) (t := .lp _ _) ?_ | refine WD.s' (E := env) (t := .og _ _) ?_ | refine WD.s' (E := env) (t := .agg _) ?_ | refine WD.s' (E := env) (t := .tup _) ?_ | refine WD.s' (E := env) (t := .clo _ _) ?_ | refine WD.ixm' (E := env) ?_ | refine WD.ixo' (E := env) ?_ | refine WD.legm' (E := env) ?_ | refine WD.slS' (E := env) ?_ | refine WD.slD' (E := env) ?_ | ((first | refine WG.sp' (fun h => ?_) fun h => ?_ | refine W.cond' (fun h => ?_) fun h => ?_ | refine WD.sp' (fun h => ?_) fun h => ?_) <;> (try simp only [decide_eq_true_eq, decide_eq_false_iff_not, Bool.not_eq_true', Bool.not_eq_false', Bool.and_eq_true, Bool.or_eq_true, Bool.and_eq_false_iff, Bool.or_eq_false_iff, Bool.not_eq_true, Bool.not_eq_false, Int.not_lt, Int.not_le, List.length_map, beq_self_eq_true, Bool.true_eq_false, Bool.false_eq_true] at h) <;> (try (exfalso; first | contradiction | omega))))
  refine W.loopI (fun m S => ∃ (i : Nat) (R : List NR) (d' : Option (List (List D))) (q : Int), m = xs.length - i ∧ (i ≤ xs.length ∧ R = (mixL (marksSS k ls) xs i).map ceN ∧ q = (endSS k (ls.take i) : Nat)) ∧ S = ⟨ofL [(0, .og 0 0), (1, vI .i64 q), (5, vI .i64 i)], [.x (neS R d') 0]⟩) _ _
    ⟨0, xs.map ceN, dd, k, rfl, ⟨by omega, by rw [mixL_zero], by simp [endSS]⟩, rfl⟩ (St.imp.of_le (by (refine le_ofL rfl ?_ ?_ <;> (repeat (first | exact trivial | refine ⟨⟨rfl, rfl⟩, ?_⟩ | refine ⟨rfl, .inl rfl, ?_⟩ | refine ⟨rfl, .inr rfl, ?_⟩))))) ?_
  rintro m S ⟨i, R, d', q, rfl, ⟨hi, hR, hq⟩, rfl⟩
  have hRl : R.length = xs.length := by rw [hR, List.length_map, mixL_length _ _ hml i hi]
  by_cases hlt : i < xs.length
  · have hat : R[Int.toNat (i : Int)]? = some (ceN (xs.getD i default)) := by rw [hR, Int.toNat_natCast, List.getElem?_map, mixL_at _ _ hml hlt]; rfl
    have hmo := endSS_mono k ls i
    have hmo2 := endSS_mono k ls (i + 1)
    have het := endSS_take k ls i (by omega)
    have hld : ls.getD i default = (xs.getD i default).length := by rw [← hls]; simp [hlt]
    have hma := marksSS_at k ls i (by omega)
    generalize endSS k (ls.take i) = p at *
    subst hq
    have hmk := markCellS_fn (xs.getD i default) p (by omega)
    repeat' (first | refine WG.lenN' (E := env) ?_ | refine WG.ixN' (E := env) ?_ | refine WG.nestCall (E := env) (K := 1) rfl rfl rfl rfl rfl rfl rfl hat rfl (fun _ => rfl) rfl (fun _ => rfl) hmk (fun _ => rfl) rfl (fun _ => rfl) rfl ?_ | refine W.seq ?_ | refine W.rg ?_ | refine W.dra' ?_ | refine W.block ?_ | refine W.skip ?_ | refine W.exit ?_ | refine W.cond_true' ?_ | refine W.cond_false' ?_ | refine WG.nil ?_ | refine WG.run' (E := env) ?_ | refine WG.gt' ?_ | refine WG.gf' ?_ | refine WG.ixm' (E := env) ?_ | refine WG.ixo' (E := env) ?_ | refine WG.legm' (E := env) ?_ | refine WG.slS' (E := env) ?_ | refine WG.slD' (E := env) ?_ | refine WG.ap' (E := env) ?_ | refine WD.nil ?_ | refine WD.bs' (E := env) ?_ | refine WD.s' (E := env) (t := .d _) ?_ | refine WD.p' ?_ | refine WD.px' ?_ | refine WD.s' (E := env) (t := .ea _ _) ?_ | refine WD.s' (E := env) (t := .lp _ _) ?_ | refine WD.s' (E := env) (t := .og _ _) ?_ | refine WD.s' (E := env) (t := .agg _) ?_ | refine WD.s' (E := env) (t := .tup _) ?_ | refine WD.s' (E := env) (t := .clo _ _) ?_ | refine WD.ixm' (E := env) ?_ | refine WD.ixo' (E := env) ?_ | refine WD.legm' (E := env) ?_ | refine WD.slS' (E := env) ?_ | refine WD.slD' (E := env) ?_ | fail | ((first | refine WG.sp' (fun h => ?_) fun h => ?_ | refine W.cond' (fun h => ?_) fun h => ?_ | refine WD.sp' (fun h => ?_) fun h => ?_) <;> (try simp only [decide_eq_true_eq, decide_eq_false_iff_not, Bool.not_eq_true', Bool.not_eq_false', Bool.and_eq_true, Bool.or_eq_true, Bool.and_eq_false_iff, Bool.or_eq_false_iff, Bool.not_eq_true, Bool.not_eq_false, Int.not_lt, Int.not_le, List.length_map, beq_self_eq_true, Bool.true_eq_false, Bool.false_eq_true] at h) <;> (try (exfalso; first | contradiction | omega))))
    refine ⟨_, _, by omega, ⟨i + 1, R.set (Int.toNat (i : Int)) (ceN ((marksSS k ls).getD i default)), none, ((p + 5 * (xs.getD i default).length : Nat) : Int), rfl, ⟨by omega, ?_, ?_⟩, rfl⟩, ?_⟩
    · rw [Int.toNat_natCast, hR, ← mixL_set _ _ hml hlt, List.map_set]
    · rw [het, hld]
    · rw [hma, hld]
      exact (St.imp.of_le (by (refine le_ofL rfl ?_ ?_ <;> (repeat (first | exact trivial | refine ⟨⟨rfl, rfl⟩, ?_⟩ | refine ⟨rfl, .inl rfl, ?_⟩ | refine ⟨rfl, .inr rfl, ?_⟩)))))
  · obtain rfl : i = xs.length := by omega
    repeat' (first | refine WG.lenN' (E := env) ?_ | refine W.seq ?_ | refine W.rg ?_ | refine W.dra' ?_ | refine W.block ?_ | refine W.skip ?_ | refine W.exit ?_ | refine W.cond_true' ?_ | refine W.cond_false' ?_ | refine WG.nil ?_ | refine WG.run' (E := env) ?_ | refine WG.gt' ?_ | refine WG.gf' ?_ | refine WG.ixm' (E := env) ?_ | refine WG.ixo' (E := env) ?_ | refine WG.legm' (E := env) ?_ | refine WG.slS' (E := env) ?_ | refine WG.slD' (E := env) ?_ | refine WG.ap' (E := env) ?_ | refine WD.nil ?_ | refine WD.bs' (E := env) ?_ | refine WD.s' (E := env) (t := .d _) ?_ | refine WD.p' ?_ | refine WD.px' ?_ | refine WD.s' (E := env) (t := .ea _ _) ?_ | refine WD.s' (E := env) (t := .lp _ _) ?_ | refine WD.s' (E := env) (t := .og _ _) ?_ | refine WD.s' (E := env) (t := .agg _) ?_ | refine WD.s' (E := env) (t := .tup _) ?_ | refine WD.s' (E := env) (t := .clo _ _) ?_ | refine WD.ixm' (E := env) ?_ | refine WD.ixo' (E := env) ?_ | refine WD.legm' (E := env) ?_ | refine WD.slS' (E := env) ?_ | refine WD.slD' (E := env) ?_ | fail | ((first | refine WG.sp' (fun h => ?_) fun h => ?_ | refine W.cond' (fun h => ?_) fun h => ?_ | refine WD.sp' (fun h => ?_) fun h => ?_) <;> (try simp only [decide_eq_true_eq, decide_eq_false_iff_not, Bool.not_eq_true', Bool.not_eq_false', Bool.and_eq_true, Bool.or_eq_true, Bool.and_eq_false_iff, Bool.or_eq_false_iff, Bool.not_eq_true, Bool.not_eq_false, Int.not_lt, Int.not_le, List.length_map, beq_self_eq_true, Bool.true_eq_false, Bool.false_eq_true] at h) <;> (try (exfalso; first | contradiction | omega))))
    rw [mixL_all _ _ hml] at hR
    rw [List.take_of_length_le (by omega)] at hq
    subst hR hq
    refine W.imp (St.imp.note 0 rfl ((marksSS k ls).map cellsR) (ceN_dat _)) ?_
    refine W.ret ?_
    exact RetR.own (ob' := [.x (neS ((marksSS k ls).map ceN) (some ((marksSS k ls).map cellsR))) 0]) ⟨[0], [0], 1⟩ (.inl rfl) rfl (by first | trivial | exact resOK_of (E := env) rfl) rfl rfl rfl rfl rfl rfl ⟨rfl, trivial⟩ rfl ⟨rfl, rfl⟩

end Go.Proofs.Ytlegadpbjccelaa
