/-
  Texts of this claim in one. Conditions: none.
-/
import Derived.Test.YtmmjbpgdkokjgaaGreatQLowerTreeV5
import Derived.Test.YtmmjbpgdkokjgaaGreatQLowerTreePgF
import Derived.Test.YtmmjbpgdkokjgaaGreatQLowerTreePgD
import Derived.Test.YtmmjbpgdkokjgaaGreatQLowerTreePgE
import Derived.Test.YtmmjbpgdkokjgaaGreatQLowerTreeRf1
import Derived.Test.YtmmjbpgdkokjgaaGreatQLowerTreeOr1
import Derived.Test.YtmmjbpgdkokjgaaGreatQLowerTreeNe1
section
/- What the laws' own functions on nodes of a core do: their size, their copy, their comparison. Conditions: none. -/
section
set_option linter.unusedVariables false
set_option linter.unusedSimpArgs false
set_option maxRecDepth 100000
namespace Go.Proofs.YtmmjbpgdkokjgaaGreat
open Go.RowKit

structure Co where
  op : Int
  a : Int
  b : Int
  c : Int
  num : Int
  val : List Cell
  deriving Inhabited, DecidableEq

def Co.row (n : Co) : List D := [dI n.op, dI n.a, dI n.b, dI n.c, dI n.num, cellsD n.val]
abbrev coresD (ns : List Co) : D := .sl 6 (ns.map Co.row)

def Co.fit (n : Co) : Prop := fitS n.val

/-- What a right size leaves to know of a value. -/
def Co.fine (n : Co) : Prop := (∀ c ∈ n.val, c.text.size ≤ 1048576 ∧ c.key.size ≤ 1048576) ∧ n.val.length ≤ 1048576

set_option maxHeartbeats 400000 in
theorem eqCore_fn (a b : Co) (h : a.fine) : Fun env.P 54 [.agg a.row, .agg b.row] (.d (dB (decide (a = b)))) [] := by
  have hq := eqCellS_fn a.val b.val h.2
  have e : a = b ↔ a.op = b.op ∧ a.a = b.a ∧ a.b = b.b ∧ a.c = b.c ∧ a.num = b.num ∧ a.val = b.val := by
    cases a; cases b; simp
  refine Fun.intro Tryz.func54 rfl (by kernel_rfl) rfl ?_
  repeat' (first | refine W.seq ?_ | refine W.rg ?_ | refine W.skip ?_ | refine WG.nil ?_ | refine WG.run' (E := env) ?_ | refine WG.c (E := env) rfl rfl (hq) rfl rfl ?_ | ((refine W.cond' (fun h => ?_) fun h => ?_) <;> (try simp only [atS, List.length_map, beq_self_eq_true] at h) <;> (try (exfalso; first | contradiction | omega))))
  all_goals (refine W.ret ?_; (first | refine RetQ.b' ?_))
  all_goals simp [e, *]

set_option maxHeartbeats 400000 in
theorem eqCoreS_fn (xs ys : List Co) (hm : xs.length ≤ 1048576) (hf : ∀ x ∈ xs, x.fine) : Fun env.P 20 [coresD xs, coresD ys] (.d (dB (decide (xs = ys)))) [] := by
  refine Fun.intro Tryz.func20 rfl (by kernel_rfl) rfl ?_
  repeat' (first | refine W.seq ?_ | refine W.rg ?_ | refine W.dra' ?_ | refine W.block ?_ | refine W.skip ?_ | refine W.exit ?_ | refine WG.nil ?_ | refine WG.run' (E := env) ?_ | refine WD.nil ?_ | refine WD.s' (E := env) (t := .d _) ?_ | refine WD.s' (E := env) (t := .ea _ _) ?_ | refine WD.s' (E := env) (t := .lp _ _) ?_ | refine WD.s' (E := env) (t := .og _ _) ?_ | refine WD.s' (E := env) (t := .agg _) ?_ | refine WD.s' (E := env) (t := .tup _) ?_ | refine WD.s' (E := env) (t := .clo _ _) ?_ | refine WD.ixm' (E := env) ?_ | ((refine W.cond' (fun h => ?_) fun h => ?_) <;> (try simp only [atS, List.length_map, beq_self_eq_true] at h) <;> (try (exfalso; first | contradiction | omega))))
  · (refine W.ret ?_; (first | refine RetQ.b' ?_))
    symm
    rw [decide_eq_false_iff_not]
    rintro rfl
    exact h rfl
  refine W.loop (fun m S => ∃ (k : Nat), m = xs.length - k ∧ (k ≤ xs.length ∧ xs.take k = ys.take k) ∧ S = ⟨ofL [(0, .d (coresD xs)), (1, .d (coresD ys)), (5, vI .i64 k)], []⟩) _ _ ⟨0, rfl, ⟨by omega, by simp⟩, rfl⟩ (by (refine le_ofL rfl ?_ ?_ <;> (repeat (first | exact trivial | refine ⟨⟨rfl, rfl⟩, ?_⟩ | refine ⟨rfl, .inl rfl, ?_⟩ | refine ⟨rfl, .inr rfl, ?_⟩)))) ?_
  rintro m S ⟨k, rfl, ⟨hk, he⟩, rfl⟩
  have hat : ∀ i : Nat, i < xs.length → (xs.getD i default).fine := fun i hi => hf _ (getD_mem' hi)
  repeat' (first | refine W.seq ?_ | refine W.rg ?_ | refine W.dra' ?_ | refine W.block ?_ | refine W.skip ?_ | refine W.exit ?_ | refine WG.nil ?_ | refine WG.run' (E := env) ?_ | refine WD.nil ?_ | refine WD.s' (E := env) (t := .d _) ?_ | refine WD.s' (E := env) (t := .ea _ _) ?_ | refine WD.s' (E := env) (t := .lp _ _) ?_ | refine WD.s' (E := env) (t := .og _ _) ?_ | refine WD.s' (E := env) (t := .agg _) ?_ | refine WD.s' (E := env) (t := .tup _) ?_ | refine WD.s' (E := env) (t := .clo _ _) ?_ | refine WD.ixm' (E := env) ?_ | refine WD.c (E := env) rfl rfl (eqCore_fn _ _ (hat _ (by omega))) rfl rfl ?_ | ((refine W.cond' (fun h => ?_) fun h => ?_) <;> (try simp only [atS, List.length_map, beq_self_eq_true] at h) <;> (try (exfalso; first | contradiction | omega))))
  · (refine W.ret ?_; (first | refine RetQ.b' ?_))
    (try simp only [Int.toNat_natCast, Int.toNat_zero, toNat_cc, toNat_c1, toNat_cm1, toNat_cm] at *)
    symm
    rw [decide_eq_false_iff_not]
    rintro rfl
    contradiction
  · (try simp only [Int.toNat_natCast, Int.toNat_zero, toNat_cc, toNat_c1, toNat_cm1, toNat_cm] at *)
    exact ⟨_, _, by omega, ⟨k + 1, rfl, ⟨by omega, by rw [take_step (by omega), take_step (by omega), he]; simp only [*]⟩, rfl⟩, (by (refine le_ofL rfl ?_ ?_ <;> (repeat (first | exact trivial | refine ⟨⟨rfl, rfl⟩, ?_⟩ | refine ⟨rfl, .inl rfl, ?_⟩ | refine ⟨rfl, .inr rfl, ?_⟩))))⟩
  · (refine W.ret ?_; (first | refine RetQ.b' ?_))
    symm
    rw [decide_eq_true_eq]
    rwa [List.take_of_length_le (by omega), List.take_of_length_le (by omega)] at he

end Go.Proofs.YtmmjbpgdkokjgaaGreat
end

/- Nodes of a core one by one: what the program's and the reference's functions return of them. Conditions: texts of at most 2^20 bytes, values of at most 2^20 cells. -/
section
set_option linter.unusedVariables false
set_option linter.unusedSimpArgs false
set_option maxRecDepth 100000
namespace Go.Proofs.YtmmjbpgdkokjgaaGreat
open Go.RowKit

/-- How many nodes a kind of nodes of a core names. -/
def arC (op : Int) : Nat :=
  if op = 3 ∨ op = 4 ∨ op = 5 ∨ op = 6 ∨ op = 7 ∨ op = 11 ∨ op = 14 then 2
  else if op = 8 ∨ op = 9 ∨ op = 10 then 1
  else if op = 12 ∨ op = 13 then 3 else 0

/-- The nodes that a node of a core names. -/
def Co.named (n : Co) : List Int := [n.a, n.b, n.c].take (arC n.op)

def kidC (n : Co) (i : Nat) : Int := if i = 0 then n.a else if i = 1 then n.b else n.c
end Go.Proofs.YtmmjbpgdkokjgaaGreat
end

/- One node of a core: its fault, by the program. Conditions: values of at most 2^20 cells, texts of at most 2^20 bytes. -/
section
set_option linter.unusedVariables false
set_option linter.unusedSimpArgs false
set_option maxRecDepth 100000
namespace Go.Proofs.YtmmjbpgdkokjgaaGreat
open Go.RowKit

def Co.abc (n : Co) : List Int := [n.a, n.b, n.c]
theorem Co.abc_at (n : Co) (i : Nat) (h : i < 3) : n.abc.getD i default = kidC n i := by
  have : i = 0 ∨ i = 1 ∨ i = 2 := by omega
  rcases this with rfl | rfl | rfl <;> rfl

end Go.Proofs.YtmmjbpgdkokjgaaGreat
end

/- One node of a core: its fault, by the reference. Conditions: cores of at most 2^20 nodes, values of at most 2^20 cells, texts of at most 2^20 bytes. -/
section
set_option linter.unusedVariables false
set_option linter.unusedSimpArgs false
set_option maxRecDepth 100000
namespace Go.Proofs.YtmmjbpgdkokjgaaGreat
open Go.RowKit

end Go.Proofs.YtmmjbpgdkokjgaaGreat
end

/- Where the nodes of a core begin, by the program. Conditions: right nodes, at most 2^20. -/
section
set_option linter.unusedVariables false
set_option linter.unusedSimpArgs false
set_option maxRecDepth 100000
namespace Go.Proofs.YtmmjbpgdkokjgaaGreat
open Go.RowKit

/-! ### where it begins: a range over a function -/

open Go.Shelf

attribute [local go_sem] Oper.semAt_some

end Go.Proofs.YtmmjbpgdkokjgaaGreat
end

/- The order in which the nodes of a core stand, by the reference. Conditions: right nodes, at most 2^20. -/
section
set_option linter.unusedVariables false
set_option linter.unusedSimpArgs false
set_option maxRecDepth 100000
namespace Go.Proofs.YtmmjbpgdkokjgaaGreat
open Go.RowKit

end Go.Proofs.YtmmjbpgdkokjgaaGreat
end

/- Which variables a core knows, by the program and by the reference. Conditions: right nodes, at most 1048. -/
section
set_option linter.unusedVariables false
set_option linter.unusedSimpArgs false
set_option maxRecDepth 100000
namespace Go.Proofs.YtmmjbpgdkokjgaaGreat
open Go.RowKit

end Go.Proofs.YtmmjbpgdkokjgaaGreat
end

/- Which variables a core knows, by the reference. Conditions: right nodes, at most 1048. -/
section
set_option linter.unusedVariables false
set_option linter.unusedSimpArgs false
set_option maxRecDepth 100000
namespace Go.Proofs.YtmmjbpgdkokjgaaGreat
open Go.RowKit

end Go.Proofs.YtmmjbpgdkokjgaaGreat
end

/- The fault of a core, by the program and by the reference. Conditions: cells of at most 2^20 bytes. -/
section
set_option linter.unusedVariables false
set_option linter.unusedSimpArgs false
set_option maxRecDepth 100000
namespace Go.Proofs.YtmmjbpgdkokjgaaGreat
open Go.RowKit

end Go.Proofs.YtmmjbpgdkokjgaaGreat
end

/- The fault of a core by the reference. Conditions: cells of at most 2^20 bytes. -/
section
set_option linter.unusedVariables false
set_option linter.unusedSimpArgs false
set_option maxRecDepth 100000
namespace Go.Proofs.YtmmjbpgdkokjgaaGreat
open Go.RowKit

end Go.Proofs.YtmmjbpgdkokjgaaGreat
end
end

section
set_option linter.unusedVariables false
set_option linter.unusedSimpArgs false
set_option maxRecDepth 100000
namespace Go.Proofs.YtmmjbpgdkokjgaaGreat
open Go.RowKit

/-! ### lists that are made in order -/

/-! ### slices of nodes of a core -/

abbrev neC (rows : List NR) (dd : Option (List (List D))) : ObX := nestX 66 6 5 93 5 rows none dd
def coN (n : Co) : NR := ⟨[dI n.op, dI n.a, dI n.b, dI n.c, dI n.num, .v undef], some (n.val.map Cell.row)⟩
theorem coN_dat (xs : List Co) : datN 5 5 (xs.map coN) = some (xs.map Co.row) := datN_map 5 5 _ _ xs

def sumV : List Co → Nat
  | [] => 0
  | n :: r => n.val.length + sumV r

/-- The marks of nodes whose values have so many cells. -/
def marksK (k : Nat) : List Nat → List Co
  | [] => []
  | l :: r => ⟨(k : Int), (k : Int) + 1, (k : Int) + 1 + 1, (k : Int) + 1 + 1 + 1, (k : Int) + 1 + 1 + 1 + 1, marksL (k + 5) l⟩ :: marksK (k + 5 + 5 * l) r

def endK (k : Nat) : List Nat → Nat
  | [] => k
  | l :: r => endK (k + 5 + 5 * l) r

theorem marksK_length : ∀ (k : Nat) (ls : List Nat), (marksK k ls).length = ls.length
  | _, [] => rfl
  | k, l :: r => by simp [marksK, marksK_length]
theorem endK_take : ∀ (k : Nat) (ls : List Nat) (i : Nat), i < ls.length → endK k (ls.take (i + 1)) = endK k (ls.take i) + 5 + 5 * ls.getD i default
  | _, [], i, h => by simp at h
  | k, l :: r, 0, _ => by simp [endK]
  | k, l :: r, i + 1, h => by
    have := endK_take (k + 5 + 5 * l) r i (by simpa using h)
    simpa [endK] using this
theorem marksK_at : ∀ (k : Nat) (ls : List Nat) (i : Nat), i < ls.length → (marksK k ls).getD i default = ⟨(endK k (ls.take i) : Nat), (endK k (ls.take i) : Nat) + 1, (endK k (ls.take i) : Nat) + 1 + 1, (endK k (ls.take i) : Nat) + 1 + 1 + 1, (endK k (ls.take i) : Nat) + 1 + 1 + 1 + 1, marksL (endK k (ls.take i) + 5) (ls.getD i default)⟩
  | _, [], i, h => by simp at h
  | k, l :: r, 0, _ => by simp [marksK, endK]
  | k, l :: r, i + 1, h => by
    have := marksK_at (k + 5 + 5 * l) r i (by simpa using h)
    simpa [marksK, endK] using this
theorem endK_le : ∀ (k : Nat) (xs : List Co), endK k (xs.map fun n => n.val.length) = k + 5 * xs.length + 5 * sumV xs
  | k, [] => by simp [endK, sumV]
  | k, n :: r => by simp only [List.map_cons, endK, endK_le, List.length_cons, sumV]; omega
theorem endK_mono : ∀ (k : Nat) (ls : List Nat) (i : Nat), endK k (ls.take i) ≤ endK k ls
  | k, [], i => by simp
  | k, l :: r, 0 => by
    have : ∀ (r : List Nat) (q : Nat), q ≤ endK q r := by
      intro r
      induction r with
      | nil => intro q; exact Nat.le_refl _
      | cons a r ih => intro q; exact Nat.le_trans (by omega) (ih (q + 5 + 5 * a))
    exact this (l :: r) k
  | k, l :: r, i + 1 => by simpa [endK] using endK_mono (k + 5 + 5 * l) r i

set_option maxHeartbeats 8000000 in
theorem markCoreS_fn (xs : List Co) (dd : Option (List (List D))) (k : Nat) (hk : k + 5 * xs.length + 5 * sumV xs ≤ 1099511000000) :
    FunQ env.P 23 [.og 0 0, vI .i64 k] [.x (neC (xs.map coN) dd) 0]
      (just (vI .i64 ((k + 5 * xs.length + 5 * sumV xs : Nat) : Int)) [.x (neC ((marksK k (xs.map fun n => n.val.length)).map coN) (some ((marksK k (xs.map fun n => n.val.length)).map Co.row))) 0]) := by
  generalize hls : (xs.map fun n => n.val.length) = ls
  have hll : ls.length = xs.length := by rw [← hls]; simp
  have hml : (marksK k ls).length = xs.length := by rw [marksK_length, hll]
  have hend : endK k ls = k + 5 * xs.length + 5 * sumV xs := by rw [← hls, endK_le]
  rw [← hend]
  refine FunQ.intro Tryz.func23 rfl (by kernel_rfl) rfl ?_
  repeat' (first | refine W.seq ?_ | refine W.rg ?_ | refine W.block ?_ | refine W.skip ?_ | refine W.exit ?_ | refine WG.nil ?_ | refine WG.run' (E := env) ?_ | ((refine W.cond' (fun h => ?_) fun h => ?_) <;> (try simp only [atS, List.length_map, beq_self_eq_true] at h) <;> (try (exfalso; first | contradiction | omega))))
  refine W.loopI (fun m S => ∃ (i : Nat) (R : List NR) (d' : Option (List (List D))) (q : Int), m = xs.length - i ∧ (i ≤ xs.length ∧ R = (mixL (marksK k ls) xs i).map coN ∧ q = (endK k (ls.take i) : Nat)) ∧ S = ⟨ofL [(0, .og 0 0), (1, vI .i64 q), (5, vI .i64 i)], [.x (neC R d') 0]⟩) _ _
    ⟨0, xs.map coN, dd, k, rfl, ⟨by omega, by rw [mixL_zero], by simp [endK]⟩, rfl⟩ (St.imp.of_le (by (refine le_ofL rfl ?_ ?_ <;> (repeat (first | exact trivial | refine ⟨⟨rfl, rfl⟩, ?_⟩ | refine ⟨rfl, .inl rfl, ?_⟩ | refine ⟨rfl, .inr rfl, ?_⟩))))) ?_
  rintro m S ⟨i, R, d', q, rfl, ⟨hi, hR, hq⟩, rfl⟩
  have hRl : R.length = xs.length := by rw [hR, List.length_map, mixL_length _ _ hml i hi]
  by_cases hlt : i < xs.length
  · have hat : R[Int.toNat (i : Int)]? = some (coN (xs.getD i default)) := by rw [hR, Int.toNat_natCast, List.getElem?_map, mixL_at _ _ hml hlt]; rfl
    have hili : Int.toNat (i : Int) < R.length := by rw [Int.toNat_natCast]; omega
    have hmo := endK_mono k ls i
    have hmo2 := endK_mono k ls (i + 1)
    have het := endK_take k ls i (by omega)
    have hld : ls.getD i default = (xs.getD i default).val.length := by rw [← hls]; simp [hlt]
    have hma := marksK_at k ls i (by omega)
    generalize endK k (ls.take i) = p at *
    subst hq
    have hmk := markCellS_fn (xs.getD i default).val (p + 5) (by omega)
    rw [show ((p + 5 : Nat) : Int) = (p : Int) + 1 + 1 + 1 + 1 + 1 by omega] at hmk
    repeat' (first | refine WG.lenN' (E := env) ?_ | refine WG.ixN' (E := env) ?_ | refine WG.stND (E := env) rfl rfl rfl rfl (by first | exact hat | exact List.getElem?_set_self (by simpa using hili)) rfl rfl rfl rfl rfl ?_ | refine WG.nestCall (E := env) (K := 1) rfl rfl rfl rfl rfl rfl rfl (List.getElem?_set_self (by simpa using hili)) rfl (fun _ => rfl) rfl (fun _ => rfl) hmk (fun _ => rfl) rfl (fun _ => rfl) rfl ?_ | refine W.seq ?_ | refine W.rg ?_ | refine W.block ?_ | refine W.skip ?_ | refine W.exit ?_ | refine WG.nil ?_ | refine WG.run' (E := env) ?_ | fail | ((refine W.cond' (fun h => ?_) fun h => ?_) <;> (try simp only [atS, List.length_map, beq_self_eq_true] at h) <;> (try (exfalso; first | contradiction | omega))))
    · refine ⟨_, _, by omega, ⟨i + 1, R.set (Int.toNat (i : Int)) (coN ((marksK k ls).getD i default)), none, ((p + 5 + 5 * (xs.getD i default).val.length : Nat) : Int), rfl, ⟨by omega, ?_, ?_⟩, rfl⟩, ?_⟩
      · rw [Int.toNat_natCast, hR, ← mixL_set _ _ hml hlt, List.map_set]
      · rw [het, hld]
      · simp only [List.set_set]
        rw [hma, hld]
        exact (St.imp.of_le (by (refine le_ofL rfl ?_ ?_ <;> (repeat (first | exact trivial | refine ⟨⟨rfl, rfl⟩, ?_⟩ | refine ⟨rfl, .inl rfl, ?_⟩ | refine ⟨rfl, .inr rfl, ?_⟩)))))
  · obtain rfl : i = xs.length := by omega
    repeat' (first | refine WG.lenN' (E := env) ?_ | refine W.seq ?_ | refine W.rg ?_ | refine W.block ?_ | refine W.skip ?_ | refine W.exit ?_ | refine WG.nil ?_ | refine WG.run' (E := env) ?_ | fail | ((refine W.cond' (fun h => ?_) fun h => ?_) <;> (try simp only [atS, List.length_map, beq_self_eq_true] at h) <;> (try (exfalso; first | contradiction | omega))))
    rw [mixL_all _ _ hml] at hR
    rw [List.take_of_length_le (by omega)] at hq
    subst hR hq
    refine W.imp (St.imp.note 0 rfl ((marksK k ls).map Co.row) (coN_dat _)) ?_
    refine W.ret ?_
    exact RetR.own (ob' := [.x (neC ((marksK k ls).map coN) (some ((marksK k ls).map Co.row))) 0]) ⟨[0], [0], 1⟩ (.inl rfl) rfl (by first | trivial | exact resOK_of (E := env) rfl) rfl rfl rfl rfl rfl rfl ⟨rfl, trivial⟩ rfl ⟨rfl, rfl⟩

end Go.Proofs.YtmmjbpgdkokjgaaGreat
end

section
set_option linter.unusedVariables false
set_option linter.unusedSimpArgs false
set_option maxRecDepth 100000
namespace Go.Proofs.YtmmjbpgdkokjgaaGreat
open Go.RowKit

inductive Pt where
  | mk (n : Co) (kids : List Pt)
  deriving Inhabited

def Pt.n : Pt → Co
  | .mk n _ => n
def Pt.kids : Pt → List Pt
  | .mk _ kids => kids

mutual
def Pt.row : Pt → List D
  | .mk n kids => n.row ++ [.sl 7 (Pt.rows kids)]
def Pt.rows : List Pt → List (List D)
  | [] => []
  | p :: r => p.row :: Pt.rows r
end
theorem Pt.rows_map : ∀ l : List Pt, Pt.rows l = l.map Pt.row
  | [] => by simp [Pt.rows]
  | p :: r => by simp [Pt.rows, Pt.rows_map r]
def Pt.rowP (p : Pt) : List D := [dI p.n.op, dI p.n.a, dI p.n.b, dI p.n.c, dI p.n.num, cellsD p.n.val, .sl 7 (p.kids.map Pt.row)]
theorem Pt.row_eq : ∀ p : Pt, p.row = p.rowP
  | .mk n kids => by simp only [Pt.row, Pt.rows_map]; rfl

mutual
def Pt.count : Pt → Nat
  | .mk _ kids => Pt.counts kids + 1
def Pt.counts : List Pt → Nat
  | [] => 0
  | p :: r => p.count + Pt.counts r
end
theorem Pt.counts_ge {l : List Pt} (p : Pt) (h : p ∈ l) : p.count ≤ Pt.counts l := by
  induction l with
  | nil => cases h
  | cons a r ih =>
    simp only [Pt.counts]
    rcases List.mem_cons.1 h with rfl | h
    · omega
    · have := ih h; omega

/-- A node that names these. -/
def Co.put (n : Co) (es : List Int) : Co := ⟨n.op, es.getD 0 n.a, es.getD 1 n.b, es.getD 2 n.c, n.num, n.val⟩

mutual
/-- The nodes of a part behind so many others. -/
def Pt.flat : Pt → Nat → List Co
  | .mk n kids, b => Pt.flats kids b ++ [n.put (Pt.ends kids b)]
def Pt.flats : List Pt → Nat → List Co
  | [], _ => []
  | p :: r, b => p.flat b ++ Pt.flats r (b + p.count)
def Pt.ends : List Pt → Nat → List Int
  | [], _ => []
  | p :: r, b => (((b + p.count : Nat) : Int) - 1) :: Pt.ends r (b + p.count)
end

mutual
theorem Pt.flat_length : ∀ (p : Pt) (b : Nat), (p.flat b).length = p.count
  | .mk n kids, b => by simp [Pt.flat, Pt.count, Pt.flats_length kids b]
theorem Pt.flats_length : ∀ (l : List Pt) (b : Nat), (Pt.flats l b).length = Pt.counts l
  | [], _ => rfl
  | p :: r, b => by simp [Pt.flats, Pt.counts, Pt.flat_length p b, Pt.flats_length r (b + p.count)]
end
theorem Pt.ends_length : ∀ (l : List Pt) (b : Nat), (Pt.ends l b).length = l.length
  | [], _ => rfl
  | p :: r, b => by simp [Pt.ends, Pt.ends_length r]
theorem Pt.counts_app : ∀ (l m : List Pt), Pt.counts (l ++ m) = Pt.counts l + Pt.counts m
  | [], m => by simp [Pt.counts]
  | p :: r, m => by simp only [List.cons_append, Pt.counts, Pt.counts_app r m]; omega
theorem Pt.flats_app : ∀ (l m : List Pt) (b : Nat), Pt.flats (l ++ m) b = Pt.flats l b ++ Pt.flats m (b + Pt.counts l)
  | [], m, b => by simp [Pt.flats, Pt.counts]
  | p :: r, m, b => by simp only [List.cons_append, Pt.flats, Pt.flats_app r m, List.append_assoc, Pt.counts, Nat.add_assoc]
theorem Pt.ends_app : ∀ (l m : List Pt) (b : Nat), Pt.ends (l ++ m) b = Pt.ends l b ++ Pt.ends m (b + Pt.counts l)
  | [], m, b => by simp [Pt.ends, Pt.counts]
  | p :: r, m, b => by simp only [List.cons_append, Pt.ends, Pt.ends_app r m, Pt.counts, Nat.add_assoc]

theorem Pt.counts_le (l : List Pt) (i : Nat) : Pt.counts (l.take i) ≤ Pt.counts l := by
  have := Pt.counts_app (l.take i) (l.drop i)
  rw [List.take_append_drop] at this
  omega

end Go.Proofs.YtmmjbpgdkokjgaaGreat
end
