/-
  Nodes of a tree one by one: what the program's and the reference's functions return of them. Conditions: texts of at most 2^20 bytes.
-/
import Derived.Test.YtmmjbpgdkokjgaaGreatQLowerTreeNd1
import Derived.Test.YtmmjbpgdkokjgaaGreatQLowerTreeSl1
import Derived.Test.YtmmjbpgdkokjgaaGreatQLowerTreeW2
import Derived.Test.YtmmjbpgdkokjgaaGreatQLowerTreePgF
import Derived.Test.YtmmjbpgdkokjgaaGreatQLowerTreePgD
set_option linter.unusedVariables false
set_option linter.unusedSimpArgs false
set_option maxRecDepth 100000
namespace Go.Proofs.YtmmjbpgdkokjgaaGreat
open Go.RowKit

/-- How many nodes a kind of nodes names. -/
def arN (op : Int) : Nat :=
  if op = 5 ∨ op = 6 ∨ op = 7 ∨ op = 8 ∨ op = 9 ∨ op = 10 ∨ op = 11 ∨ op = 17 ∨ op = 20 then 2
  else if op = 12 ∨ op = 13 ∨ op = 14 ∨ op = 23 then 1
  else if op = 18 ∨ op = 19 then 3 else 0

theorem arN_le (op : Int) : arN op ≤ 3 := by unfold arN; (repeat' split) <;> omega

def hasTx (op : Int) : Bool := decide (op = 3 ∨ op = 17 ∨ op = 19 ∨ op = 20 ∨ op = 21 ∨ op = 22 ∨ op = 23)
def hasNm (op : Int) : Bool := decide (op = 2 ∨ op = 4 ∨ op = 10)

set_option maxHeartbeats 1000000 in
theorem arity_fn (op : Int) : Fun env.P 94 [dI op] (.d (dI (arN op))) [] := by
  refine Fun.intro Tryz.func94 rfl (by kernel_rfl) rfl ?_
  repeat' (first | refine W.seq ?_ | refine W.rg ?_ | refine W.block ?_ | refine W.skip ?_ | refine WG.nil ?_ | refine WG.run' (E := env) ?_ | ((refine W.cond' (fun h => ?_) fun h => ?_) <;> (try simp only [atS, List.length_map, beq_self_eq_true] at h) <;> (try (exfalso; first | contradiction | omega))))
  all_goals (refine W.ret ?_; (first | refine RetQ.i' ?_))
  all_goals simp [arN, *]

set_option maxHeartbeats 1000000 in
theorem l5Kids_fn (op : Int) : Fun env.P 27 [dI op] (.d (dI (arN op))) [] := by
  refine Fun.intro Tryz.func27 rfl (by kernel_rfl) rfl ?_
  repeat' (first | refine W.seq ?_ | refine W.rg ?_ | refine W.block ?_ | refine W.skip ?_ | refine WG.nil ?_ | refine WG.run' (E := env) ?_ | ((refine W.cond' (fun h => ?_) fun h => ?_) <;> (try simp only [atS, List.length_map, beq_self_eq_true] at h) <;> (try (exfalso; first | contradiction | omega))))
  all_goals (refine W.ret ?_; (first | refine RetQ.i' ?_))
  all_goals simp [arN, *]

set_option maxHeartbeats 1000000 in
theorem hasText_fn (op : Int) : Fun env.P 104 [dI op] (.d (dB (hasTx op))) [] := by
  refine Fun.intro Tryz.func104 rfl (by kernel_rfl) rfl ?_
  repeat' (first | refine W.seq ?_ | refine W.rg ?_ | refine W.block ?_ | refine W.skip ?_ | refine WG.nil ?_ | refine WG.run' (E := env) ?_ | ((refine W.cond' (fun h => ?_) fun h => ?_) <;> (try simp only [atS, List.length_map, beq_self_eq_true] at h) <;> (try (exfalso; first | contradiction | omega))))
  all_goals (refine W.ret ?_; (first | refine RetQ.b' ?_))
  all_goals simp [hasTx, *]

set_option maxHeartbeats 1000000 in
theorem l5Texts_fn (op : Int) : Fun env.P 87 [dI op] (.d (dB (hasTx op))) [] := by
  refine Fun.intro Tryz.func87 rfl (by kernel_rfl) rfl ?_
  repeat' (first | refine W.seq ?_ | refine W.rg ?_ | refine W.block ?_ | refine W.skip ?_ | refine WG.nil ?_ | refine WG.run' (E := env) ?_ | ((refine W.cond' (fun h => ?_) fun h => ?_) <;> (try simp only [atS, List.length_map, beq_self_eq_true] at h) <;> (try (exfalso; first | contradiction | omega))))
  all_goals (refine W.ret ?_; (first | refine RetQ.b' ?_))
  all_goals simp [hasTx, *]

def numHi (op : Int) : Int := if op = 2 then 1000000000000000 else if op = 4 then 2 else if op = 10 then 11 else 0
def numLo (op : Int) : Int := if op = 10 then 1 else 0

theorem l5Nums_fn (op : Int) : Fun env.P 86 [dI op] (.tup [.d (dI (numLo op)), .d (dI (numHi op))]) [] := by
  refine Fun.intro Tryz.func86 rfl (by kernel_rfl) rfl ?_
  repeat' (first | refine W.seq ?_ | refine W.rg ?_ | refine W.block ?_ | refine W.skip ?_ | refine WG.nil ?_ | refine WG.run' (E := env) ?_ | ((refine W.cond' (fun h => ?_) fun h => ?_) <;> (try simp only [atS, List.length_map, beq_self_eq_true] at h) <;> (try (exfalso; first | contradiction | omega))))
  all_goals (refine W.ret ?_; (first | refine RetQ.t2' ?_ ?_))
  all_goals (simp [numLo, numHi, *]; rfl)

def txOk (n : Nd) : Bool :=
  if n.op = 3 ∨ n.op = 17 then okText n.text
  else if n.op = 19 ∨ n.op = 20 ∨ n.op = 21 then isNameM n.text
  else if n.op = 22 ∨ n.op = 23 then isNameM n.text && !among wordsL n.text else true

def txFit (n : Nd) : Bool := if hasTx n.op then txOk n else decide (n.text = noS)

def numOk (n : Nd) : Bool := if hasNm n.op then decide (numLo n.op ≤ n.num) && decide (n.num ≤ numHi n.op) else true

set_option maxHeartbeats 1000000 in
theorem isNodeText_fn (n : Nd) (ht : n.text.size ≤ 1048576) : Fun env.P 91 [.agg n.row] (.d (dB (txOk n))) [] := by
  have h1 := isString_fn n.text ht
  have h2 := IsName_fn n.text ht
  have h3 := isWord_fn n.text
  refine Fun.intro Tryz.func91 rfl (by kernel_rfl) rfl ?_
  repeat' (first | refine W.seq ?_ | refine W.rg ?_ | refine W.block ?_ | refine W.skip ?_ | refine WG.nil ?_ | refine WG.run' (E := env) ?_ | refine WG.c (E := env) rfl rfl (h1) rfl rfl ?_ | refine WG.c (E := env) rfl rfl (h2) rfl rfl ?_ | refine WG.c (E := env) rfl rfl (h3) rfl rfl ?_ | ((first | refine WG.sp' (fun h => ?_) fun h => ?_ | refine W.cond' (fun h => ?_) fun h => ?_) <;> (try simp only [atS, List.length_map, beq_self_eq_true] at h) <;> (try (exfalso; first | contradiction | omega))))
  all_goals (refine W.ret ?_; (first | refine RetQ.b' ?_))
  all_goals simp [txOk, *]

set_option maxHeartbeats 1000000 in
theorem l5TextFits_fn (n : Nd) (ht : n.text.size ≤ 1048576) : Fun env.P 88 [.agg n.row] (.d (dB (txFit n))) [] := by
  have h1 := l1Text_fn n.text ht
  have h2 := IsNameS_fn n.text ht
  have h3 := isWordS_fn n.text
  refine Fun.intro Tryz.func88 rfl (by kernel_rfl) rfl ?_
  repeat' (first | refine W.seq ?_ | refine W.rg ?_ | refine W.block ?_ | refine W.skip ?_ | refine WG.nil ?_ | refine WG.run' (E := env) ?_ | refine WG.c (E := env) rfl rfl (h1) rfl rfl ?_ | refine WG.c (E := env) rfl rfl (h2) rfl rfl ?_ | refine WG.c (E := env) rfl rfl (h3) rfl rfl ?_ | ((first | refine WG.sp' (fun h => ?_) fun h => ?_ | refine W.cond' (fun h => ?_) fun h => ?_) <;> (try simp only [atS, List.length_map, beq_self_eq_true] at h) <;> (try (exfalso; first | contradiction | omega))))
  all_goals (refine W.ret ?_; (first | refine RetQ.b' ?_))
  all_goals simp [txFit, hasTx, txOk, *]

set_option maxHeartbeats 1000000 in
theorem isNodeNum_fn (n : Nd) : Fun env.P 92 [.agg n.row] (.d (dB (numOk n))) [] := by
  refine Fun.intro Tryz.func92 rfl (by kernel_rfl) rfl ?_
  repeat' (first | refine W.seq ?_ | refine W.rg ?_ | refine W.block ?_ | refine W.skip ?_ | refine WG.nil ?_ | refine WG.run' (E := env) ?_ | refine WG.c (E := env) rfl rfl (within_fn _ _ _) rfl rfl ?_ | ((refine W.cond' (fun h => ?_) fun h => ?_) <;> (try simp only [atS, List.length_map, beq_self_eq_true] at h) <;> (try (exfalso; first | contradiction | omega))))
  all_goals (refine W.ret ?_; (first | refine RetQ.b' ?_))
  all_goals simp [numOk, hasNm, numLo, numHi, *]

/-- The nodes that a node names. -/
def Nd.named (n : Nd) : List Int := [n.a, n.b, n.c].take (arN n.op)

def kidI (n : Nd) (i : Nat) : Int := if i = 0 then n.a else if i = 1 then n.b else n.c
def kidB (n : Nd) (k : Nat) (i : Nat) : Bool := if i < arN n.op then decide (0 ≤ kidI n i) && decide (kidI n i ≤ (k : Int) - 1) else decide (kidI n i = 0)

def formB3 (n : Nd) (k : Nat) : Bool := kidB n k 0 && kidB n k 1 && kidB n k 2 && (hasNm n.op || decide (n.num = 0)) && (hasTx n.op || decide (n.text = noS))

theorem l5Kid_fn (n : Nd) (i : Nat) (h : i < 3) : Fun env.P 60 [.agg n.row, dI i] (.d (dI (kidI n i))) [] := by
  refine Fun.intro Tryz.func60 rfl (by kernel_rfl) rfl ?_
  repeat' (first | refine W.seq ?_ | refine W.rg ?_ | refine W.block ?_ | refine W.skip ?_ | refine WG.nil ?_ | refine WG.run' (E := env) ?_ | ((refine W.cond' (fun h => ?_) fun h => ?_) <;> (try simp only [atS, List.length_map, beq_self_eq_true] at h) <;> (try (exfalso; first | contradiction | omega))))
  all_goals (refine W.ret ?_; (first | refine RetQ.i' ?_))
  all_goals (simp [kidI]; first | done | omega | (intro h; omega) | skip)

end Go.Proofs.YtmmjbpgdkokjgaaGreat
