/-
  Which nodes of a tree nothing is about: the model, and what the program asks of texts. Conditions: none.
-/
import Derived.Test.YtlegadpbjccelaaSl1
import Derived.Test.YtlegadpbjccelaaTr8
import Derived.Test.YtlegadpbjccelaaPgE
set_option linter.unusedVariables false
set_option linter.unusedSimpArgs false
set_option maxRecDepth 100000
namespace Go.Proofs.Ytlegadpbjccelaa
open Go.RowKit


/-- What is about each variable in the node at index i that a node names. -/
def inT (n : Nd) (i : Nat) (names : List ByteArray) : List ByteArray := if (n.op = 20 ∧ i = 1) ∨ (n.op = 19 ∧ i = 2) then names ++ [n.text] else names

def callsL : List ByteArray := [⟨#[108, 101, 110, 103, 116, 104]⟩, ⟨#[107, 101, 121, 115]⟩, ⟨#[110, 111, 116]⟩, ⟨#[101, 109, 112, 116, 121]⟩, ⟨#[101, 114, 114, 111, 114]⟩, ⟨#[116, 121, 112, 101]⟩, ⟨#[115, 111, 114, 116]⟩, ⟨#[97, 100, 100]⟩]
def onesL : List ByteArray := [⟨#[109, 97, 112]⟩, ⟨#[115, 101, 108, 101, 99, 116]⟩, ⟨#[114, 97, 110, 103, 101]⟩]

def knownB (n : Nd) (names : List ByteArray) : Bool :=
  if n.op = 21 then among names n.text else if n.op = 22 then among callsL n.text else if n.op = 23 then among onesL n.text else true

def flatI (f : Nat → Nat → List Nat) : List Nat → Nat → List Nat
  | [], _ => []
  | j :: r, i => f i j ++ flatI f r (i + 1)

theorem flatI_snoc (f : Nat → Nat → List Nat) : ∀ (l : List Nat) (j i : Nat), flatI f (l ++ [j]) i = flatI f l i ++ f (i + l.length) j
  | [], j, i => by simp [flatI]
  | x :: r, j, i => by
    rw [List.cons_append]
    simp only [flatI, List.length_cons]
    rw [flatI_snoc f r j (i + 1), List.append_assoc, show i + 1 + r.length = i + (r.length + 1) by omega]

theorem flatI_take (f : Nat → Nat → List Nat) (l : List Nat) {i : Nat} (h : i < l.length) : flatI f (l.take (i + 1)) 0 = flatI f (l.take i) 0 ++ f i (l.getD i default) := by
  rw [take_step h, flatI_snoc, List.length_take, Nat.zero_add, Nat.min_eq_left (by omega)]

theorem flatI_pre (f : Nat → Nat → List Nat) : ∀ (l : List Nat) (i q : Nat), ∃ r, flatI f l q = flatI f (l.take i) q ++ r
  | [], i, q => ⟨[], by simp [flatI]⟩
  | x :: l, 0, q => ⟨flatI f (x :: l) q, by simp [flatI]⟩
  | x :: l, i + 1, q => by
    obtain ⟨r, h⟩ := flatI_pre f l i (q + 1)
    exact ⟨r, by simp only [List.take_succ_cons, flatI]; rw [h, List.append_assoc]⟩

theorem flatI_len {f : Nat → Nat → List Nat} {g : Nat → List Nat} : ∀ {l : List Nat} {i : Nat}, (∀ i, ∀ j ∈ l, (f i j).length ≤ (g j).length) → (flatI f l i).length ≤ (l.flatMap g).length
  | [], _, _ => by simp [flatI]
  | x :: r, i, h => by
    simp only [flatI, List.flatMap_cons, List.length_append]
    have := h i x (List.mem_cons_self ..)
    have := flatI_len (f := f) (g := g) (l := r) (i := i + 1) (fun i j hj => h i j (List.mem_cons_of_mem _ hj))
    omega

/-- The nodes of the tree of one that nothing is about, in the order in which they stand. -/
def badM (ns : List Nd) : Nat → Nat → List ByteArray → List Nat
  | 0, _, _ => []
  | f + 1, k, names => flatI (fun i j => badM ns f j (inT (ns.getD k default) i names)) (kidsOf (nmT ns) k) 0 ++ (if knownB (ns.getD k default) names = true then [] else [k])

theorem badM_len (ns : List Nd) : ∀ f k names, (badM ns f k names).length ≤ (full (nmT ns) k).length
  | 0, k, names => by simp [badM]
  | f + 1, k, names => by
    rw [badM, full_eq, List.length_append, List.length_append]
    have := flatI_len (f := fun i j => badM ns f j (inT (ns.getD k default) i names)) (g := full (nmT ns)) (l := kidsOf (nmT ns) k) (i := 0) (fun i j _ => badM_len ns f j _)
    by_cases h : knownB (ns.getD k default) names = true
    · rw [if_pos h, List.length_nil]; omega
    · rw [if_neg h, List.length_singleton]; omega

def headI : List Nat → Int
  | [] => -1
  | x :: _ => x

theorem headI_app {l r : List Nat} (h : 0 ≤ headI l) : headI (l ++ r) = headI l := by
  cases l with
  | nil => simp [headI] at h
  | cons x l => rfl
theorem headI_nil {l : List Nat} (h : ¬ 0 ≤ headI l) : l = [] := by
  cases l with
  | nil => rfl
  | cons x l => simp [headI] at h

theorem flatI_head {f : Nat → Nat → List Nat} {l : List Nat} {i : Nat} (h : i < l.length) (h0 : flatI f (l.take i) 0 = []) (h1 : 0 ≤ headI (f i (l.getD i default))) : headI (flatI f l 0) = headI (f i (l.getD i default)) := by
  obtain ⟨r, hr⟩ := flatI_pre f l (i + 1) 0
  rw [hr, flatI_take f l h, h0, List.nil_append, headI_app h1]








end Go.Proofs.Ytlegadpbjccelaa
