/-
  The small logic, texts V7 P1 P2 Cm1 Cl1 Mk1 G1 G3 Th1 Mk2 D1 G7 G8 Cm2 Cm3 G9 G6 G11 Ar1 in one. Conditions: none.
-/
import Derived.Test.YtfmhfdegkpbeiaaGreatDoorQFormatProgramQFormatProgramV4
import Derived.Test.YtfmhfdegkpbeiaaGreatDoorQFormatProgramQFormatProgramVal
import Derived.Test.YtfmhfdegkpbeiaaGreatDoorQFormatProgramQFormatProgramPgE
import Derived.Test.YtfmhfdegkpbeiaaGreatDoorQFormatProgramQFormatProgramPgD
import Derived.Lib.Bytealg
import Derived.Lib.Walk
/- Truthy: the program's and the reference's; the law. Conditions: none beyond the law's own. -/
section
set_option linter.unusedVariables false
set_option linter.unusedSimpArgs false
set_option maxRecDepth 100000
namespace Go.Proofs.YtfmhfdegkpbeiaaGreatDoor
open Go.RowKit

end Go.Proofs.YtfmhfdegkpbeiaaGreatDoor
end

/- Cells and values, in plain words: what is read at a place; a right value's cells; no program in sight. Conditions: none. -/
section
set_option linter.unusedVariables false
set_option linter.unusedSimpArgs false
set_option maxRecDepth 100000
namespace Go.Proofs.YtfmhfdegkpbeiaaGreatDoor
open Go.RowKit

/-! ### what is read, without fuel -/

/-! ### the cells of a value -/

mutual
def V.cellsK (key : ByteArray) : V → List Cell
  | .mk k n t ks kids => ⟨k, n, t, key, (kids.length : Int)⟩ :: V.kidsC kids ks
def V.kidsC : List V → List ByteArray → List Cell
  | [], _ => []
  | v :: r, ks => V.cellsK (ks.headD noS) v ++ V.kidsC r ks.tail
end

def V.cells (v : V) : List Cell := v.cellsK noS

/-! ### a value's cells are read as it -/

end Go.Proofs.YtfmhfdegkpbeiaaGreatDoor
end

/- The parts of a right value in its cells, in plain words: where they begin and end, their keys, their cells; no program in sight. Conditions: none. -/
section
set_option linter.unusedVariables false
set_option linter.unusedSimpArgs false
namespace Go.Proofs.YtfmhfdegkpbeiaaGreatDoor
open Go.RowKit

/-- Where part j of a value at k begins. -/
def V.at (v : V) (k j : Nat) : Nat := k + 1 + V.counts (v.kids.take j)

end Go.Proofs.YtfmhfdegkpbeiaaGreatDoor
end

/- The order of values, in plain words, and that it is one: no program in sight. Conditions: none. -/
section
set_option linter.unusedVariables false
set_option linter.unusedSimpArgs false
set_option maxRecDepth 100000
namespace Go.Proofs.YtfmhfdegkpbeiaaGreatDoor
open Go.RowKit

/-! ### bytes -/

/-! ### an order's laws, for three results -/

end Go.Proofs.YtfmhfdegkpbeiaaGreatDoor
end

/- A call to which all slices of the call's own are lent to be read. Conditions: none. -/
section
set_option linter.unusedVariables false
set_option linter.unusedSimpArgs false
namespace Go.Proofs.YtfmhfdegkpbeiaaGreatDoor
open Go.RowKit

section
variable {E : Env} {N : Nm} {Q : Exit → St → Prop} {ops l : List Oper} {ty : TypeId} {pos : String} {after : Array Edge} {gd : Option (Nat × Bool)} {d : Nat} {tm : Nat → T} {ob : List Ob} {G : List Nat}

end
end Go.Proofs.YtfmhfdegkpbeiaaGreatDoor
end

/- What the laws' marks and holds do to slices of cells and of integers. Conditions: none. -/
section
set_option linter.unusedVariables false
set_option linter.unusedSimpArgs false
set_option maxRecDepth 100000
namespace Go.Proofs.YtfmhfdegkpbeiaaGreatDoor
open Go.RowKit

end Go.Proofs.YtfmhfdegkpbeiaaGreatDoor
end

/- The program's way from values to cells: counts, cells, faults, results. Conditions: none. -/
section
set_option linter.unusedVariables false
set_option linter.unusedSimpArgs false
set_option maxRecDepth 100000
namespace Go.Proofs.YtfmhfdegkpbeiaaGreatDoor
open Go.RowKit

section
variable {E : Env} {N : Nm} {Q : Exit → St → Prop} {S : St} {ops l : List Oper} {ty : TypeId} {pos : String} {after : Array Edge} {gd : Option (Nat × Bool)} {d : Nat} {tm : Nat → T} {ob : List Ob} {G : List Nat}
theorem WG.pub (k : Nat) {z : Nat} {e : TypeId} {rows : List (List D)} {n : Nat} (hk : ob[k]? = some (.gr z e rows n false)) (h : WG G E.P N ops l Q ⟨tm, ob.set k (.gr z e rows n true)⟩) : WG G E.P N ops l Q ⟨tm, ob⟩ := WL.pub (S := ⟨tm, ob⟩) k hk h
end

/-! ### the cells of a right value are right -/

end Go.Proofs.YtfmhfdegkpbeiaaGreatDoor
end

/- The program's way of an operation of one value: outcomes and their results; the plain operations' ways to a result. Conditions: none. -/
section
set_option linter.unusedVariables false
set_option linter.unusedSimpArgs false
set_option maxRecDepth 100000
namespace Go.Proofs.YtfmhfdegkpbeiaaGreatDoor
open Go.RowKit

end Go.Proofs.YtfmhfdegkpbeiaaGreatDoor
end

/- Nodes that name nodes ahead of them: the order in which they stand, how deep they are; no program in sight. Conditions: none. -/
section
set_option linter.unusedVariables false
set_option linter.unusedSimpArgs false
set_option maxRecDepth 100000
namespace Go.Proofs.YtfmhfdegkpbeiaaGreatDoor
open Go.RowKit

abbrev intRow (n : Int) : List D := [dI n]

/-- The nodes that the one at a place names (those ahead of it), by what each node names. -/
def kidsOf (nm : Nat → List Int) (k : Nat) : List Nat := ((nm k).map Int.toNat).filter (· < k)

theorem kidsOf_lt {nm : Nat → List Int} {k j : Nat} (h : j ∈ kidsOf nm k) : j < k := by
  simp only [kidsOf, List.mem_filter, decide_eq_true_eq] at h
  exact h.2

def intsN (l : List Nat) : List Int := l.map fun (j : Nat) => (j : Int)

theorem kidsOf_eq {nm : Nat → List Int} {k : Nat} (h : ∀ m ∈ nm k, 0 ≤ m ∧ m < k) : nm k = intsN (kidsOf nm k) := by
  unfold kidsOf intsN
  generalize nm k = l at h
  induction l with
  | nil => rfl
  | cons m r ih =>
    have h1 := h m (List.mem_cons_self ..)
    rw [List.map_cons, List.filter_cons, if_pos (by simp; omega), List.map_cons, ← ih fun x hx => h x (List.mem_cons_of_mem _ hx)]
    congr 1
    omega

theorem kidsOf_length {nm : Nat → List Int} {k : Nat} (h : ∀ m ∈ nm k, 0 ≤ m ∧ m < k) : (kidsOf nm k).length = (nm k).length := by
  have := congrArg List.length (kidsOf_eq h)
  simpa [intsN] using this.symm

/-- The nodes of the tree of one, in their order. -/
def full (nm : Nat → List Int) (k : Nat) : List Nat := (kidsOf nm k).attach.flatMap (fun j => full nm j.1) ++ [k]
termination_by k
decreasing_by exact kidsOf_lt j.2

theorem full_eq (nm : Nat → List Int) (k : Nat) : full nm k = (kidsOf nm k).flatMap (full nm) ++ [k] := by
  rw [full]
  congr 1
  rw [List.flatMap_def, List.flatMap_def]
  exact congrArg List.flatten (List.attach_map_val (f := full nm))

theorem full_ne (nm : Nat → List Int) (k : Nat) : full nm k ≠ [] := by rw [full_eq]; simp

/-! ### numbers that go on by one -/

def cg : List Nat → Prop
  | a :: b :: r => b = a + 1 ∧ cg (b :: r)
  | _ => True

theorem cg_left : ∀ {l1 l2 : List Nat}, cg (l1 ++ l2) → cg l1
  | [], _, _ => trivial
  | [a], _, _ => trivial
  | a :: b :: r, l2, h => ⟨h.1, cg_left (l1 := b :: r) h.2⟩

theorem cg_right : ∀ {l1 l2 : List Nat}, cg (l1 ++ l2) → cg l2
  | [], _, h => h
  | [a], [], _ => trivial
  | [a], b :: r, h => h.2
  | a :: b :: r, l2, h => cg_right (l1 := b :: r) h.2

theorem cg_mid : ∀ {l1 : List Nat} {a b : Nat} {l2 : List Nat}, cg ((l1 ++ [a]) ++ (b :: l2)) → b = a + 1
  | [], a, b, l2, h => h.1
  | [x], a, b, l2, h => h.2.1
  | x :: y :: r, a, b, l2, h => cg_mid (l1 := y :: r) h.2

theorem cg_join : ∀ {l1 : List Nat} {a : Nat} {l2 : List Nat}, cg (l1 ++ [a]) → cg ((a + 1) :: l2) → cg ((l1 ++ [a]) ++ ((a + 1) :: l2))
  | [], a, l2, _, h => ⟨rfl, h⟩
  | [x], a, l2, h1, h => ⟨h1.1, rfl, h⟩
  | x :: y :: r, a, l2, h1, h => ⟨h1.1, cg_join (l1 := y :: r) h1.2 h⟩

theorem cg_range : ∀ {a : Nat} {l : List Nat}, cg (a :: l) → a :: l = List.range' a (l.length + 1)
  | a, [], _ => by simp
  | a, b :: r, h => by
    obtain ⟨rfl, h2⟩ := h
    have := cg_range h2
    rw [List.length_cons, List.range'_succ, ← this]

theorem range_cg : ∀ (n a : Nat), cg (List.range' a n)
  | 0, a => trivial
  | 1, a => trivial
  | n + 2, a => by
    rw [List.range'_succ, List.range'_succ]
    exact ⟨rfl, by rw [← List.range'_succ]; exact range_cg (n + 1) (a + 1)⟩

open Classical in
/-- Where the tree of one begins; -1: its nodes do not stand in order. -/
noncomputable def begM (nm : Nat → List Int) (k : Nat) : Int := if cg (full nm k) then (((full nm k).headD 0 : Nat) : Int) else -1

theorem begM_neg {nm : Nat → List Int} {k : Nat} (h : ¬ cg (full nm k)) : begM nm k = -1 := by rw [begM, if_neg h]
theorem begM_pos {nm : Nat → List Int} {k b : Nat} {r : List Nat} (h : cg (full nm k)) (hb : full nm k = b :: r) : begM nm k = b := by rw [begM, if_pos h, hb]; rfl

theorem full_le (nm : Nat → List Int) : ∀ k, ∀ j ∈ full nm k, j ≤ k := fun k => by
  induction k using Nat.strongRecOn with
  | _ k ih =>
    intro i hi
    rw [full_eq, List.mem_append, List.mem_flatMap, List.mem_singleton] at hi
    rcases hi with ⟨j, hj, hi⟩ | rfl
    · have h1 := ih j (kidsOf_lt hj) i hi
      have := kidsOf_lt hj
      omega
    · exact Nat.le_refl _

theorem begM_le (nm : Nat → List Int) (k : Nat) : -1 ≤ begM nm k ∧ begM nm k ≤ k := by
  by_cases hc : cg (full nm k)
  · cases hf : full nm k with
    | nil => exact absurd hf (full_ne _ _)
    | cons c r =>
      have h1 := full_le nm k c (by rw [hf]; exact List.mem_cons_self ..)
      rw [begM_pos hc hf]
      omega
  · rw [begM_neg hc]; omega

/-- Backward over the nodes that one names: what is left, what has been seen. -/
def Seen (nm : Nat → List Int) (k : Nat) (us : List Nat) (b : Nat) : Prop := ∃ r, full nm k = us.flatMap (full nm) ++ (b :: r) ∧ cg (b :: r)

theorem Seen.start (nm : Nat → List Int) (k : Nat) : Seen nm k (kidsOf nm k) k := ⟨[], full_eq nm k, trivial⟩

theorem full_last (nm : Nat → List Int) (k : Nat) : ∃ l, full nm k = l ++ [k] := ⟨_, full_eq nm k⟩

theorem Seen.bad {nm : Nat → List Int} {k own b : Nat} {us : List Nat} (h : Seen nm k (us ++ [own]) b) (hn : own + 1 ≠ b) : begM nm k = -1 := by
  obtain ⟨r, h1, h2⟩ := h
  refine begM_neg fun hc => hn ?_
  obtain ⟨l, hl⟩ := full_last nm own
  rw [h1, List.flatMap_append, List.flatMap_singleton, hl, List.append_assoc] at hc
  exact (cg_mid (cg_right hc)).symm

theorem Seen.below {nm : Nat → List Int} {k own b : Nat} {us : List Nat} (h : Seen nm k (us ++ [own]) b) (hn : begM nm own < 0) : begM nm k = -1 := by
  obtain ⟨r, h1, h2⟩ := h
  refine begM_neg fun hc => ?_
  rw [h1, List.flatMap_append, List.flatMap_singleton, List.append_assoc] at hc
  have := cg_left (cg_right hc)
  rw [begM, if_pos this] at hn
  omega

theorem Seen.next {nm : Nat → List Int} {k own b : Nat} {us : List Nat} (h : Seen nm k (us ++ [own]) b) (hb : own + 1 = b) (hn : 0 ≤ begM nm own) : ∃ c : Nat, begM nm own = c ∧ Seen nm k us c := by
  obtain ⟨r, h1, h2⟩ := h
  by_cases hc : cg (full nm own)
  · cases hf : full nm own with
    | nil => exact absurd hf (full_ne _ _)
    | cons c r' =>
      refine ⟨c, begM_pos hc hf, r' ++ (b :: r), ?_, ?_⟩
      · rw [h1, List.flatMap_append, List.flatMap_singleton, hf, List.append_assoc]; rfl
      · obtain ⟨l, hl⟩ := full_last nm own
        subst hb
        have := cg_join (hl ▸ hc) h2
        rw [← hl, hf] at this
        exact this
  · rw [begM_neg hc] at hn; omega

theorem Seen.done {nm : Nat → List Int} {k b : Nat} (h : Seen nm k [] b) : begM nm k = b := by
  obtain ⟨r, h1, h2⟩ := h
  exact begM_pos (by rw [h1]; exact h2) h1

theorem begM_zero {nm : Nat → List Int} {k : Nat} : begM nm k = 0 ↔ full nm k = List.range (k + 1) := by
  constructor
  · intro h
    by_cases hc : cg (full nm k)
    · obtain ⟨l, hl⟩ := full_last nm k
      cases hf : full nm k with
      | nil => exact absurd hf (full_ne _ _)
      | cons c r =>
        rw [begM_pos hc hf] at h
        have hc0 : c = 0 := by omega
        subst hc0
        have hr := cg_range (hf ▸ hc)
        have hlast : (full nm k).getLast (full_ne _ _) = k := by simp [hl]
        have : (0 :: r).getLast (by simp) = k := by
          rw [← hlast]; congr 1; exact hf.symm
        simp only [hr] at this
        rw [List.getLast_range'] at this
        have hlen : r.length = k := by simpa using this
        rw [hr, hlen, List.range_eq_range']
    · rw [begM_neg hc] at h; omega
  · intro h
    rw [begM, if_pos (by rw [h, List.range_eq_range']; exact range_cg _ _), h, List.range_eq_range', List.range'_succ]
    rfl

theorem foldl_attach {α β : Type} (f : β → α → β) : ∀ (l : List α) (b : β), l.attach.foldl (fun o j => f o j.1) b = l.foldl f b := fun l b => by
  have := List.foldl_map (f := fun (j : {x // x ∈ l}) => j.1) (g := f) (l := l.attach) (init := b)
  rw [← this, List.attach_map_subtype_val]

theorem snoc_range {pre : List Nat} {x m : Nat} (h : pre ++ [x] = List.range m) : ∃ q, m = q + 1 ∧ pre = List.range q ∧ x = q := by
  cases m with
  | zero => simp at h
  | succ q =>
    rw [List.range_succ] at h
    have := List.append_inj' h rfl
    exact ⟨q, rfl, this.1, by simpa using this.2⟩

/-! ### the order with a bound -/

def ordM (nm : Nat → List Int) (n : Nat) (k : Nat) (out : List Nat) : List Nat := (kidsOf nm k).attach.foldl (fun o j => if o.length ≤ n then ordM nm n j.1 o else o) out ++ [k]
termination_by k
decreasing_by exact kidsOf_lt j.2

def ordL (nm : Nat → List Int) (n : Nat) (l : List Nat) (out : List Nat) : List Nat := l.foldl (fun o j => if o.length ≤ n then ordM nm n j o else o) out

theorem ordM_eq (nm : Nat → List Int) (n k : Nat) (out : List Nat) : ordM nm n k out = ordL nm n (kidsOf nm k) out ++ [k] := by
  rw [ordM, ordL]
  exact congrArg (· ++ [k]) (foldl_attach (fun o j => if o.length ≤ n then ordM nm n j o else o) (kidsOf nm k) out)

theorem ordL_over {nm : Nat → List Int} {n : Nat} : ∀ {l : List Nat} {out : List Nat}, n < out.length → ordL nm n l out = out
  | [], out, h => rfl
  | j :: l, out, h => by
    have := ordL_over (nm := nm) (l := l) h
    unfold ordL at this ⊢
    rw [List.foldl_cons, if_neg (by omega)]
    exact this

theorem ordL_cons {nm : Nat → List Int} {n j : Nat} {l out : List Nat} (h : out.length ≤ n) : ordL nm n (j :: l) out = ordL nm n l (ordM nm n j out) := by
  unfold ordL; rw [List.foldl_cons, if_pos h]

def OrdP (nm : Nat → List Int) (n k : Nat) : Prop := ∀ out : List Nat, (out.length + (full nm k).length ≤ n + 1 → ordM nm n k out = out ++ full nm k) ∧ (ordM nm n k out = out ++ full nm k ∨ n < (ordM nm n k out).length) ∧
  out.length < (ordM nm n k out).length ∧ (ordM nm n k out).length ≤ max out.length n + k + 1

theorem ordL_p {nm : Nat → List Int} {n k : Nat} : ∀ (l : List Nat), (∀ j ∈ l, j < k ∧ OrdP nm n j) → ∀ out : List Nat, (out.length + (l.flatMap (full nm)).length ≤ n → ordL nm n l out = out ++ l.flatMap (full nm)) ∧
    (ordL nm n l out = out ++ l.flatMap (full nm) ∨ n < (ordL nm n l out).length) ∧ out.length ≤ (ordL nm n l out).length ∧ (ordL nm n l out).length ≤ max out.length (n + k)
  | [], _, out => by
    have e : ordL nm n [] out = out := rfl
    rw [e]
    simp
    omega
  | j :: l, hl, out => by
    have ih := ordL_p l (fun i hi => hl i (List.mem_cons_of_mem _ hi))
    obtain ⟨hjk, hj⟩ := hl j (List.mem_cons_self ..)
    by_cases ho : out.length ≤ n
    · rw [ordL_cons ho]
      obtain ⟨a1, a2, a3, a4⟩ := hj out
      obtain ⟨b1, b2, b3, b4⟩ := ih (ordM nm n j out)
      rw [List.flatMap_cons, ← List.append_assoc]
      refine ⟨fun h => ?_, ?_, by omega, by omega⟩
      · simp only [List.length_append] at h
        have e := a1 (by omega)
        rw [e] at b1 ⊢
        exact b1 (by simp only [List.length_append]; omega)
      · rcases a2 with e | h
        · rw [e] at b2 ⊢
          exact b2
        · exact .inr (by omega)
    · rw [ordL_over (by omega)]
      refine ⟨fun h => by omega, .inr (by omega), by omega, by omega⟩

theorem ordM_p (nm : Nat → List Int) (n : Nat) : ∀ k, OrdP nm n k := fun k => by
  induction k using Nat.strongRecOn with
  | _ k ih =>
    intro out
    obtain ⟨b1, b2, b3, b4⟩ := ordL_p (n := n) (k := k) (kidsOf nm k) (fun j hj => ⟨kidsOf_lt hj, ih j (kidsOf_lt hj)⟩) out
    rw [ordM_eq, full_eq, ← List.append_assoc]
    simp only [List.length_append, List.length_singleton]
    refine ⟨fun h => by rw [b1 (by omega)], ?_, by omega, by omega⟩
    rcases b2 with e | h
    · exact .inl (by rw [e])
    · exact .inr (by omega)

theorem ordM_range {nm : Nat → List Int} {k : Nat} : ordM nm (k + 1) k [] = List.range (k + 1) ↔ full nm k = List.range (k + 1) := by
  obtain ⟨a1, a2, _, _⟩ := ordM_p nm (k + 1) k []
  constructor
  · intro h
    rcases a2 with e | hl
    · rw [← h, e]; rfl
    · rw [h] at hl; simp at hl
  · intro h
    rw [a1 (by rw [h]; simp), h]; rfl

/-! ### how deep -/

def nestM (nm : Nat → List Int) (k : Nat) : Nat := (kidsOf nm k).attach.foldl (fun m j => max m (nestM nm j.1)) 0 + 1
termination_by k
decreasing_by exact kidsOf_lt j.2

def maxL (f : Nat → Nat) (l : List Nat) : Nat := l.foldl (fun m j => max m (f j)) 0

theorem nestM_eq (nm : Nat → List Int) (k : Nat) : nestM nm k = maxL (nestM nm) (kidsOf nm k) + 1 := by
  rw [nestM, maxL]
  exact congrArg (· + 1) (foldl_attach (fun m j => max m (nestM nm j)) (kidsOf nm k) 0)

theorem maxL_snoc (f : Nat → Nat) (l : List Nat) (j : Nat) : maxL f (l ++ [j]) = max (maxL f l) (f j) := by simp [maxL]

theorem maxL_from (f : Nat → Nat) : ∀ (l : List Nat) (m : Nat), m ≤ l.foldl (fun m j => max m (f j)) m ∧ ∀ j ∈ l, f j ≤ l.foldl (fun m j => max m (f j)) m
  | [], m => ⟨Nat.le_refl _, fun j h => by cases h⟩
  | x :: l, m => by
    obtain ⟨h1, h2⟩ := maxL_from f l (max m (f x))
    rw [List.foldl_cons]
    refine ⟨by omega, fun j hj => ?_⟩
    rcases List.mem_cons.1 hj with rfl | hj
    · omega
    · exact h2 j hj

theorem maxL_mem {f : Nat → Nat} {l : List Nat} {j : Nat} (h : j ∈ l) : f j ≤ maxL f l := (maxL_from f l 0).2 j h

theorem maxL_le {f : Nat → Nat} {b : Nat} : ∀ {l : List Nat} {m : Nat}, m ≤ b → (∀ j ∈ l, f j ≤ b) → l.foldl (fun m j => max m (f j)) m ≤ b
  | [], m, hm, _ => hm
  | x :: l, m, hm, h => by
    rw [List.foldl_cons]
    exact maxL_le (by have := h x (List.mem_cons_self ..); omega) fun j hj => h j (List.mem_cons_of_mem _ hj)

theorem nestM_full (nm : Nat → List Int) : ∀ k, ∀ i ∈ full nm k, nestM nm i ≤ nestM nm k := fun k => by
  induction k using Nat.strongRecOn with
  | _ k ih =>
    intro i hi
    rw [full_eq, List.mem_append, List.mem_flatMap, List.mem_singleton] at hi
    rcases hi with ⟨j, hj, hi⟩ | rfl
    · have h1 := ih j (kidsOf_lt hj) i hi
      have h2 := maxL_mem (f := nestM nm) hj
      rw [nestM_eq nm k]
      omega
    · exact Nat.le_refl _

theorem nestM_le (nm : Nat → List Int) : ∀ k, nestM nm k ≤ k + 1 := fun k => by
  induction k using Nat.strongRecOn with
  | _ k ih =>
    rw [nestM_eq]
    have : maxL (nestM nm) (kidsOf nm k) ≤ k := maxL_le (by omega) fun j hj => by have := ih j (kidsOf_lt hj); have := kidsOf_lt hj; omega
    omega

theorem nest_most {nm : Nat → List Int} {k : Nat} (h : full nm k = List.range (k + 1)) : maxL (nestM nm) (List.range (k + 1)) = nestM nm k := by
  apply Nat.le_antisymm
  · refine maxL_le (by omega) fun j hj => nestM_full nm k j (by rw [h]; exact hj)
  · exact maxL_mem (by simp)

end Go.Proofs.YtfmhfdegkpbeiaaGreatDoor
end

/- What the laws' marks and holds do to slices of integers and to their results; two arguments' sizes. Conditions: none. -/
section
set_option linter.unusedVariables false
set_option linter.unusedSimpArgs false
set_option maxRecDepth 100000
namespace Go.Proofs.YtfmhfdegkpbeiaaGreatDoor
open Go.RowKit

end Go.Proofs.YtfmhfdegkpbeiaaGreatDoor
end

/- DepthOf and EndAt: the program's and the reference's; the laws. Conditions: none beyond the laws' own. -/
section
set_option linter.unusedVariables false
set_option linter.unusedSimpArgs false
set_option maxRecDepth 100000
namespace Go.Proofs.YtfmhfdegkpbeiaaGreatDoor
open Go.RowKit

/-! ### EndAt -/

end Go.Proofs.YtfmhfdegkpbeiaaGreatDoor
end

/- The law of PartAt. Conditions: none. -/
section
set_option linter.unusedVariables false
set_option linter.unusedSimpArgs false
set_option maxRecDepth 100000
namespace Go.Proofs.YtfmhfdegkpbeiaaGreatDoor
open Go.RowKit

section
variable {E : Env} {N : Nm} {Q : Exit → St → Prop} {S : St} {ops l : List Oper} {ty : TypeId} {pos : String} {after : Array Edge} {gd : Option (Nat × Bool)} {d : Nat}

variable {tm : Nat → T} {ob : List Ob} {G : List Nat}
end

end Go.Proofs.YtfmhfdegkpbeiaaGreatDoor
end

/- The parts of a value and their keys: the program's ChildrenAt, the reference's children, parts and keys. Conditions: none. -/
section
set_option linter.unusedVariables false
set_option linter.unusedSimpArgs false
set_option maxRecDepth 100000
namespace Go.Proofs.YtfmhfdegkpbeiaaGreatDoor
open Go.RowKit

end Go.Proofs.YtfmhfdegkpbeiaaGreatDoor
end

/- The program's way of comparing values. Conditions: values of at most 2^20 cells. -/
section
set_option linter.unusedVariables false
set_option linter.unusedSimpArgs false
set_option maxRecDepth 100000
namespace Go.Proofs.YtfmhfdegkpbeiaaGreatDoor
open Go.RowKit

end Go.Proofs.YtfmhfdegkpbeiaaGreatDoor
end

/- The reference's way of comparing values: parts, keys, comparison; what both ways give. Conditions: none. -/
section
set_option linter.unusedVariables false
set_option linter.unusedSimpArgs false
set_option maxRecDepth 100000
namespace Go.Proofs.YtfmhfdegkpbeiaaGreatDoor
open Go.RowKit

end Go.Proofs.YtfmhfdegkpbeiaaGreatDoor
end

/- Operations of one value that have captured something; a part of a value by its number. Conditions: none. -/
section
set_option linter.unusedVariables false
set_option linter.unusedSimpArgs false
set_option maxRecDepth 100000
namespace Go.Proofs.YtfmhfdegkpbeiaaGreatDoor
open Go.RowKit

end Go.Proofs.YtfmhfdegkpbeiaaGreatDoor
end

/- The law of RangeOf. Conditions: none. -/
section
set_option linter.unusedVariables false
set_option linter.unusedSimpArgs false
set_option maxRecDepth 100000
namespace Go.Proofs.YtfmhfdegkpbeiaaGreatDoor
open Go.RowKit

end Go.Proofs.YtfmhfdegkpbeiaaGreatDoor
end

/- Arrays that are made of values; values told with their fault; all values in a value; keys as values. Conditions: none. -/
section
set_option linter.unusedVariables false
set_option linter.unusedSimpArgs false
set_option maxRecDepth 100000
namespace Go.Proofs.YtfmhfdegkpbeiaaGreatDoor
open Go.RowKit

end Go.Proofs.YtfmhfdegkpbeiaaGreatDoor
end

/- An array out of values, by the program and by the reference. Conditions: cells of at most 2^20 bytes. -/
section
set_option linter.unusedVariables false
set_option linter.unusedSimpArgs false
set_option maxRecDepth 100000
namespace Go.Proofs.YtfmhfdegkpbeiaaGreatDoor
open Go.RowKit

end Go.Proofs.YtfmhfdegkpbeiaaGreatDoor
end
