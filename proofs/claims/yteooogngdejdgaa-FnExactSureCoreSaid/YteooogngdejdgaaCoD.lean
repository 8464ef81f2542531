/-
  How many values a core gives: the model, and the program's functions on counts. Conditions: numbers of at most 1000.
-/
import Derived.Test.YteooogngdejdgaaCoA
set_option linter.unusedVariables false
set_option linter.unusedSimpArgs false
set_option maxRecDepth 100000
namespace Go.Proofs.Yteooogngdejdgaa
open Go.RowKit

structure Ct where
  low : Int
  high : Int
  fails : Bool
  deriving DecidableEq

instance : Inhabited Ct := ⟨⟨0, 0, false⟩⟩

def Ct.row (c : Ct) : List D := [dI 0, dI c.low, dI c.high, dB c.fails]
def Ct.ok (c : Ct) : Prop := (0 ≤ c.low ∧ c.low ≤ 1000) ∧ (0 ≤ c.high ∧ c.high ≤ 1000)

def sumC (a b : Int) : Int := min 1000 (a + b)
def prodC (a b : Int) : Int := min 1000 (a * b)
def timesC (c d : Ct) : Ct := ⟨prodC c.low d.low, prodC c.high d.high, c.fails || d.fails⟩
def oneC (n : Co) : Ct := if n.op = 17 then ⟨0, 0, false⟩ else ⟨1, 1, if n.op = 16 then decide (n.num ≠ 3) else false⟩

/-- The count of a node out of those that it names. -/
def cntNode (n : Co) (ea : Bool) (a b c : Ct) : Ct :=
  if arC n.op = 0 then oneC n
  else if n.op = 3 ∨ n.op = 14 then timesC a b
  else if n.op = 4 then ⟨sumC a.low b.low, sumC a.high b.high, a.fails || b.fails⟩
  else if n.op = 12 then timesC a ⟨min b.low c.low, max b.high c.high, b.fails || c.fails⟩
  else if n.op = 6 then ⟨prodC a.low b.low, prodC a.high b.high, (a.fails || b.fails) || !(decide (4 ≤ n.num) && decide (n.num ≤ 9))⟩
  else if n.op = 7 ∨ n.op = 11 then ⟨prodC a.low b.low, prodC a.high b.high, true⟩
  else if n.op = 8 then (if a.high = 0 then ⟨0, 0, a.fails⟩ else ⟨0, 1000, true⟩)
  else if n.op = 9 then ⟨if a.fails = true then 0 else a.low, a.high, false⟩
  else if n.op = 10 then ⟨1, 1, ea⟩
  else if n.op = 13 then ⟨b.low, b.high, a.fails || b.fails || c.fails⟩
  else ⟨if 0 < a.high ∧ 0 < b.low then 1 else b.low, max a.high b.high, b.fails⟩

def eaC (cs : List Co) (n : Co) : Bool := !decide ((cs.getD n.a.toNat default).op = 17)

def cntM (cs : List Co) : Nat → Nat → Ct
  | 0, _ => default
  | f + 1, k => cntNode (cs.getD k default) (eaC cs (cs.getD k default)) (((kidsOf (nmC cs) k).map (cntM cs f)).getD 0 default) (((kidsOf (nmC cs) k).map (cntM cs f)).getD 1 default) (((kidsOf (nmC cs) k).map (cntM cs f)).getD 2 default)

theorem mul_1000 {a b : Int} (ha : 0 ≤ a ∧ a ≤ 1000) (hb : 0 ≤ b ∧ b ≤ 1000) : 0 ≤ a * b ∧ a * b ≤ 1000000 :=
  ⟨Int.mul_nonneg ha.1 hb.1, Int.le_trans (Int.mul_le_mul ha.2 hb.2 hb.1 (by omega)) (by omega)⟩

theorem prodC_ok {a b : Int} (ha : 0 ≤ a ∧ a ≤ 1000) (hb : 0 ≤ b ∧ b ≤ 1000) : 0 ≤ prodC a b ∧ prodC a b ≤ 1000 := by
  have := mul_1000 ha hb
  unfold prodC
  omega

theorem sumC_ok {a b : Int} (ha : 0 ≤ a ∧ a ≤ 1000) (hb : 0 ≤ b ∧ b ≤ 1000) : 0 ≤ sumC a b ∧ sumC a b ≤ 1000 := by
  unfold sumC
  omega

theorem Ct.ok_default : (default : Ct).ok := ⟨⟨by decide, by decide⟩, by decide, by decide⟩

theorem timesC_ok {a b : Ct} (ha : a.ok) (hb : b.ok) : (timesC a b).ok := ⟨prodC_ok ha.1 hb.1, prodC_ok ha.2 hb.2⟩

theorem oneC_ok (n : Co) : (oneC n).ok := by
  unfold oneC
  split <;> exact ⟨⟨by simp, by simp⟩, by simp, by simp⟩

set_option maxHeartbeats 1000000 in
theorem cntNode_ok (n : Co) (ea : Bool) {a b c : Ct} (ha : a.ok) (hb : b.ok) (hc : c.ok) : (cntNode n ea a b c).ok := by
  have ha1 := ha.1
  have ha2 := ha.2
  have hb1 := hb.1
  have hb2 := hb.2
  have hc1 := hc.1
  have hc2 := hc.2
  unfold cntNode
  by_cases h : arC n.op = 0
  · rw [if_pos h]; exact oneC_ok n
  rw [if_neg h]; clear h
  by_cases h : n.op = 3 ∨ n.op = 14
  · rw [if_pos h]; exact timesC_ok ha hb
  rw [if_neg h]; clear h
  by_cases h : n.op = 4
  · rw [if_pos h]; exact ⟨sumC_ok ha1 hb1, sumC_ok ha2 hb2⟩
  rw [if_neg h]; clear h
  by_cases h : n.op = 12
  · rw [if_pos h]
    refine timesC_ok ha ⟨?_, ?_⟩
    · show 0 ≤ min b.low c.low ∧ min b.low c.low ≤ 1000
      omega
    · show 0 ≤ max b.high c.high ∧ max b.high c.high ≤ 1000
      omega
  rw [if_neg h]; clear h
  by_cases h : n.op = 6
  · rw [if_pos h]; exact ⟨prodC_ok ha1 hb1, prodC_ok ha2 hb2⟩
  rw [if_neg h]; clear h
  by_cases h : n.op = 7 ∨ n.op = 11
  · rw [if_pos h]; exact ⟨prodC_ok ha1 hb1, prodC_ok ha2 hb2⟩
  rw [if_neg h]; clear h
  by_cases h : n.op = 8
  · rw [if_pos h]
    by_cases h : a.high = 0
    · rw [if_pos h]; exact ⟨⟨by dsimp only; omega, by dsimp only; omega⟩, by dsimp only; omega, by dsimp only; omega⟩
    · rw [if_neg h]; exact ⟨⟨by dsimp only; omega, by dsimp only; omega⟩, by dsimp only; omega, by dsimp only; omega⟩
  rw [if_neg h]; clear h
  by_cases h : n.op = 9
  · rw [if_pos h]
    refine ⟨?_, ha2⟩
    show 0 ≤ (if a.fails = true then 0 else a.low) ∧ (if a.fails = true then 0 else a.low) ≤ 1000
    by_cases h : a.fails = true
    · rw [if_pos h]; omega
    · rw [if_neg h]; exact ha1
  rw [if_neg h]; clear h
  by_cases h : n.op = 10
  · rw [if_pos h]; exact ⟨⟨by dsimp only; omega, by dsimp only; omega⟩, by dsimp only; omega, by dsimp only; omega⟩
  rw [if_neg h]; clear h
  by_cases h : n.op = 13
  · rw [if_pos h]; exact ⟨hb1, hb2⟩
  rw [if_neg h]; clear h
  refine ⟨?_, ?_⟩
  · show 0 ≤ (if 0 < a.high ∧ 0 < b.low then 1 else b.low) ∧ (if 0 < a.high ∧ 0 < b.low then 1 else b.low) ≤ 1000
    by_cases h : 0 < a.high ∧ 0 < b.low
    · rw [if_pos h]; omega
    · rw [if_neg h]; exact hb1
  · show 0 ≤ max a.high b.high ∧ max a.high b.high ≤ 1000
    omega

theorem cntM_ok (cs : List Co) : ∀ f k, (cntM cs f k).ok
  | 0, k => Ct.ok_default
  | f + 1, k => by
    have hg : ∀ i, (((kidsOf (nmC cs) k).map (cntM cs f)).getD i default).ok := fun i => by
      by_cases h : i < ((kidsOf (nmC cs) k).map (cntM cs f)).length
      · have := getD_mem' h
        obtain ⟨j, hj, e⟩ := List.mem_map.1 this
        rw [← e]
        exact cntM_ok cs f j
      · rw [List.getD_eq_getElem?_getD, List.getElem?_eq_none (by omega)]
        exact Ct.ok_default
    exact cntNode_ok _ _ (hg 0) (hg 1) (hg 2)

end Go.Proofs.Yteooogngdejdgaa
