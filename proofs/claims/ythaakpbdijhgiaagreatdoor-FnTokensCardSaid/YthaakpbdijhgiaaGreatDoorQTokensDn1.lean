/-
  What digits spell; no program in sight. Conditions: none.
-/
import Derived.Test.YthaakpbdijhgiaaGreatDoorQTokensW2
import Derived.Lib.ParseIntB
set_option linter.unusedVariables false
set_option linter.unusedSimpArgs false
set_option maxRecDepth 100000
namespace Go.Proofs.YthaakpbdijhgiaaGreatDoor
open Go.RowKit

/-- What digits spell behind others. -/
def digs (a : Nat) (l : List UInt8) : Nat := l.foldl (fun a c => a * 10 + (c.toNat - 48)) a
theorem digs_nil (a : Nat) : digs a [] = a := by unfold digs; rw [List.foldl_nil]
theorem digs_cons (a : Nat) (c : UInt8) (r : List UInt8) : digs a (c :: r) = digs (a * 10 + (c.toNat - 48)) r := by unfold digs; rw [List.foldl_cons]
def isDg (c : UInt8) : Prop := 48 ≤ c.toNat ∧ c.toNat ≤ 57

theorem digs_le (l : List UInt8) : ∀ (a : Nat), a ≤ digs a l := by
  induction l with
  | nil => intro a; rw [digs_nil]; exact Nat.le_refl a
  | cons c r ih =>
    intro a
    have := ih (a * 10 + (c.toNat - 48))
    rw [digs_cons]
    omega
theorem digs_app (l : List UInt8) (c : UInt8) (a : Nat) : digs a (l ++ [c]) = digs a l * 10 + (c.toNat - 48) := by
  unfold digs
  rw [List.foldl_append]
  rfl
theorem parseU (l : List UInt8) : ∀ (a : Nat), a ≤ 18446744073709551615 → (∀ c ∈ l, isDg c) → (digs a l ≤ 18446744073709551615 → Lib.parseUintM 18446744073709551615 a l = .ok (digs a l)) ∧ (18446744073709551615 < digs a l → Lib.parseUintM 18446744073709551615 a l = .range) := by
  induction l with
  | nil =>
    intro a ha _
    rw [digs_nil]
    exact ⟨fun _ => by rw [Lib.parseUintM], fun h => absurd ha (by omega)⟩
  | cons c r ih =>
    intro a ha h
    have h2 := h c (List.mem_cons_self ..)
    have h3 := digs_le r (a * 10 + (c.toNat - 48))
    unfold isDg at h2
    have e : Lib.parseUintM 18446744073709551615 a (c :: r) = if 1844674407370955162 ≤ a then .range else if 18446744073709551615 < a * 10 + (c.toNat - 48) then .range else Lib.parseUintM 18446744073709551615 (a * 10 + (c.toNat - 48)) r := by
      rw [Lib.parseUintM, if_pos h2]
    rw [e, digs_cons]
    by_cases h4 : 1844674407370955162 ≤ a
    · rw [if_pos h4]
      exact ⟨fun h => absurd h (by omega), fun _ => rfl⟩
    · rw [if_neg h4]
      by_cases h5 : 18446744073709551615 < a * 10 + (c.toNat - 48)
      · rw [if_pos h5]
        exact ⟨fun h => absurd h (by omega), fun _ => rfl⟩
      · rw [if_neg h5]
        exact ih (a * 10 + (c.toNat - 48)) (by omega) fun x hx => h x (List.mem_cons_of_mem _ hx)

theorem parseUB {l : List UInt8} (h : ∀ c ∈ l, isDg c) (hne : l ≠ []) : (digs 0 l ≤ 18446744073709551615 → Lib.parseUintB 64 l = .ok (digs 0 l)) ∧ (18446744073709551615 < digs 0 l → Lib.parseUintB 64 l = .range) := by
  unfold Lib.parseUintB
  rw [if_neg hne]
  exact parseU l 0 (by omega) h

/-- The number of a text of digits, as the library reads it. -/
theorem parseI_pos {l : List UInt8} (h : ∀ c ∈ l, isDg c) (hne : l ≠ []) : (digs 0 l < 9223372036854775808 → Lib.parseIntB 64 l = .ok (digs 0 l : Int)) ∧ (9223372036854775808 ≤ digs 0 l → Lib.parseIntB 64 l = .range) := by
  match l, h, hne with
  | c :: r, h, hne =>
    have h2 := h c (List.mem_cons_self ..)
    unfold isDg at h2
    obtain ⟨u1, u2⟩ := parseUB h hne
    unfold Lib.parseIntB
    generalize digs 0 (c :: r) = v at *
    simp only
    rw [if_neg (by omega)]
    constructor
    · intro h4
      rw [u1 (by omega)]
      simp only
      rw [if_neg (by omega), if_neg (by omega), if_neg (by omega)]
    · intro h4
      by_cases h3 : v ≤ 18446744073709551615
      · rw [u1 h3]
        simp only
        rw [if_pos (by omega)]
      · rw [u2 (by omega)]

/-- .. with a sign. -/
theorem parseI_neg {r : List UInt8} (h : ∀ c ∈ r, isDg c) (hne : r ≠ []) : (digs 0 r ≤ 9223372036854775808 → Lib.parseIntB 64 (45 :: r) = .ok (-(digs 0 r : Int))) ∧ (9223372036854775808 < digs 0 r → Lib.parseIntB 64 (45 :: r) = .range) := by
  obtain ⟨u1, u2⟩ := parseUB h hne
  have e : (45 : UInt8).toNat = 45 := rfl
  unfold Lib.parseIntB
  generalize digs 0 r = v at *
  simp only
  rw [if_pos (.inr e)]
  constructor
  · intro h4
    rw [u1 (by omega)]
    simp only
    rw [if_neg (by omega), if_neg (by omega), if_pos e]
  · intro h4
    by_cases h3 : v ≤ 18446744073709551615
    · rw [u1 h3]
      simp only
      rw [if_neg (by omega), if_pos (by omega)]
    · rw [u2 (by omega)]

/-- How many bytes a sign takes. -/
def sgnM (s : ByteArray) : Nat := if 0 < s.size ∧ byteAt s 0 = 45 then 1 else 0
theorem sgnM_le (s : ByteArray) : sgnM s ≤ s.size ∧ sgnM s ≤ 1 := by unfold sgnM; split <;> omega
/-- The digits of a text. -/
def digL (s : ByteArray) : List UInt8 := s.data.toList.drop (sgnM s)
theorem digL_length (s : ByteArray) : (digL s).length = s.size - sgnM s := by
  unfold digL
  rw [List.length_drop]
  rfl
/-- Whether a text is a number as JSON has it, without a fraction. -/
def numOK (s : ByteArray) : Bool := decide (sgnM s < s.size) && decide (runOf digitB s (sgnM s) = s.size) && (decide (byteAt s (sgnM s) ≠ 48) || decide (s.size = sgnM s + 1))

theorem runOf_all {p : Int → Bool} {s : ByteArray} {k : Nat} (hk : k ≤ s.size) (h : runOf p s k = s.size) : ∀ i, k ≤ i → i < s.size → p (byteAt s i) = true := by
  generalize hn : s.size - k = n
  induction n generalizing k with
  | zero => intro i h1 h2; omega
  | succ n ih =>
    intro i h1 h2
    by_cases hp : k < s.size ∧ p (byteAt s k) = true
    · rw [runOf_step hp.1 hp.2] at h
      by_cases h3 : i = k
      · subst h3; exact hp.2
      · exact ih (by omega) h (by omega) i (by omega) h2
    · rw [runOf_stop hp] at h
      omega

theorem numOK_digits {s : ByteArray} (h : numOK s = true) : (∀ c ∈ digL s, isDg c) ∧ digL s ≠ [] := by
  unfold numOK at h
  simp only [Bool.and_eq_true, decide_eq_true_eq] at h
  obtain ⟨⟨h1, h2⟩, _⟩ := h
  have hl := digL_length s
  have hs := sgnM_le s
  refine ⟨fun c hc => ?_, fun he => by rw [he] at hl; simp at hl; omega⟩
  obtain ⟨i, hi, rfl⟩ := List.getElem_of_mem hc
  have h3 := runOf_all hs.1 h2 (sgnM s + i) (by omega) (by omega)
  have e : byteAt s (sgnM s + i) = ((digL s)[i].toNat : Int) := by
    unfold byteAt digL
    have hlt : sgnM s + i < s.data.toList.length := by
      rw [hl] at hi
      show sgnM s + i < s.size
      omega
    rw [List.getD_eq_getElem?_getD, List.getElem?_eq_getElem hlt, Option.getD_some]
    congr 2
    exact (List.getElem_drop ..).symm
  rw [e] at h3
  unfold digitB at h3
  simp only [Bool.and_eq_true, decide_eq_true_eq] at h3
  unfold isDg
  omega

end Go.Proofs.YthaakpbdijhgiaaGreatDoor
