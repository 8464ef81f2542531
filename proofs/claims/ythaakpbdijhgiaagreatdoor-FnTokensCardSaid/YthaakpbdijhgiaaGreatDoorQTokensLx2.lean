/-
  What stands at a token's place; no program in sight. Conditions: none.
-/
import Derived.Test.YthaakpbdijhgiaaGreatDoorQTokensLx1
set_option linter.unusedVariables false
set_option linter.unusedSimpArgs false
set_option maxRecDepth 100000
namespace Go.Proofs.YthaakpbdijhgiaaGreatDoor
open Go.RowKit

theorem Sits.tail {s a b : ByteArray} {p : Nat} (h : Sits s p (a ++ b)) : Sits s (p + a.size) b := by
  have hs : (a ++ b).size = a.size + b.size := ByteArray.size_append ..
  obtain ⟨h1, h2, h3⟩ := h
  refine ⟨by omega, fun j hj => ?_, by rw [show p + a.size + b.size = p + (a ++ b).size by omega]; exact h3⟩
  have := h2 (a.size + j) (by omega)
  rw [byteAt_app, if_neg (by omega), Nat.add_sub_cancel_left] at this
  rw [← this, Nat.add_assoc]
theorem Sits.first {s w : ByteArray} {p : Nat} (h : Sits s p w) (hw : 0 < w.size) : p < s.size ∧ byteAt s p = byteAt w 0 := by
  have h1 := h.fits
  have h2 := h.at_ 0 hw
  exact ⟨by omega, h2⟩

/-! ### names -/

theorem name_bytes {w : ByteArray} (h : isNameM w = true) : 1 ≤ w.size ∧ w.size ≤ 12 ∧ letterB (byteAt w 0) = true ∧ ∀ j, 1 ≤ j → j < w.size → nameB (byteAt w j) = true := by
  unfold isNameM at h
  rw [decide_eq_true_eq] at h
  obtain ⟨h1, h2, h3⟩ := h
  unfold nameLen at h3
  by_cases hl : 0 < w.size ∧ letterB (byteAt w 0) = true
  · rw [if_pos hl] at h3
    exact ⟨h1, h2, hl.2, runOf_all (k := 1) (by omega) (by omega)⟩
  · rw [if_neg hl] at h3
    omega
theorem nameLen_sits {s w : ByteArray} {p : Nat} (h : Sits s p w) (hw : isNameM w = true) : nameLen s p = w.size := by
  obtain ⟨h1, h2, h3, h4⟩ := name_bytes hw
  obtain ⟨hp, hb⟩ := h.first (by omega)
  unfold nameLen
  rw [if_pos ⟨hp, by rw [hb]; exact h3⟩, h.run (by decide) 1 (by omega) h4]
  omega
theorem nameLen_none {s : ByteArray} {p : Nat} (h : p < s.size → letterB (byteAt s p) = false) : nameLen s p = 0 := by
  unfold nameLen
  rw [if_neg]
  rintro ⟨a, b⟩
  rw [h a] at b
  cases b

/-! ### marks -/

/-- Whether a text stands at a place. -/
def isAt (s : ByteArray) (p : Nat) (m : ByteArray) : Bool := decide (p + m.size ≤ s.size) && (List.range m.size).all fun j => decide (byteAt s (p + j) = byteAt m j)
/-- Whether a text begins with another one. -/
def begins (w m : ByteArray) : Bool := decide (m.size ≤ w.size) && (List.range m.size).all fun j => decide (byteAt w j = byteAt m j)

theorem marks_no32 : marksT.all (fun m => (List.range m.size).all fun j => decide (byteAt m j ≠ 32)) = true := by decide +kernel
theorem marks_find : marksT.all (fun w => decide (marksT.find? (fun m => begins w m) = some w)) = true := by decide +kernel

theorem isAt_sits {s w m : ByteArray} {p : Nat} (h : Sits s p w) (hm : m ∈ marksT) : isAt s p m = begins w m := by
  have h32 := List.all_eq_true.1 marks_no32 m hm
  rw [List.all_eq_true] at h32
  obtain ⟨h1, h2, h3⟩ := h
  rw [Bool.eq_iff_iff]
  unfold isAt begins
  simp only [Bool.and_eq_true, decide_eq_true_eq, List.all_eq_true, List.mem_range]
  constructor
  · rintro ⟨a, b⟩
    have hle : m.size ≤ w.size := by
      rcases Nat.lt_or_ge w.size m.size with hlt | hge
      · exfalso
        rcases h3 with h3 | ⟨h3, h4⟩
        · omega
        · have := b w.size hlt
          have h5 := h32 w.size (List.mem_range.2 hlt)
          rw [decide_eq_true_eq] at h5
          exact h5 (by rw [← this]; exact h4)
      · exact hge
    exact ⟨hle, fun j hj => by rw [← h2 j (by omega)]; exact b j hj⟩
  · rintro ⟨a, b⟩
    exact ⟨by omega, fun j hj => by rw [h2 j (by omega)]; exact b j hj⟩

theorem find_sits {s w : ByteArray} {p : Nat} (h : Sits s p w) (hw : w ∈ marksT) : marksT.find? (fun m => isAt s p m) = some w := by
  have h1 := List.all_eq_true.1 marks_find w hw
  rw [decide_eq_true_eq] at h1
  rw [← h1]
  have : ∀ l : List ByteArray, (∀ m ∈ l, m ∈ marksT) → l.find? (fun m => isAt s p m) = l.find? (fun m => begins w m) := by
    intro l
    induction l with
    | nil => intro _; rfl
    | cons m r ih =>
      intro hl
      rw [List.find?_cons, List.find?_cons, isAt_sits h (hl m (List.mem_cons_self ..)), ih fun x hx => hl x (List.mem_cons_of_mem _ hx)]
  exact this marksT fun m hm => hm

/-- What is known of a mark's first bytes. -/
theorem marks_first : marksT.all (fun w => decide (1 ≤ w.size) && !digitB (byteAt w 0) && !blankB (byteAt w 0) && decide (byteAt w 0 ≠ 34) && !letterB (byteAt w 0) && decide (byteAt w 0 ≠ 36) && (decide (byteAt w 0 ≠ 46) || decide (w.size = 1) || !letterB (byteAt w 1))) = true := by decide +kernel

/-! ### a token's first byte -/

theorem letter_facts {c : Int} (h : letterB c = true) : digitB c = false ∧ blankB c = false ∧ c ≠ 34 ∧ c ≠ 46 ∧ c ≠ 36 := by
  unfold letterB at h
  simp only [Bool.or_eq_true, Bool.and_eq_true, decide_eq_true_eq] at h
  refine ⟨?_, ?_, by omega, by omega, by omega⟩
  · unfold digitB
    rw [Bool.and_eq_false_iff]
    simp only [decide_eq_false_iff_not]
    omega
  · unfold blankB
    simp only [Bool.or_eq_false_iff, decide_eq_false_iff_not]
    omega
theorem digit_blank {c : Int} (h : digitB c = true) : blankB c = false := by
  unfold digitB at h
  simp only [Bool.and_eq_true, decide_eq_true_eq] at h
  unfold blankB
  simp only [Bool.or_eq_false_iff, decide_eq_false_iff_not]
  omega

theorem tokS_cases {t : Tk} (h : tokC t = 0) : (t.kind = 1 ∧ t.text = noS ∧ 0 ≤ t.num ∧ t.num ≤ 1000000000000000 ∧ tokS t = decS t.num.toNat) ∨ (t.kind = 2 ∧ t.num = 0 ∧ okText t.text = true ∧ tokS t = quoted t.text) ∨
    (t.kind = 3 ∧ t.num = 0 ∧ isNameM t.text = true ∧ tokS t = t.text) ∨ (t.kind = 4 ∧ t.num = 0 ∧ isNameM t.text = true ∧ tokS t = ⟨#[46]⟩ ++ t.text) ∨
    (t.kind = 5 ∧ t.num = 0 ∧ isNameM t.text = true ∧ tokS t = ⟨#[36]⟩ ++ t.text) ∨ (t.kind = 6 ∧ t.num = 0 ∧ t.text ∈ marksT ∧ tokS t = t.text) := by
  obtain ⟨⟨k0, k1⟩, hf, n0, n1⟩ := tokC_zero h
  have hS : tokS t = tokT t := if_pos h
  have hnum : t.kind ≠ 1 → t.num = 0 := fun hk => by
    unfold tokC at h
    rw [if_neg (fun h => h ⟨k0, k1⟩)] at h
    split at h
    · exact absurd h (by decide)
    · rename_i h2
      exact Decidable.byContradiction fun e => h2 (.inl ⟨hk, e⟩)
  rw [hS]
  unfold tokFit at hf
  unfold tokT
  have : t.kind = 1 ∨ t.kind = 2 ∨ t.kind = 3 ∨ t.kind = 4 ∨ t.kind = 5 ∨ t.kind = 6 := by omega
  rcases this with hk | hk | hk | hk | hk | hk
  · left
    rw [if_pos hk, decide_eq_true_eq] at hf
    rw [if_pos hk]
    refine ⟨hk, hf, n0, n1, ?_⟩
    rw [← itoaS_nat]
    congr 1
    omega
  · right; left
    rw [if_neg (by omega), if_pos hk] at hf
    rw [if_neg (by omega), if_pos hk]
    exact ⟨hk, hnum (by omega), hf, rfl⟩
  · right; right; left
    rw [if_neg (by omega), if_neg (by omega), if_neg (by omega)] at hf
    rw [if_neg (by omega), if_neg (by omega), if_neg (by omega), if_neg (by omega)]
    exact ⟨hk, hnum (by omega), hf, rfl⟩
  · right; right; right; left
    rw [if_neg (by omega), if_neg (by omega), if_neg (by omega)] at hf
    rw [if_neg (by omega), if_neg (by omega), if_pos hk]
    exact ⟨hk, hnum (by omega), hf, rfl⟩
  · right; right; right; right; left
    rw [if_neg (by omega), if_neg (by omega), if_neg (by omega)] at hf
    rw [if_neg (by omega), if_neg (by omega), if_neg (by omega), if_pos hk]
    exact ⟨hk, hnum (by omega), hf, rfl⟩
  · right; right; right; right; right
    rw [if_neg (by omega), if_neg (by omega), if_pos hk] at hf
    rw [if_neg (by omega), if_neg (by omega), if_neg (by omega), if_neg (by omega)]
    exact ⟨hk, hnum (by omega), among_in hf, rfl⟩

theorem quoted_first (s : ByteArray) : byteAt (quoted s) 0 = 34 := rfl
theorem tok_first {t : Tk} (h : tokC t = 0) : 0 < (tokS t).size ∧ blankB (byteAt (tokS t) 0) = false := by
  rcases tokS_cases h with ⟨_, _, n0, n1, e⟩ | ⟨_, _, hq, e⟩ | ⟨_, _, hn, e⟩ | ⟨_, _, hn, e⟩ | ⟨_, _, hn, e⟩ | ⟨_, _, hm, e⟩ <;> rw [e]
  · have h1 := decS_size t.num.toNat (by omega)
    exact ⟨by omega, digit_blank (decS_byte _ _ (by omega))⟩
  · refine ⟨?_, by rw [quoted_first]; rfl⟩
    rw [quoted_size]
    omega
  · obtain ⟨a, b, c, d⟩ := name_bytes hn
    exact ⟨by omega, (letter_facts c).2.1⟩
  · refine ⟨by rw [ByteArray.size_append]; show 0 < 1 + _; omega, ?_⟩
    rw [byteAt_app, if_pos (by show 0 < 1; omega)]
    rfl
  · refine ⟨by rw [ByteArray.size_append]; show 0 < 1 + _; omega, ?_⟩
    rw [byteAt_app, if_pos (by show 0 < 1; omega)]
    rfl
  · have := List.all_eq_true.1 marks_first _ hm
    simp only [Bool.and_eq_true, decide_eq_true_eq, Bool.not_eq_true'] at this
    exact ⟨by omega, this.1.1.1.1.2⟩

/-- Blanks between words: the next word's place. -/
theorem skip_here {s w : ByteArray} {p : Nat} (h : Sits s p w) (hw : 0 < w.size ∧ blankB (byteAt w 0) = false) : runOf blankB s p = p := by
  obtain ⟨hp, hb⟩ := h.first hw.1
  rw [runOf_stop]
  rintro ⟨_, b⟩
  rw [hb, hw.2] at b
  cases b

/-! ### quoted texts -/

theorem quoted_split (s : ByteArray) : ∀ (m i : Nat), s.size - i = m → i ≤ s.size → ∃ R : ByteArray, quoted s = qN s i ++ R ∧ (i = s.size → R = ⟨#[34]⟩) ∧ ∀ h : i < s.data.toList.length, if spB s.data.toList[i] = true then ∃ R', R = (⟨#[92]⟩ ++ ⟨[s.data.toList[i]].toArray⟩) ++ R' else ∃ R', R = ⟨[s.data.toList[i]].toArray⟩ ++ R'
  | 0, i, hm, hi => by
    have e : i = s.size := by omega
    subst e
    exact ⟨⟨#[34]⟩, (qN_all s).symm, fun _ => rfl, fun h => absurd h (Nat.lt_irrefl _)⟩
  | m + 1, i, hm, hi => by
    have hlt : i < s.data.toList.length := by show i < s.size; omega
    obtain ⟨R', h1, _, _⟩ := quoted_split s m (i + 1) (by omega) (by omega)
    by_cases hs : spB s.data.toList[i] = true
    · refine ⟨(⟨#[92]⟩ ++ ⟨[s.data.toList[i]].toArray⟩) ++ R', ?_, fun h => by omega, fun _ => by rw [if_pos hs]; exact ⟨R', rfl⟩⟩
      rw [h1, ← qN_sp hlt hs]
      simp only [ba_assoc]
    · refine ⟨⟨[s.data.toList[i]].toArray⟩ ++ R', ?_, fun h => by omega, fun _ => by rw [if_neg hs]; exact ⟨R', rfl⟩⟩
      rw [h1, ← qN_plain hlt (by simpa using hs)]
      simp only [ba_assoc]

/-- The bytes of a quoted text, behind the first i of it. -/
theorem quoted_at (s : ByteArray) {i : Nat} (hi : i < s.size) : (spB (s.data.toList[i]'hi) = true → byteAt (quoted s) (eN s i + 1) = 92 ∧ byteAt (quoted s) (eN s i + 2) = ((s.data.toList[i]'hi).toNat : Int) ∧ eN s (i + 1) = eN s i + 2) ∧
    (spB (s.data.toList[i]'hi) = false → byteAt (quoted s) (eN s i + 1) = ((s.data.toList[i]'hi).toNat : Int) ∧ eN s (i + 1) = eN s i + 1) := by
  have hst := eN_step (s := s) (k := i) hi
  obtain ⟨R, h1, _, h3⟩ := quoted_split s _ i rfl (by omega)
  have h3 := h3 hi
  have hq := qN_size s i
  constructor
  · intro hs
    rw [if_pos hs] at h3 hst
    obtain ⟨R', rfl⟩ := h3
    have z : ((⟨#[92]⟩ : ByteArray) ++ ⟨[s.data.toList[i]'hi].toArray⟩).size = 2 := by rw [ByteArray.size_append]; rfl
    refine ⟨?_, ?_, by omega⟩
    · rw [h1, byteAt_app, if_neg (by omega), byteAt_app, if_pos (by omega), byteAt_app, hq, Nat.sub_self, if_pos (by show 0 < 1; omega)]
      rfl
    · rw [h1, byteAt_app, if_neg (by omega), byteAt_app, if_pos (by omega), byteAt_app, hq, show eN s i + 2 - (eN s i + 1) = 1 by omega, if_neg (by show ¬ 1 < 1; omega)]
      rfl
  · intro hs
    rw [hs, if_neg (by decide)] at h3
    rw [hs, if_neg (by decide)] at hst
    obtain ⟨R', rfl⟩ := h3
    have z : (⟨[s.data.toList[i]'hi].toArray⟩ : ByteArray).size = 1 := rfl
    refine ⟨?_, by omega⟩
    rw [h1, byteAt_app, if_neg (by omega), byteAt_app, if_pos (by omega), hq, Nat.sub_self]
    rfl
theorem quoted_last (s : ByteArray) : byteAt (quoted s) (eN s s.size + 1) = 34 := by
  rw [← qN_all, byteAt_app, if_neg (by rw [qN_size]; omega), qN_size, Nat.sub_self]
  rfl

end Go.Proofs.YthaakpbdijhgiaaGreatDoor
