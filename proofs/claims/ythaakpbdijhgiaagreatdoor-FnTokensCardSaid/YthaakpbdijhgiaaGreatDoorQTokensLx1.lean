/-
  Words that stand in a text with a blank between; what decimal numbers are as words; no program in sight. Conditions: none.
-/
import Derived.Test.YthaakpbdijhgiaaGreatDoorQTokensTk3
import Derived.Test.YthaakpbdijhgiaaGreatDoorQTokensDn1
set_option linter.unusedVariables false
set_option linter.unusedSimpArgs false
set_option maxRecDepth 100000
namespace Go.Proofs.YthaakpbdijhgiaaGreatDoor
open Go.RowKit

/-- A word stands at a place of a text, and nothing or a blank behind it. -/
structure Sits (s : ByteArray) (p : Nat) (w : ByteArray) : Prop where
  fits : p + w.size ≤ s.size
  at_ : ∀ j, j < w.size → byteAt s (p + j) = byteAt w j
  stop : p + w.size = s.size ∨ (p + w.size < s.size ∧ byteAt s (p + w.size) = 32)

theorem byteAt_app (a b : ByteArray) (i : Nat) : byteAt (a ++ b) i = if i < a.size then byteAt a i else byteAt b (i - a.size) := by
  unfold byteAt
  rw [ba_app]
  have h : a.data.toList.length = a.size := rfl
  split
  · rw [List.getD_eq_getElem?_getD, List.getD_eq_getElem?_getD, List.getElem?_append_left (by omega)]
  · rw [List.getD_eq_getElem?_getD, List.getD_eq_getElem?_getD, List.getElem?_append_right (by omega), h]

theorem Sits.whole (w : ByteArray) : Sits w 0 w := ⟨by omega, fun j _ => by rw [Nat.zero_add], .inl (by omega)⟩
theorem Sits.front (w J : ByteArray) : Sits (w ++ (⟨#[32]⟩ ++ J)) 0 w := by
  have h : (w ++ (⟨#[32]⟩ ++ J)).size = w.size + (1 + J.size) := by rw [ByteArray.size_append, ByteArray.size_append]; rfl
  refine ⟨by omega, fun j hj => ?_, .inr ⟨by omega, ?_⟩⟩
  · rw [Nat.zero_add, byteAt_app, if_pos hj]
  · rw [Nat.zero_add, byteAt_app, if_neg (by omega), byteAt_app, if_pos (by show w.size - w.size < 1; omega), Nat.sub_self]
    rfl
theorem Sits.shift {J v : ByteArray} {p : Nat} (a : ByteArray) (h : Sits J p v) : Sits (a ++ J) (a.size + p) v := by
  have hs : (a ++ J).size = a.size + J.size := ByteArray.size_append ..
  obtain ⟨h1, h2, h3⟩ := h
  have hb : ∀ i, byteAt (a ++ J) (a.size + i) = byteAt J i := fun i => by
    rw [byteAt_app, if_neg (by omega), Nat.add_sub_cancel_left]
  refine ⟨by omega, fun j hj => ?_, ?_⟩
  · rw [Nat.add_assoc, hb]
    exact h2 j hj
  · rcases h3 with h3 | ⟨h3, h4⟩
    · exact .inl (by omega)
    · exact .inr ⟨by omega, by rw [Nat.add_assoc, hb]; exact h4⟩

/-- Where the word i begins. -/
def offW : List ByteArray → Nat → Nat
  | _, 0 => 0
  | [], _ + 1 => 0
  | w :: r, i + 1 => w.size + 1 + offW r i

theorem offW_step : ∀ (ws : List ByteArray) (i : Nat), i < ws.length → offW ws (i + 1) = offW ws i + (ws.getD i default).size + 1
  | [], i, h => by simp at h
  | w :: r, 0, _ => by simp [offW]
  | w :: r, i + 1, h => by
    have := offW_step r i (by simpa using h)
    simp only [offW, List.getD_cons_succ]
    rw [this]
    omega
theorem joinW_cons (w x : ByteArray) (r : List ByteArray) : joinS (w :: x :: r) spS = w ++ (⟨#[32]⟩ ++ joinS (x :: r) spS) := by
  apply ba_eq
  rw [ba_app, ba_app]
  unfold joinS
  simp only [List.map_cons]
  rw [Lib.join_cons, Lib.join_cons]
  simp [Lib.joinTail]
theorem sits_join : ∀ (ws : List ByteArray) (i : Nat), i < ws.length → Sits (joinS ws spS) (offW ws i) (ws.getD i default)
  | [], i, h => by simp at h
  | [w], i, h => by
    have : i = 0 := by simpa using h
    subst this
    rw [joinS_one]
    exact Sits.whole w
  | w :: x :: r, 0, _ => by
    rw [joinW_cons]
    exact Sits.front w _
  | w :: x :: r, i + 1, h => by
    have h1 := (sits_join (x :: r) i (by simpa using h)).shift (w ++ ⟨#[32]⟩)
    rw [joinW_cons, ← ba_assoc]
    have h2 : (w ++ ⟨#[32]⟩).size = w.size + 1 := by rw [ByteArray.size_append]; rfl
    rw [h2] at h1
    exact h1
theorem join_size : ∀ (ws : List ByteArray), ws ≠ [] → (joinS ws spS).size + 1 = offW ws ws.length
  | [], h => absurd rfl h
  | [w], _ => by rw [joinS_one]; simp [offW]
  | w :: x :: r, _ => by
    have h1 := join_size (x :: r) (by simp)
    have h2 : (w ++ (⟨#[32]⟩ ++ joinS (x :: r) spS)).size = w.size + (1 + (joinS (x :: r) spS).size) := by rw [ByteArray.size_append, ByteArray.size_append]; rfl
    rw [joinW_cons, h2]
    simp only [List.length_cons, offW] at h1 ⊢
    omega

theorem extract_of {s w : ByteArray} {p : Nat} (h1 : p + w.size ≤ s.size) (h2 : ∀ j, j < w.size → byteAt s (p + j) = byteAt w j) : s.extract p (p + w.size) = w := by
  apply ba_eq
  rw [ByteArray.data_extract, Array.toList_extract]
  have hl : s.data.toList.length = s.size := rfl
  have hw : w.data.toList.length = w.size := rfl
  apply List.ext_getElem
  · simp only [List.extract_eq_take_drop, List.length_take, List.length_drop, hl, hw]
    omega
  · intro j q1 q2
    have hj : j < w.size := by rw [← hw]; exact q2
    have := h2 j hj
    unfold byteAt at this
    rw [List.getD_eq_getElem?_getD, List.getElem?_eq_getElem (by rw [hl]; omega), List.getD_eq_getElem?_getD, List.getElem?_eq_getElem q2] at this
    simp only [List.extract_eq_take_drop, List.getElem_take, List.getElem_drop]
    exact UInt8.toNat_inj.1 (Int.ofNat.inj this)

theorem Sits.extract {s w : ByteArray} {p : Nat} (h : Sits s p w) : s.extract p (p + w.size) = w := extract_of h.fits h.at_

theorem byteAt_extract {s : ByteArray} {a b j : Nat} (h : a + j < b) (hb : b ≤ s.size) : byteAt (s.extract a b) j = byteAt s (a + j) := by
  have hl : s.data.toList.length = s.size := rfl
  unfold byteAt
  rw [ByteArray.data_extract, Array.toList_extract]
  simp only [List.extract_eq_take_drop]
  rw [List.getD_eq_getElem?_getD, List.getElem?_take, if_pos (by omega), List.getElem?_drop, List.getD_eq_getElem?_getD]
theorem size_extract {s : ByteArray} {a b : Nat} (hb : b ≤ s.size) : (s.extract a b).size = b - a := by
  rw [ByteArray.size_extract]
  omega
/-- A run of bytes of a kind, where a word of such bytes stands. -/
theorem Sits.run {p : Int → Bool} (h32 : p 32 = false) {s w : ByteArray} {k : Nat} (h : Sits s k w) (q : Nat) (hq : q ≤ w.size) (hp : ∀ j, q ≤ j → j < w.size → p (byteAt w j) = true) : runOf p s (k + q) = k + w.size := by
  obtain ⟨h1, h2, h3⟩ := h
  generalize hn : w.size - q = n
  induction n generalizing q with
  | zero =>
    have e : q = w.size := by omega
    subst e
    rw [runOf_stop]
    rintro ⟨a, b⟩
    rcases h3 with h3 | ⟨h3, h4⟩
    · omega
    · rw [h4, h32] at b
      cases b
  | succ n ih =>
    rw [runOf_step (by omega) (by rw [h2 q (by omega)]; exact hp q (Nat.le_refl _) (by omega))]
    exact ih (q + 1) (by omega) (fun j a b => hp j (by omega) b) (by omega)

/-! ### decimal numbers -/

theorem dd_step {n : Nat} (h : ¬ n < 10) : Lib.decDigits n = Lib.decDigits (n / 10) ++ [UInt8.ofNat (48 + n % 10)] := by rw [Lib.decDigits, dif_neg h]
theorem dg_toNat {d : Nat} (h : d < 10) : (UInt8.ofNat (48 + d)).toNat = 48 + d := by
  rw [UInt8.toNat_ofNat']
  omega
theorem dd_facts : ∀ n : Nat, (∀ c ∈ Lib.decDigits n, isDg c) ∧ digs 0 (Lib.decDigits n) = n ∧ Lib.decDigits n ≠ [] ∧ (1 ≤ n → ∀ c r, Lib.decDigits n = c :: r → c.toNat ≠ 48) := by
  intro n
  induction n using Nat.strongRecOn with
  | ind n ih =>
    by_cases h : n < 10
    · rw [Lib.decDigits_one h]
      have h1 := dg_toNat h
      refine ⟨fun c hc => ?_, ?_, by simp, fun hn c r e => ?_⟩
      · rw [List.mem_singleton] at hc
        rw [hc]
        unfold isDg
        omega
      · rw [digs_cons, digs_nil, h1]
        omega
      · injection e with e1 e2
        rw [← e1, h1]
        omega
    · obtain ⟨i1, i2, i3, i4⟩ := ih (n / 10) (by omega)
      have h1 := dg_toNat (show n % 10 < 10 by omega)
      rw [dd_step h]
      refine ⟨fun c hc => ?_, ?_, by simp, fun hn c r e => ?_⟩
      · rcases List.mem_append.1 hc with hc | hc
        · exact i1 c hc
        · rw [List.mem_singleton] at hc
          rw [hc]
          unfold isDg
          omega
      · rw [digs_app, i2, h1]
        omega
      · obtain ⟨d, t, hd⟩ : ∃ d t, Lib.decDigits (n / 10) = d :: t := by
          cases hh : Lib.decDigits (n / 10) with
          | nil => exact absurd hh i3
          | cons d t => exact ⟨d, t, rfl⟩
        rw [hd, List.cons_append] at e
        injection e with e1 e2
        rw [← e1]
        exact i4 (by omega) d t hd
theorem dd_len : ∀ (k n : Nat), n < 10 ^ (k + 1) → (Lib.decDigits n).length ≤ k + 1
  | 0, n, h => by rw [Lib.decDigits_one (by simpa using h)]; simp
  | k + 1, n, h => by
    by_cases h10 : n < 10
    · rw [Lib.decDigits_one h10]; simp
    · have := dd_len k (n / 10) (by rw [Nat.pow_succ] at h; omega)
      rw [dd_step h10, List.length_append, List.length_singleton]
      omega

theorem decS_byte (n j : Nat) (h : j < (decS n).size) : digitB (byteAt (decS n) j) = true := by
  obtain ⟨h1, _⟩ := dd_facts n
  have hl : j < (Lib.decDigits n).length := h
  have hc := h1 _ (List.getElem_mem hl)
  have hb : byteAt (decS n) j = ((Lib.decDigits n)[j].toNat : Int) := by
    unfold byteAt decS
    rw [List.getD_eq_getElem?_getD, List.getElem?_eq_getElem hl]
    rfl
  unfold digitB
  rw [hb]
  obtain ⟨a, b⟩ := hc
  simp only [Bool.and_eq_true, decide_eq_true_eq]
  omega
theorem decS_first {n : Nat} : byteAt (decS n) 0 ≠ 48 ∨ (decS n).size = 1 := by
  obtain ⟨h1, h2, h3, h4⟩ := dd_facts n
  by_cases hn : n = 0
  · right
    subst hn
    show (Lib.decDigits 0).length = 1
    rw [Lib.decDigits_one (by omega)]
    rfl
  · left
    cases hd : Lib.decDigits n with
    | nil => exact absurd hd h3
    | cons c r =>
      have := h4 (by omega) c r hd
      unfold byteAt decS
      rw [hd]
      show ((c.toNat : Nat) : Int) ≠ 48
      omega

end Go.Proofs.YthaakpbdijhgiaaGreatDoor
