/-
  The text of a value; no program in sight. Conditions: none.
-/
import Derived.Test.YtfmhfdegkpbeiaaGreatDoorQCoreTextEn0
import Derived.Test.YtfmhfdegkpbeiaaGreatDoorQCoreTextPgF
set_option linter.unusedVariables false
set_option linter.unusedSimpArgs false
set_option maxRecDepth 100000
namespace Go.Proofs.YtfmhfdegkpbeiaaGreatDoor
open Go.RowKit

/-- A part of a list's or an object's text. -/
def partT (o : Bool) (key t : ByteArray) : ByteArray := if o then (quoted key ++ ⟨#[58]⟩) ++ t else t
abbrev commaS : ByteArray := ⟨#[44]⟩

mutual
def V.enc : V → ByteArray
  | .mk k n t ks kids =>
    if k = 0 then ⟨#[110, 117, 108, 108]⟩ else if k = 1 then ⟨#[102, 97, 108, 115, 101]⟩ else if k = 2 then ⟨#[116, 114, 117, 101]⟩
    else if k = 3 then itoaS n else if k = 4 then quoted t
    else if k = 5 then (⟨#[91]⟩ ++ joinS (V.encs (decide (k = 6)) ks kids) commaS) ++ ⟨#[93]⟩ else (⟨#[123]⟩ ++ joinS (V.encs (decide (k = 6)) ks kids) commaS) ++ ⟨#[125]⟩
def V.encs (o : Bool) : List ByteArray → List V → List ByteArray
  | _, [] => []
  | ks, v :: r => partT o (ks.headD noS) (V.enc v) :: V.encs o ks.tail r
end

/-- The parts' texts. -/
def V.parts (v : V) : List ByteArray := V.encs (decide (v.kind = 6)) v.keys v.kids
theorem V.enc_eq (v : V) : v.enc = if v.kind = 0 then ⟨#[110, 117, 108, 108]⟩ else if v.kind = 1 then ⟨#[102, 97, 108, 115, 101]⟩ else if v.kind = 2 then ⟨#[116, 114, 117, 101]⟩
    else if v.kind = 3 then itoaS v.num else if v.kind = 4 then quoted v.text
    else if v.kind = 5 then (⟨#[91]⟩ ++ joinS v.parts commaS) ++ ⟨#[93]⟩ else (⟨#[123]⟩ ++ joinS v.parts commaS) ++ ⟨#[125]⟩ := by
  cases v
  simp only [V.enc]
  rfl

theorem V.encs_at (o : Bool) : ∀ (l : List V) (ks : List ByteArray) (i : Nat), i < l.length → (V.encs o ks l)[i]? = some (partT o (ks.getD i noS) (l.getD i default).enc)
  | [], _, i, h => by simp at h
  | v :: r, ks, 0, h => by
    simp only [V.encs, List.getElem?_cons_zero]
    cases ks <;> rfl
  | v :: r, ks, i + 1, h => by
    simp only [V.encs, List.getElem?_cons_succ]
    rw [V.encs_at o r ks.tail i (by simpa using h)]
    cases ks <;> rfl
theorem V.encs_length (o : Bool) : ∀ (l : List V) (ks : List ByteArray), (V.encs o ks l).length = l.length
  | [], _ => by simp [V.encs]
  | v :: r, ks => by simp [V.encs, V.encs_length o r]
theorem V.parts_length (v : V) : v.parts.length = v.kids.length := V.encs_length _ _ _
theorem V.parts_take (v : V) {i : Nat} (h : i < v.kids.length) : v.parts.take (i + 1) = v.parts.take i ++ [partT (decide (v.kind = 6)) (v.keys.getD i noS) (v.kids.getD i default).enc] := by
  rw [List.take_add_one, show v.parts[i]? = _ from V.encs_at _ v.kids v.keys i h]
  rfl

/-! ### how long they are -/

theorem joinS_size (xs : List ByteArray) (sep : ByteArray) : (joinS xs sep).size ≤ (xs.map fun x => x.size + sep.size).sum := by
  show (List.toArray _).size ≤ _
  rw [List.size_toArray]
  cases xs with
  | nil => simp [Lib.join_nil]
  | cons y r =>
    simp only [List.map_cons]
    rw [Lib.join_cons, List.length_append, List.sum_cons]
    have h1 : y.data.toList.length = y.size := rfl
    have h2 : ∀ r : List ByteArray, (Lib.joinTail sep.data.toList (r.map (·.data.toList))).length ≤ (r.map fun x => x.size + sep.size).sum := by
      intro r
      induction r with
      | nil => simp [Lib.joinTail]
      | cons z r ih =>
        have hz : z.data.toList.length = z.size := rfl
        have hsp : sep.data.toList.length = sep.size := rfl
        simp only [Lib.joinTail, List.map_cons, List.flatten_cons, List.length_append, List.sum_cons] at ih ⊢
        omega
    have := h2 r
    omega

theorem partT_size (o : Bool) (key t : ByteArray) (h : okText key = true) : (partT o key t).size ≤ t.size + 123 := by
  have := quoted_small h
  have h1 : (⟨#[58]⟩ : ByteArray).size = 1 := rfl
  unfold partT
  cases o
  · simp
  · rw [if_pos rfl, ba_size, ba_size]
    omega

mutual
theorem V.enc_size : ∀ v : V, v.good → v.enc.size + 130 ≤ 300 * v.count
  | .mk k n t ks kids, h => by
    obtain ⟨g1, g2, g3, g4, g5, g6, g7, g8, g9, g10, g11⟩ := h
    have h1 := V.encs_size (decide (k = 6)) kids ks g11 g9
    have h2 := joinS_size (V.encs (decide (k = 6)) ks kids) commaS
    have h3 := quoted_small g6
    have h4 := itoaS_size n (by omega) (by omega)
    have c1 : commaS.size = 1 := rfl
    rw [c1] at h2
    simp only [V.enc, V.count]
    repeat' split
    · show 4 + 130 ≤ _; omega
    · show 5 + 130 ≤ _; omega
    · show 4 + 130 ≤ _; omega
    · omega
    · omega
    · rw [ba_size, ba_size]
      show 1 + _ + 1 + 130 ≤ _
      omega
    · rw [ba_size, ba_size]
      show 1 + _ + 1 + 130 ≤ _
      omega
theorem V.encs_size (o : Bool) : ∀ (l : List V) (ks : List ByteArray), V.goods l → (∀ key ∈ ks, okText key = true) → ((V.encs o ks l).map fun x => x.size + 1).sum ≤ 300 * V.counts l
  | [], ks, _, _ => by simp [V.encs]
  | v :: r, ks, h, hk => by
    have h1 := V.enc_size v h.1
    have h2 := V.encs_size o r ks.tail h.2 fun key hkey => hk key (List.mem_of_mem_tail hkey)
    have h3 : okText (ks.headD noS) = true := by
      cases ks with
      | nil => exact noS_ok
      | cons k r => exact hk k (List.mem_cons_self ..)
    have h4 := partT_size o (ks.headD noS) v.enc h3
    simp only [V.encs, V.counts, List.map_cons, List.sum_cons]
    omega
end

theorem sum_take_le (l : List Nat) (i : Nat) : (l.take i).sum ≤ l.sum := by
  induction l generalizing i with
  | nil => simp
  | cons x r ih =>
    cases i with
    | zero => simp
    | succ i => simp; exact ih i
theorem V.parts_size (v : V) (h : v.good) (i : Nat) : (joinS (v.parts.take i) commaS).size ≤ 300 * v.count := by
  have h1 := joinS_size (v.parts.take i) commaS
  have c1 : commaS.size = 1 := rfl
  rw [c1, List.map_take] at h1
  have h2 := sum_take_le (v.parts.map fun x => x.size + 1) i
  obtain ⟨k, n, t, ks, kids⟩ := v
  have h3 := V.encs_size (decide (k = 6)) kids ks h.2.2.2.2.2.2.2.2.2.2 h.2.2.2.2.2.2.2.2.1
  have h4 : ((V.mk k n t ks kids).parts.map fun x => x.size + 1).sum ≤ 300 * V.counts kids := h3
  have h5 : (V.mk k n t ks kids).count = V.counts kids + 1 := rfl
  omega

end Go.Proofs.YtfmhfdegkpbeiaaGreatDoor
