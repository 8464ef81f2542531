/-
  Lists of values in order: what sorting comes to, in plain words. Conditions: none.
-/
import Derived.Test.YtlegadpbjccelaaQSortsCm1
set_option linter.unusedVariables false
set_option linter.unusedSimpArgs false
namespace Go.Proofs.Ytlegadpbjccelaa
open Go.RowKit

/-- In order. -/
def V.le (a b : V) : Prop := V.cmp a b ≤ 0
def Srt (l : List V) : Prop := l.Pairwise V.le

theorem V.le_refl (a : V) : V.le a a := by unfold V.le; rw [V.cmp_self]; exact Int.le_refl 0
theorem V.le_total {a b : V} (h : ¬ V.cmp a b < 0) : V.le b a := by
  unfold V.le
  rw [V.cmp_neg a b]
  omega
theorem V.le_of_lt {a b : V} (h : V.cmp a b < 0) : V.le a b := by unfold V.le; omega
theorem V.le_trans {a b c : V} (h : V.le a b) (k : V.le b c) : V.le a c := (V.cmp_tr a b c h k).1

theorem orI_nought {p q : Int} (h : orI p q = 0) : p = 0 ∧ q = 0 := by
  unfold orI at h
  split at h
  · exact ⟨by assumption, h⟩
  · exact absurd h (by assumption)
theorem cmpI_nought {a b : Int} (h : cmpI a b = 0) : a = b := by
  unfold cmpI at h
  (repeat' split at h) <;> omega
theorem cmpKs_nought : ∀ {a b : List ByteArray}, cmpKs a b = 0 → a = b
  | [], [], _ => rfl
  | [], _ :: _, h => by simp [cmpKs] at h
  | _ :: _, [], h => by simp [cmpKs] at h
  | a :: r, b :: s, h => by
    unfold cmpKs at h
    obtain ⟨h1, h2⟩ := orI_nought h
    rw [cmpS_zero.1 h1, cmpKs_nought h2]
mutual
theorem V.cmp_nought : ∀ {a b : V}, V.cmp a b = 0 → a = b
  | .mk k n t ks kids, .mk k' n' t' ks' kids', h => by
    simp only [V.cmp, V.kind, V.num, V.text, V.keys, V.kids] at h
    obtain ⟨h1, h⟩ := orI_nought h
    obtain ⟨h2, h⟩ := orI_nought h
    obtain ⟨h3, h⟩ := orI_nought h
    obtain ⟨h4, h⟩ := orI_nought h
    rw [cmpI_nought h1, cmpI_nought h2, cmpS_zero.1 h3, cmpKs_nought h4, V.cmps_nought h]
theorem V.cmps_nought : ∀ {a b : List V}, V.cmps a b = 0 → a = b
  | [], [], _ => rfl
  | [], _ :: _, h => by simp [V.cmps] at h
  | _ :: _, [], h => by simp [V.cmps] at h
  | a :: r, b :: s, h => by
    simp only [V.cmps] at h
    obtain ⟨h1, h2⟩ := orI_nought h
    rw [V.cmp_nought h1, V.cmps_nought h2]
end
theorem V.le_anti {a b : V} (h : V.le a b) (k : V.le b a) : a = b := by
  refine V.cmp_nought ?_
  unfold V.le at h k
  rw [V.cmp_neg a b] at k
  omega

/-- What is in order is in one order. -/
theorem Srt.uniq : ∀ {l m : List V}, l.Perm m → Srt l → Srt m → l = m
  | [], m, p, _, _ => by rw [List.nil_perm.1 p]
  | a :: l, [], p, _, _ => by have := p.length_eq; simp at this
  | a :: l, b :: m, p, h, k => by
    have h' := List.pairwise_cons.1 h
    have k' := List.pairwise_cons.1 k
    have e : a = b := by
      have h1 : V.le b a := by
        rcases List.mem_cons.1 (p.mem_iff.1 (List.mem_cons_self ..)) with e | hm
        · rw [e]; exact V.le_refl _
        · exact k'.1 a hm
      have h2 : V.le a b := by
        rcases List.mem_cons.1 (p.mem_iff.2 (List.mem_cons_self ..)) with e | hm
        · rw [e]; exact V.le_refl _
        · exact h'.1 b hm
      exact V.le_anti h2 h1
    subst e
    rw [Srt.uniq ((List.perm_cons a).1 p) h'.2 k'.2]

theorem Srt.nil : Srt [] := List.Pairwise.nil
theorem Srt.one (x : V) : Srt [x] := List.pairwise_singleton ..
theorem Srt.app {l m : List V} : Srt (l ++ m) ↔ Srt l ∧ Srt m ∧ ∀ a ∈ l, ∀ b ∈ m, V.le a b := List.pairwise_append
theorem Srt.take {l : List V} (h : Srt l) (n : Nat) : Srt (l.take n) := List.Pairwise.sublist (List.take_sublist n l) h
theorem Srt.drop {l : List V} (h : Srt l) (n : Nat) : Srt (l.drop n) := List.Pairwise.sublist (List.drop_sublist n l) h

/-- Of a list in order: what stands ahead is at most what stands behind. -/
theorem Srt.at {l : List V} (h : Srt l) {i j : Nat} {a b : V} (hij : i ≤ j) (ha : l[i]? = some a) (hb : l[j]? = some b) : V.le a b := by
  rcases Nat.lt_or_ge i j with hlt | hge
  · obtain ⟨h1, e1⟩ := List.getElem?_eq_some_iff.1 ha
    obtain ⟨h2, e2⟩ := List.getElem?_eq_some_iff.1 hb
    have := List.pairwise_iff_getElem.1 h i j h1 h2 hlt
    rwa [e1, e2] at this
  · obtain rfl : i = j := by omega
    rw [ha] at hb
    cases hb
    exact V.le_refl a

/-- One that goes between. -/
theorem Srt.ins {l m : List V} {x : V} (h : Srt (l ++ m)) (hl : ∀ a ∈ l, V.le a x) (hm : ∀ b ∈ m, V.le x b) : Srt (l ++ x :: m) := by
  obtain ⟨h1, h2, h3⟩ := Srt.app.1 h
  refine Srt.app.2 ⟨h1, List.pairwise_cons.2 ⟨hm, h2⟩, fun a ha b hb => ?_⟩
  rcases List.mem_cons.1 hb with rfl | hb
  · exact hl a ha
  · exact h3 a ha b hb

/-- The last of a list in order is the greatest. -/
theorem Srt.last {l : List V} (h : Srt l) {x y : V} (hx : l[l.length - 1]? = some x) (hy : y ∈ l) : V.le y x := by
  obtain ⟨j, hj⟩ := List.getElem?_of_mem hy
  have := (List.getElem?_eq_some_iff.1 hj).1
  exact h.at (by omega) hj hx
theorem Srt.first {l : List V} (h : Srt l) {x y : V} (hx : l[0]? = some x) (hy : y ∈ l) : V.le x y := by
  obtain ⟨j, hj⟩ := List.getElem?_of_mem hy
  exact h.at (Nat.zero_le j) hx hj

/-! ### blocks in order -/

/-- Each block of so many is in order. -/
def Blk (bs : Nat) (l : List V) : Prop := ∀ k, Srt ((l.drop (k * bs)).take bs)

theorem Blk.of_srt {bs : Nat} {l : List V} (h : Srt l) : Blk bs l := fun k => (h.drop _).take _
theorem Blk.all {bs : Nat} {l : List V} (h : Blk bs l) (hl : l.length ≤ bs) : Srt l := by
  have := h 0
  rw [Nat.zero_mul, List.drop_zero, List.take_of_length_le hl] at this
  exact this
theorem Blk.tail {bs : Nat} {l : List V} (h : Blk bs l) (j : Nat) : Blk bs (l.drop (j * bs)) := fun k => by
  rw [List.drop_drop, ← Nat.add_mul]
  exact h (j + k)
theorem Blk.app {bs q : Nat} {l m : List V} (h : Blk bs l) (hl : l.length = q * bs) (hm : Blk bs m) : Blk bs (l ++ m) := fun k => by
  by_cases hk : k < q
  · have h1 : k * bs + bs ≤ l.length := by
      rw [hl, ← Nat.succ_mul]
      exact Nat.mul_le_mul_right _ hk
    have e1 : ((l ++ m).drop (k * bs)).take bs = (l.drop (k * bs)).take bs := by
      rw [List.drop_append_of_le_length (by omega), List.take_append_of_le_length (by simp; omega)]
    rw [e1]
    exact h k
  · have e1 : k * bs = q * bs + (k - q) * bs := by rw [← Nat.add_mul]; congr 1; omega
    have e2 : (l ++ m).drop (k * bs) = m.drop ((k - q) * bs) := by
      rw [e1, ← hl, ← List.drop_drop, List.drop_left]
    rw [e2]
    exact hm (k - q)

/-! ### merging: what turning about a middle comes to -/

/-- Two lists in order, cut so that what is ahead is at most what is behind. -/
theorem merge_cut {X1 X2 Y1 Y2 Z W : List V} (hX : Srt (X1 ++ X2)) (hY : Srt (Y1 ++ Y2)) (h1 : X1 = [] ∨ Y2 = [] ∨ ∃ x y, X1[X1.length - 1]? = some x ∧ Y2[0]? = some y ∧ V.le x y)
    (h2 : Y1 = [] ∨ X2 = [] ∨ ∃ y x, Y1[Y1.length - 1]? = some y ∧ X2[0]? = some x ∧ V.le y x) (hZ : (X1 ++ Y1).Perm Z) (hW : (X2 ++ Y2).Perm W) (sZ : Srt Z) (sW : Srt W) : (X1 ++ X2 ++ (Y1 ++ Y2)).Perm (Z ++ W) ∧ Srt (Z ++ W) := by
  obtain ⟨x1, x2, x3⟩ := Srt.app.1 hX
  obtain ⟨y1, y2, y3⟩ := Srt.app.1 hY
  constructor
  · refine List.Perm.trans ?_ (List.Perm.append hZ hW)
    have : (X2 ++ (Y1 ++ Y2)).Perm (Y1 ++ (X2 ++ Y2)) := by
      rw [← List.append_assoc, ← List.append_assoc]
      exact List.Perm.append_right _ List.perm_append_comm
    rw [List.append_assoc, List.append_assoc]
    exact List.Perm.append_left _ this
  · refine Srt.app.2 ⟨sZ, sW, fun a ha b hb => ?_⟩
    rcases List.mem_append.1 (hZ.mem_iff.2 ha) with ha | ha <;> rcases List.mem_append.1 (hW.mem_iff.2 hb) with hb | hb
    · exact x3 a ha b hb
    · rcases h1 with h | h | ⟨x, y, hx, hy, hxy⟩
      · rw [h] at ha; cases ha
      · rw [h] at hb; cases hb
      · exact V.le_trans (x1.last hx ha) (V.le_trans hxy (y2.first hy hb))
    · rcases h2 with h | h | ⟨y, x, hy, hx, hyx⟩
      · rw [h] at ha; cases ha
      · rw [h] at hb; cases hb
      · exact V.le_trans (y1.last hy ha) (V.le_trans hyx (x2.first hx hb))
    · exact y3 a ha b hb

end Go.Proofs.Ytlegadpbjccelaa
