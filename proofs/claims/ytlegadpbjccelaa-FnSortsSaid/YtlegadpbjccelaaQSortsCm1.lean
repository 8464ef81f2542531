/-
  The order of values, in plain words, and that it is one: no program in sight. Conditions: none.
-/
import Derived.Test.YtlegadpbjccelaaQSortsP2
set_option linter.unusedVariables false
set_option linter.unusedSimpArgs false
set_option maxRecDepth 100000
namespace Go.Proofs.Ytlegadpbjccelaa
open Go.RowKit

def orI (p q : Int) : Int := if p = 0 then q else p
def cmpI (a b : Int) : Int := if a < b then -1 else if b < a then 1 else 0
def cmpS (a b : ByteArray) : Int := if lessK a b = true then -1 else if lessK b a = true then 1 else 0
def cmpKs : List ByteArray → List ByteArray → Int
  | [], [] => 0
  | [], _ :: _ => -1
  | _ :: _, [] => 1
  | a :: r, b :: s => orI (cmpS a b) (cmpKs r s)

mutual
def V.cmp : V → V → Int
  | .mk k n t ks kids, w => orI (cmpI k w.kind) (orI (cmpI n w.num) (orI (cmpS t w.text) (orI (cmpKs ks w.keys) (V.cmps kids w.kids))))
def V.cmps : List V → List V → Int
  | [], [] => 0
  | [], _ :: _ => -1
  | _ :: _, [] => 1
  | a :: r, b :: s => orI (V.cmp a b) (V.cmps r s)
end

theorem V.cmp_eq (v w : V) : V.cmp v w = orI (cmpI v.kind w.kind) (orI (cmpI v.num w.num) (orI (cmpS v.text w.text) (orI (cmpKs v.keys w.keys) (V.cmps v.kids w.kids)))) := by
  cases v; rfl

/-! ### bytes -/

theorem bytes_ext {a b : ByteArray} (h : a.data.toList = b.data.toList) : a = b := by
  cases a; cases b
  simp only [ByteArray.mk.injEq]
  exact Array.toList_inj.1 h

theorem cmpS_zero {a b : ByteArray} : cmpS a b = 0 ↔ a = b := by
  unfold cmpS lessK
  constructor
  · intro h
    split at h
    · cases h
    · split at h
      · cases h
      · rename_i h1 h2
        exact bytes_ext (less_tri _ _ (by simpa using h1) (by simpa using h2))
  · rintro rfl
    rw [less_irrefl]; rfl

/-! ### an order's laws, for three results -/

/-- Of a and b, of b and c, of a and c. -/
def P3 (x y z : Int) : Prop := x ≤ 0 → y ≤ 0 → z ≤ 0 ∧ (x < 0 ∨ y < 0 → z < 0)

theorem P3.or {x y z x' y' z' : Int} (h : P3 x y z) (h' : P3 x' y' z') : P3 (orI x x') (orI y y') (orI z z') := by
  intro h1 h2
  have hx : x ≤ 0 ∧ (x = 0 → x' ≤ 0) := by unfold orI at h1; split at h1 <;> omega
  have hy : y ≤ 0 ∧ (y = 0 → y' ≤ 0) := by unfold orI at h2; split at h2 <;> omega
  obtain ⟨h3, h4⟩ := h hx.1 hy.1
  unfold orI at *
  by_cases e3 : z = 0
  · have e1 : x = 0 := by omega
    have e2 : y = 0 := by omega
    obtain ⟨h5, h6⟩ := h' (hx.2 e1) (hy.2 e2)
    rw [if_pos e1, if_pos e2, if_pos e3]
    exact ⟨h5, h6⟩
  · rw [if_neg e3]
    exact ⟨h3, fun _ => by omega⟩

theorem orI_neg (p q : Int) : orI (-p) (-q) = - orI p q := by unfold orI; (repeat' split) <;> omega

theorem cmpI_neg (a b : Int) : cmpI b a = - cmpI a b := by unfold cmpI; (repeat' split) <;> omega
theorem cmpI_tr (a b c : Int) : P3 (cmpI a b) (cmpI b c) (cmpI a c) := by
  unfold P3 cmpI
  repeat' split
  all_goals omega

theorem cmpS_neg (a b : ByteArray) : cmpS b a = - cmpS a b := by
  unfold cmpS
  by_cases h1 : lessK a b = true <;> by_cases h2 : lessK b a = true
  · have := less_trans _ _ _ h1 h2
    rw [less_irrefl] at this; cases this
  · simp [h1, h2]
  · simp [h1, h2]
  · simp [h1, h2]

theorem cmpS_lt {a b : ByteArray} : cmpS a b < 0 ↔ lessK a b = true := by
  unfold cmpS
  split
  · simp [*]
  · split <;> simp [*]

theorem cmpS_tr (a b c : ByteArray) : P3 (cmpS a b) (cmpS b c) (cmpS a c) := by
  intro h1 h2
  by_cases e1 : cmpS a b = 0
  · have := cmpS_zero.1 e1
    subst this
    exact ⟨h2, fun h => by rcases h with h | h <;> omega⟩
  · by_cases e2 : cmpS b c = 0
    · have := cmpS_zero.1 e2
      subst this
      exact ⟨h1, fun h => by rcases h with h | h <;> omega⟩
    · have : cmpS a c < 0 := cmpS_lt.2 (less_trans _ _ _ (cmpS_lt.1 (show cmpS a b < 0 by omega)) (cmpS_lt.1 (show cmpS b c < 0 by omega)))
      exact ⟨by omega, fun _ => this⟩

theorem cmpKs_neg : ∀ a b : List ByteArray, cmpKs b a = - cmpKs a b
  | [], [] => rfl
  | [], _ :: _ => rfl
  | _ :: _, [] => rfl
  | a :: r, b :: s => by rw [cmpKs, cmpKs, cmpKs_neg r s, cmpS_neg a b, orI_neg]

theorem cmpKs_tr : ∀ a b c : List ByteArray, P3 (cmpKs a b) (cmpKs b c) (cmpKs a c)
  | [], [], [] => by simp [P3, cmpKs]
  | [], [], _ :: _ => by simp [P3, cmpKs]
  | [], _ :: _, [] => by simp [P3, cmpKs]
  | [], _ :: _, _ :: _ => by simp [P3, cmpKs]
  | _ :: _, [], [] => by simp [P3, cmpKs]
  | _ :: _, [], _ :: _ => by simp [P3, cmpKs]
  | _ :: _, _ :: _, [] => by simp [P3, cmpKs]
  | a :: r, b :: s, c :: t => (cmpS_tr a b c).or (cmpKs_tr r s t)

mutual
theorem V.cmp_neg : ∀ a b : V, V.cmp b a = - V.cmp a b
  | .mk k n t ks kids, .mk k' n' t' ks' kids' => by
    have h := V.cmps_neg kids kids'
    simp only [V.cmp, V.kind, V.num, V.text, V.keys, V.kids]
    rw [h, cmpI_neg k k', cmpI_neg n n', cmpS_neg t t', cmpKs_neg ks ks', orI_neg, orI_neg, orI_neg, orI_neg]
theorem V.cmps_neg : ∀ a b : List V, V.cmps b a = - V.cmps a b
  | [], [] => rfl
  | [], _ :: _ => by simp [V.cmps]
  | _ :: _, [] => by simp [V.cmps]
  | a :: r, b :: s => by rw [V.cmps, V.cmps, V.cmps_neg r s, V.cmp_neg a b, orI_neg]
end

mutual
theorem V.cmp_tr : ∀ a b c : V, P3 (V.cmp a b) (V.cmp b c) (V.cmp a c)
  | .mk k n t ks kids, .mk k' n' t' ks' kids', .mk k2 n2 t2 ks2 kids2 => by
    have h := V.cmps_tr kids kids' kids2
    simp only [V.cmp, V.kind, V.num, V.text, V.keys, V.kids]
    exact (cmpI_tr _ _ _).or ((cmpI_tr _ _ _).or ((cmpS_tr _ _ _).or ((cmpKs_tr _ _ _).or h)))
theorem V.cmps_tr : ∀ a b c : List V, P3 (V.cmps a b) (V.cmps b c) (V.cmps a c)
  | [], [], [] => by simp [P3, V.cmps]
  | [], [], _ :: _ => by simp [P3, V.cmps]
  | [], _ :: _, [] => by simp [P3, V.cmps]
  | [], _ :: _, _ :: _ => by simp [P3, V.cmps]
  | _ :: _, [], [] => by simp [P3, V.cmps]
  | _ :: _, [], _ :: _ => by simp [P3, V.cmps]
  | _ :: _, _ :: _, [] => by simp [P3, V.cmps]
  | a :: r, b :: s, c :: t => by
    have h1 := V.cmp_tr a b c
    have h2 := V.cmps_tr r s t
    simp only [V.cmps]
    exact h1.or h2
end

theorem V.cmp_self (v : V) : V.cmp v v = 0 := by
  have := V.cmp_neg v v
  omega

/-- Two lists from a place on. -/
theorem V.cmps_at (a b : List V) (i : Nat) (ha : i < a.length) (hb : i < b.length) : V.cmps (a.drop i) (b.drop i) = orI (V.cmp (a.getD i default) (b.getD i default)) (V.cmps (a.drop (i + 1)) (b.drop (i + 1))) := by
  rw [drop_step ha, drop_step hb, V.cmps]
theorem V.cmps_end (a b : List V) (i : Nat) (h : a.length ≤ i ∨ b.length ≤ i) (ha : i ≤ a.length) (hb : i ≤ b.length) : V.cmps (a.drop i) (b.drop i) = cmpI a.length b.length := by
  unfold cmpI
  rcases Nat.lt_trichotomy a.length b.length with h1 | h1 | h1
  · obtain rfl : i = a.length := by omega
    rw [List.drop_length, drop_step h1, V.cmps, if_pos (by omega)]
  · obtain rfl : i = a.length := by omega
    rw [List.drop_length, h1, List.drop_length, V.cmps, if_neg (by omega), if_neg (by omega)]
  · obtain rfl : i = b.length := by omega
    rw [List.drop_length, drop_step h1, V.cmps, if_neg (by omega), if_pos (by omega)]
theorem cmpKs_at (a b : List ByteArray) (i : Nat) (ha : i < a.length) (hb : i < b.length) : cmpKs (a.drop i) (b.drop i) = orI (cmpS (a.getD i default) (b.getD i default)) (cmpKs (a.drop (i + 1)) (b.drop (i + 1))) := by
  rw [drop_step ha, drop_step hb, cmpKs]
theorem cmpKs_end (a b : List ByteArray) (i : Nat) (h : a.length ≤ i ∨ b.length ≤ i) (ha : i ≤ a.length) (hb : i ≤ b.length) : cmpKs (a.drop i) (b.drop i) = cmpI a.length b.length := by
  unfold cmpI
  rcases Nat.lt_trichotomy a.length b.length with h1 | h1 | h1
  · obtain rfl : i = a.length := by omega
    rw [List.drop_length, drop_step h1, cmpKs, if_pos (by omega)]
  · obtain rfl : i = a.length := by omega
    rw [List.drop_length, h1, List.drop_length, cmpKs, if_neg (by omega), if_neg (by omega)]
  · obtain rfl : i = b.length := by omega
    rw [List.drop_length, drop_step h1, cmpKs, if_neg (by omega), if_pos (by omega)]

end Go.Proofs.Ytlegadpbjccelaa
