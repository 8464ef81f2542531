/-
  Texts of this claim in one. Conditions: none.
-/
import Derived.Test.YthaakpbdijhgiaaGreatDoorQTokensTb2
import Derived.Test.YthaakpbdijhgiaaGreatDoorQTokensTk1
import Derived.Shelf.Strings.OnBuilder
import Derived.Test.YthaakpbdijhgiaaGreatDoorQTokensEn1
section
set_option linter.unusedVariables false
set_option linter.unusedSimpArgs false
set_option maxRecDepth 100000
namespace Go.Proofs.YthaakpbdijhgiaaGreatDoor
open Go.RowKit

/-- Texts, one behind the other, with a text between. -/
def joinS (xs : List ByteArray) (sep : ByteArray) : ByteArray := ⟨(Lib.join (xs.map (·.data.toList)) sep.data.toList).toArray⟩
theorem ba_app (a b : ByteArray) : (a ++ b).data.toList = a.data.toList ++ b.data.toList := by rw [ByteArray.data_append]; simp
theorem ba_eq {a b : ByteArray} (h : a.data.toList = b.data.toList) : a = b := ByteArray.ext (Array.toList_inj.1 h)
theorem joinS_nil (sep : ByteArray) : joinS [] sep = ⟨#[]⟩ := rfl
theorem joinS_one (x sep : ByteArray) : joinS [x] sep = x := by
  apply ba_eq
  simp [joinS, Lib.join_one]
theorem joinS_snoc (xs : List ByteArray) (x sep : ByteArray) (h : xs ≠ []) : joinS (xs ++ [x]) sep = joinS xs sep ++ sep ++ x := by
  apply ba_eq
  rw [ba_app, ba_app]
  unfold joinS
  cases xs with
  | nil => exact absurd rfl h
  | cons y r =>
    simp only [List.cons_append, List.map_cons, List.map_append, List.map_nil]
    rw [Lib.join_cons, Lib.join_cons]
    simp [Lib.joinTail]
theorem joinS_size_le (xs : List ByteArray) (sep : ByteArray) (B : Nat) (h : ∀ x ∈ xs, x.size ≤ B) : (joinS xs sep).size ≤ xs.length * (B + sep.size) := by
  show (List.toArray _).size ≤ _
  rw [List.size_toArray]
  cases xs with
  | nil => simp [Lib.join_nil]
  | cons y r =>
    simp only [List.map_cons]
    rw [Lib.join_cons, List.length_append, List.length_cons, Nat.add_mul, Nat.one_mul]
    have h1 : y.data.toList.length ≤ B := h y (List.mem_cons_self ..)
    have h2 : ∀ r : List ByteArray, (∀ x ∈ r, x.size ≤ B) → (Lib.joinTail sep.data.toList (r.map (·.data.toList))).length ≤ r.length * (B + sep.size) := by
      intro r
      induction r with
      | nil => intro _; simp [Lib.joinTail]
      | cons z r ih =>
        intro hr
        have := ih fun x hx => hr x (List.mem_cons_of_mem _ hx)
        have hz : z.data.toList.length ≤ B := hr z (List.mem_cons_self ..)
        have hsp : sep.data.toList.length = sep.size := rfl
        simp only [Lib.joinTail, List.map_cons, List.flatten_cons, List.length_append, List.length_cons, Nat.add_mul, Nat.one_mul] at this ⊢
        omega
    have := h2 r fun x hx => h x (List.mem_cons_of_mem _ hx)
    omega

theorem Join_fn (xs : List ByteArray) (sep : ByteArray) (hs : (joinS xs sep).size ≤ 140737488355328) (hn : xs.length ≤ 1048576) : Fun env.P 12 [.sl 1 (xs.map keyRow), dS sep] (.d (dS (joinS xs sep))) [] := by
  refine Fun.ofRaw (entersT Tryz.func12 (c := _) rfl (by kernel_rfl)) fun w σ0 vals hσ hl hr => ?_
  match vals, hl with
  | [v0, v1], _ =>
    have e1 : v1 = .string sep := by have := hr 1 _ v1 rfl rfl; cases this; rfl
    subst e1
    have h0 := hr 0 _ v0 rfl rfl
    suffices h : Calls env.P 12 #[v0, .string sep] w fun e w' => e = .returned (.string (joinS xs sep)) ∧ Below w.heap.size w w' from h.mono fun e w' ⟨he, hw⟩ => ⟨_, he, hw, fun g => .d _ _ (.v _)⟩
    generalize hrows : xs.map keyRow = rows at h0
    cases h0 with
    | nil z A =>
      obtain rfl : xs = [] := by simpa using hrows
      exact (Any.strings_Join_none lays156 lays156_X A 0 sep w).mono fun e w' ⟨he, hw⟩ => ⟨he, hw ▸ Below.refl _ _⟩
    | sl _ _ b off cap U hcap hm hz hc hrd =>
      by_cases hne : xs = []
      · subst hne
        obtain rfl : rows = [] := hrows.symm
        exact (Any.strings_Join_none lays156 lays156_X _ cap sep w).mono fun e w' ⟨he, hw⟩ => ⟨he, hw ▸ Below.refl _ _⟩
      have hlen : rows.length = xs.length := by rw [← hrows]; simp
      have hcell : ∀ (j : Nat) x, xs[j]? = some x → w.cell? ⟨b, off + j, none⟩ = some (.string x) := fun j x hx => by
        have hj : j < xs.length := (List.getElem?_eq_some_iff.1 hx).1
        obtain ⟨h1, _⟩ := hc j 0 (by omega) (by decide)
        have h2 := hrd j 0 (keyRow x) (dS x) (by rw [← hrows]; simp [hx]) rfl
        have h3 : U j 0 = .string x := by
          generalize U j 0 = u at h2
          cases h2
          rfl
        rw [h3] at h1
        have h4 := hσ _ _ _ h1
        rwa [Nat.mul_one, Nat.add_zero] at h4
      have hbk : b < w.heap.size := by
        obtain ⟨x, r, rfl⟩ : ∃ x r, xs = x :: r := by
          cases xs with
          | nil => exact absurd rfl hne
          | cons x r => exact ⟨x, r, rfl⟩
        exact World.block_lt_of_cell? w ⟨b, off + 0, none⟩ (hcell 0 x rfl)
      have := Any.strings_Join lays156 lays156_X b off cap xs sep w hcell hbk (by omega) (by omega) (by exact hs)
      rw [hlen]
      exact this

end Go.Proofs.YthaakpbdijhgiaaGreatDoor
end

section
set_option linter.unusedVariables false
set_option linter.unusedSimpArgs false
set_option maxRecDepth 100000
namespace Go.Proofs.YthaakpbdijhgiaaGreatDoor
open Go.RowKit

theorem quoted_size (s : ByteArray) : (quoted s).size = eN s s.size + 2 := by
  rw [← qN_all, ba_size, qN_size]
  rfl
theorem okText_size {s : ByteArray} (h : okText s = true) : s.size ≤ 60 := by
  unfold okText at h
  simp only [Bool.and_eq_true, decide_eq_true_eq] at h
  exact h.2
theorem quoted_small {s : ByteArray} (h : okText s = true) : (quoted s).size ≤ 122 := by
  have h1 := okText_size h
  have h2 := eN_ge s s.size (Nat.le_refl _)
  rw [quoted_size]
  omega
theorem ba_assoc (a b c : ByteArray) : (a ++ b) ++ c = a ++ (b ++ c) := ba_eq (by simp [ba_app])
theorem ba_nil (a : ByteArray) : (⟨#[]⟩ : ByteArray) ++ a = a := ba_eq (by simp [ba_app])

end Go.Proofs.YthaakpbdijhgiaaGreatDoor
end
