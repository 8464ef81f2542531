/-
  The parts of a right value in its cells, in plain words: where they begin and end, their keys, their cells; no program in sight. Conditions: none.
-/
import Derived.Test.YtlegadpbjccelaaQSortsP1
set_option linter.unusedVariables false
set_option linter.unusedSimpArgs false
namespace Go.Proofs.Ytlegadpbjccelaa
open Go.RowKit

theorem V.kidsC_split : ∀ (l : List V) (ks : List ByteArray) (j : Nat), j < l.length →
    V.kidsC l ks = V.kidsC (l.take j) ks ++ ((l.getD j default).cellsK (ks.getD j noS) ++ V.kidsC (l.drop (j + 1)) (ks.drop (j + 1)))
  | [], _, j, h => by simp at h
  | v :: r, ks, 0, _ => by cases ks <;> simp [V.kidsC]
  | v :: r, ks, j + 1, h => by
    have := V.kidsC_split r ks.tail j (by simpa using h)
    simp only [V.kidsC, List.take_succ_cons, List.getD_cons_succ, List.drop_succ_cons, this, List.append_assoc]
    cases ks <;> simp

theorem V.counts_cons (l : List V) (j : Nat) (h : j < l.length) : V.counts (l.take (j + 1)) = V.counts (l.take j) + (l.getD j default).count := by
  induction l generalizing j with
  | nil => simp at h
  | cons x r ih =>
    cases j with
    | zero => simp [V.counts]
    | succ j =>
      have := ih j (by simpa using h)
      simp only [List.take_succ_cons, V.counts, List.getD_cons_succ]
      omega

/-- Where part j of a value at k begins. -/
def V.at (v : V) (k j : Nat) : Nat := k + 1 + V.counts (v.kids.take j)

theorem V.at_zero (v : V) (k : Nat) : v.at k 0 = k + 1 := by simp [V.at, V.counts]
theorem V.at_succ (v : V) (k j : Nat) (h : j < v.kids.length) : v.at k (j + 1) = v.at k j + (v.kids.getD j default).count := by
  simp only [V.at, V.counts_cons _ _ h]; omega

/-- The cells from one place up to another. -/
def cut (cs : List Cell) (a b : Nat) : List Cell := (cs.drop a).take (b - a)

theorem valA_split {cs : List Cell} (hc : ∀ i, i < cs.length → cellCode (cs.getD i default) = 0) {k : Nat} {v : V} {b : Nat} (h : valA cs k = some (v, b)) :
    v.good ∧ b = k + v.count ∧ b ≤ cs.length ∧ cs = cs.take k ++ (v.cellsK (cs.getD k default).key ++ cs.drop b) := by
  obtain ⟨h1, h2, h3, h4⟩ := valAtM_cells hc _ _ _ _ h
  refine ⟨h4, ?_, h2, ?_⟩
  · have := congrArg List.length h3
    simp only [List.length_append, List.length_drop, V.cellsK_length] at this
    omega
  · rw [← h3, List.take_append_drop]

theorem valA_head {cs : List Cell} (hc : ∀ i, i < cs.length → cellCode (cs.getD i default) = 0) {k : Nat} {v : V} {b : Nat} (h : valA cs k = some (v, b)) :
    (cs.getD k default).kind = v.kind ∧ (cs.getD k default).num = v.num ∧ (cs.getD k default).text = v.text ∧ (cs.getD k default).n = (v.kids.length : Int) := by
  obtain ⟨h1, h2, h3, h4⟩ := valA_split hc h
  have hl := valA_le h
  have hk : (cs.take k).length = k := by rw [List.length_take]; omega
  obtain ⟨vk, vn, vt, vks, vkids⟩ := v
  generalize hkey : (cs.getD k default).key = key at h4
  have hcell : cs.getD (cs.take k).length default = ⟨vk, vn, vt, key, (vkids.length : Int)⟩ := getD_at (l := V.kidsC vkids vks ++ cs.drop b) h4
  rw [hk] at hcell
  rw [hcell]
  exact ⟨rfl, rfl, rfl, rfl⟩

/-- Part j of the value at k: it begins where it should, ends where the next begins, has its key. -/
theorem kid_at {cs : List Cell} (hc : ∀ i, i < cs.length → cellCode (cs.getD i default) = 0) {k : Nat} {v : V} {b : Nat} (h : valA cs k = some (v, b)) {j : Nat} (hj : j < v.kids.length) :
    valA cs (v.at k j) = some (v.kids.getD j default, v.at k (j + 1)) ∧ (cs.getD (v.at k j) default).key = v.keys.getD j noS ∧
      cut cs (v.at k j) (v.at k (j + 1)) = (v.kids.getD j default).cellsK (v.keys.getD j noS) ∧ v.at k (j + 1) ≤ b := by
  obtain ⟨h1, h2, h3, h4⟩ := valA_split hc h
  have hl := valA_le h
  have hk : (cs.take k).length = k := by rw [List.length_take]; omega
  have hs := V.at_succ v k j hj
  rw [hs]
  obtain ⟨vk, vn, vt, vks, vkids⟩ := v
  simp only [V.kids] at hj hs ⊢
  simp only [V.keys]
  have hg : (vkids.getD j default).good := V.goods_mem h1.2.2.2.2.2.2.2.2.2.2 _ (getD_mem' hj)
  have hsp := V.kidsC_split vkids vks j hj
  generalize hkey : (cs.getD k default).key = key at h4
  have hcs : cs = (cs.take k ++ ⟨vk, vn, vt, key, (vkids.length : Int)⟩ :: V.kidsC (vkids.take j) vks) ++ (vkids.getD j default).cellsK (vks.getD j noS) ++ (V.kidsC (vkids.drop (j + 1)) (vks.drop (j + 1)) ++ cs.drop b) := by
    conv => lhs; rw [h4]
    simp only [V.cellsK, hsp, List.append_assoc, List.cons_append]
  have hpl : (cs.take k ++ ⟨vk, vn, vt, key, (vkids.length : Int)⟩ :: V.kidsC (vkids.take j) vks).length = V.at (.mk vk vn vt vks vkids) k j := by
    simp only [List.length_append, List.length_cons, V.kidsC_length, V.at, V.kids]
    omega
  have hr := V.read_at _ hg _ _ _ hcs
  rw [hpl] at hr
  refine ⟨hr, ?_, ?_, ?_⟩
  · obtain ⟨c0, r0, e0, k0, _⟩ := V.cellsK_key (vkids.getD j default) (vks.getD j noS)
    rw [e0] at hcs
    rw [← hpl, getD_at (c := c0) (l := r0 ++ (V.kidsC (vkids.drop (j + 1)) (vks.drop (j + 1)) ++ cs.drop b)) (by rw [List.append_assoc, List.cons_append] at hcs; exact hcs)]
    exact k0
  · have hd : cs.drop (V.at (.mk vk vn vt vks vkids) k j) = (vkids.getD j default).cellsK (vks.getD j noS) ++ (V.kidsC (vkids.drop (j + 1)) (vks.drop (j + 1)) ++ cs.drop b) := by
      rw [← hpl]
      generalize cs.take k ++ ⟨vk, vn, vt, key, (vkids.length : Int)⟩ :: V.kidsC (vkids.take j) vks = pre at hcs
      generalize (vkids.getD j default).cellsK (vks.getD j noS) = mid at hcs ⊢
      generalize V.kidsC (vkids.drop (j + 1)) (vks.drop (j + 1)) ++ cs.drop b = post at hcs ⊢
      rw [hcs, List.append_assoc, List.drop_left]
    rw [cut, hd, Nat.add_sub_cancel_left, List.take_append_of_le_length (by rw [V.cellsK_length]; exact Nat.le_refl _), List.take_of_length_le (by rw [V.cellsK_length]; exact Nat.le_refl _)]
  · have := V.counts_cons vkids j hj
    have h6 : V.counts (vkids.take (j + 1)) ≤ V.counts vkids := by
      have : ∀ (l : List V) (j : Nat), V.counts (l.take j) ≤ V.counts l := by
        intro l
        induction l with
        | nil => intro j; simp
        | cons x r ih => intro j; cases j <;> simp [V.counts, List.take]; have := ih ‹_›; omega
      exact this vkids (j + 1)
    simp only [V.count] at h2
    simp only [V.at, V.kids]
    omega

/-- A right value's own cells. -/
theorem V.valA_cells (v : V) (hg : v.good) : valA v.cells 0 = some (v, v.count) := by
  have hr := V.read_at (cs := v.cells) v hg noS [] [] (by rw [List.nil_append, List.append_nil]; rfl)
  simpa using hr

end Go.Proofs.Ytlegadpbjccelaa
