/-
  A member that is set is got: plain words. Conditions: none.
-/
import Derived.Test.YtlegadpbjccelaaQMembersSk2
import Derived.Test.YtlegadpbjccelaaQMembersSk3
import Derived.Test.YtlegadpbjccelaaQMembersMb1
import Derived.Test.YtlegadpbjccelaaQMembersW1
set_option linter.unusedVariables false
set_option linter.unusedSimpArgs false
set_option maxRecDepth 100000
namespace Go.Proofs.Ytlegadpbjccelaa
open Go.RowKit

def findM (ks : List ByteArray) (xs : List V) (k : ByteArray) : Option V := if hasK ks k = true then some (xs.getD (posK k ks) default) else none

theorem memV_find (v : V) (k : ByteArray) : memV v k = (findM v.keys v.kids k).getD V.zero := by
  unfold memV findM
  split <;> rfl

theorem find_obj (keys : List ByteArray) (vals : List V) (i : Nat) (k : ByteArray) : findM (objK keys i) (objX keys vals i) k = lastM keys vals i k := by
  unfold findM
  by_cases h : hasK (objK keys i) k = true
  · rw [if_pos h]
    obtain ⟨h1, h2⟩ := hasK_lt h
    have := obj_at keys vals h1
    rw [h2] at this
    rw [this]
  · rw [if_neg h]
    cases e : lastM keys vals i k with
    | none => rfl
    | some v =>
      have hm := (objK_mem keys vals i k).2 (by rw [e]; rfl)
      obtain ⟨j, hj, hjk⟩ := List.getElem_of_mem hm
      exact absurd (hasK_at (objK_incr' keys i) hj (by simp [hj, hjk])).2 h

theorem lastM_find {ks : List ByteArray} {xs : List V} (hi : incr ks) (hl : ks.length = xs.length) (k : ByteArray) : lastM ks xs ks.length k = findM ks xs k := by
  obtain ⟨e1, e2⟩ := objK_incr hi xs hl ks.length (Nat.le_refl _)
  rw [List.take_length] at e1
  rw [List.take_of_length_le (by omega)] at e2
  have := find_obj ks xs ks.length k
  rw [e1, e2] at this
  exact this.symm

theorem lastM_app (ks : List ByteArray) (xs : List V) (key : ByteArray) (x : V) (hl : ks.length = xs.length) (k : ByteArray) : ∀ i, i ≤ ks.length → lastM (ks ++ [key]) (xs ++ [x]) i k = lastM ks xs i k
  | 0, _ => rfl
  | i + 1, hi => by
    rw [lastM, lastM, lastM_app ks xs key x hl k i (by omega)]
    have e1 : (ks ++ [key]).getD i default = ks.getD i default := by simp [List.getElem?_append_left (show i < ks.length by omega)]
    have e2 : (xs ++ [x]).getD i default = xs.getD i default := by simp [List.getElem?_append_left (show i < xs.length by omega)]
    rw [e1, e2]

/-- What a value reads at a key behind a key is set. -/
theorem memV_with {v x : V} {key : ByteArray} (hi : incr v.keys) (hl : v.keys.length = v.kids.length) (k : ByteArray) : memV (withV v key x) k = if k = key then x else memV v k := by
  rw [memV_find, memV_find]
  show (findM (objK (v.keys ++ [key]) (v.keys ++ [key]).length) (objX (v.keys ++ [key]) (v.kids ++ [x]) (v.keys ++ [key]).length) k).getD V.zero = _
  rw [find_obj, List.length_append, List.length_singleton, lastM, lastM_app _ _ _ _ hl _ _ (Nat.le_refl _), lastM_find hi hl]
  have e1 : (v.keys ++ [key]).getD v.keys.length default = key := by simp
  have e2 : (v.kids ++ [x]).getD v.keys.length default = x := by simp [hl]
  rw [e1, e2]
  split <;> rfl

theorem memV_drop (v : V) (key : ByteArray) : memV (objV (dropKs key v.keys) (dropVs key v.keys v.kids)) key = V.zero := by
  unfold memV
  have h : hasK (objV (dropKs key v.keys) (dropVs key v.keys v.kids)).keys key = false := hasK_none fun p hp e => by
    have hm : (dropKs key v.keys).getD p default ∈ dropKs key v.keys := getD_mem' hp
    have := (List.mem_filter.1 hm).2
    simp only [Bool.not_eq_true', decide_eq_false_iff_not] at this
    exact this e
  rw [if_neg (by rw [h]; simp)]

theorem keys_ok {v : V} (h : v.fine) (hv : v.kind = 0 ∨ v.kind = 6) : incr v.keys ∧ v.keys.length = v.kids.length := by
  obtain ⟨k, n, t, ks, kids⟩ := v
  rcases hv with hv | hv
  · have e1 : k = 0 := hv
    have e2 : ks = [] := h.1.2.2.2.2.2.2.2.1 (by omega)
    have e3 : kids = [] := Classical.byContradiction fun hne => by have := h.1.2.2.2.1 hne; omega
    subst e2 e3
    exact ⟨trivial, rfl⟩
  · exact ⟨(V.obj_keys h.1 hv).2, (V.obj_keys h.1 hv).1⟩

theorem keyO2_mem {v : V} (h : v.fine) (hv : v.kind = 0 ∨ v.kind = 6) {k : ByteArray} (hk : okText k = true) : keyO2 v k = (0, memV v k) := by
  unfold keyO2 keyO
  rw [if_pos hk]
  rcases hv with hv | hv
  · rw [if_pos hv]
    obtain ⟨k', n, t, ks, kids⟩ := v
    have e2 : ks = [] := h.1.2.2.2.2.2.2.2.1 (by have : k' = 0 := hv; omega)
    subst e2
    rfl
  · rw [if_neg (by omega), if_neg (by omega)]

theorem mem_fine {v : V} (h : v.fine) (hv : v.kind = 0 ∨ v.kind = 6) {k : ByteArray} (hk : okText k = true) : (memV v k).fine := by
  have := keyO2_fine (key := k) h
  rw [keyO2_mem h hv hk] at this
  exact this

theorem fine_fits {v : V} (h : v.fine) : fitsC v.cells := ⟨fun c hc => V.cells_sizes v h.1 noS okText_no c hc, by rw [show v.cells.length = v.count from V.cellsK_length v noS]; have := h.2.1; omega⟩

theorem getM_fn {v : V} (h : v.fine) (hv : v.kind = 0 ∨ v.kind = 6) {k : ByteArray} (hk : okText k = true) (hs : k.size ≤ 1048576) : Fun env.P 77 [cellsD v.cells, dS k] (.d (resD 0 (memV v k).cells)) [] := by
  have h1 := GetKey_fn v.cells (fine_fits h) k hs
  unfold oneCode oneCells at h1
  rw [V.fine_val h] at h1
  simp only [keyO2_mem h hv hk, if_true, outC] at h1
  exact FunQ.pubA rfl h1

theorem getBad_fn {v : V} (h : v.fine) {k : ByteArray} (hk : ¬ okText k = true) (hs : k.size ≤ 1048576) : Fun env.P 77 [cellsD v.cells, dS k] (.d (resD 5 [])) [] := by
  have h1 := GetKey_fn v.cells (fine_fits h) k hs
  unfold oneCode oneCells keyO2 at h1
  rw [V.fine_val h, if_neg hk] at h1
  exact FunQ.pubA rfl h1

theorem dropM_fn {v : V} (h : v.fine) (hv : v.kind = 6) {k : ByteArray} (hk : okText k = true) (hs : k.size ≤ 1048576) : Fun env.P 78 [cellsD v.cells, dS k] (.d (resD 0 (objV (dropKs k v.keys) (dropVs k v.keys v.kids)).cells)) [] := by
  have h1 := DropKey_fn v.cells (fine_fits h) k hs
  have e : dropO2 v k = (0, objV (dropKs k v.keys) (dropVs k v.keys v.kids)) := by unfold dropO2 dropO; rw [if_pos hk, if_neg (by omega), if_neg (by omega)]
  unfold oneCode oneCells at h1
  rw [V.fine_val h] at h1
  simp only [e, if_true, outC] at h1
  exact FunQ.pubA rfl h1

theorem sameM_fn {v : V} (h : v.fine) : Fun env.P 23 [cellsD v.cells, cellsD v.cells] (.d (dB true)) [] := by
  have h1 := SameValues_fn v.cells v.cells (fine_fits h) (fine_fits h)
  have e : decide ((valOfM v.cells).2 = 0 ∧ (valOfM v.cells).2 = 0 ∧ cmpRes v.cells v.cells = 0) = true := by
    rw [cmpRes_of (by rw [V.fine_val h]) (by rw [V.fine_val h]), V.cmp_self, V.fine_val h]; simp
  rw [e] at h1
  exact h1

theorem faultM_fn {v : V} (h : v.fine) : Fun env.P 21 [cellsD v.cells] (.d (dI 0)) [] := by
  have h1 := ValueFault_fn v.cells (fine_fits h).1 (fine_fits h).2
  rw [V.fine_val h] at h1
  exact h1

end Go.Proofs.Ytlegadpbjccelaa
