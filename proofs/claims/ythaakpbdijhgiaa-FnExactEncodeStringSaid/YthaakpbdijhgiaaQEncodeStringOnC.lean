/-
  What the built replacer does with a text. Conditions: texts of at most 2^20 bytes.
-/
import Derived.Test.YthaakpbdijhgiaaQEncodeStringOnB
set_option linter.unusedVariables false
set_option linter.unusedSimpArgs false
set_option maxRecDepth 100000
namespace Go.Proofs.Ythaakpbdijhgiaa
open Go.RowKit

theorem bsr_plain {c : UInt8} (h : spB c = false) : bsrR[c.toNat]? = some (.d (.nl 1)) := by
  have hlt : c.toNat < 256 := c.toNat_lt
  unfold spB at h
  simp only [Bool.or_eq_false_iff, decide_eq_false_iff_not] at h
  have h1 : ¬ 34 = c.toNat := fun e => h.1 (UInt8.toNat_inj.1 e.symm)
  have h2 : ¬ 92 = c.toNat := fun e => h.2 (UInt8.toNat_inj.1 e.symm)
  unfold bsrR
  rw [List.getElem?_append_left (by simp; exact hlt), List.getElem?_set_ne h2, List.getElem?_set_ne h1, List.getElem?_replicate, if_pos hlt]
theorem bsr_sp {c : UInt8} (h : spB c = true) : bsrR[c.toNat]? = some (.d (.sl 1 (bytesOf ⟨#[92, c]⟩))) := by
  unfold spB at h
  simp only [Bool.or_eq_true, decide_eq_true_eq] at h
  rcases h with rfl | rfl
  · rfl
  · rfl

/-- Bytes as rows. -/
def byR (l : List UInt8) : List (List D) := l.map fun c => [D.v (.int .u8 (c.toNat : Int))]
theorem byR_app (l m : List UInt8) : byR (l ++ m) = byR l ++ byR m := by simp [byR]
theorem byR_len (l : List UInt8) : (byR l).length = l.length := by simp [byR]
theorem fill {α : Type} (A B : List α) (z : α) (m : Nat) (h : B.length ≤ m) : setAll (A ++ List.replicate m z) A.length B = A ++ B ++ List.replicate (m - B.length) z := by
  rw [← setAll_splice B (A ++ List.replicate m z) A.length (by simp; omega)]
  rw [List.take_left, List.drop_append]
  simp

abbrev obR : List Ob := [.pv (replR 1 0 (.ifc tBSR (.lp 1 0)) (.d (.nl 1))), .pv bsrR]

theorem byte_at {s : ByteArray} {i : Nat} (h : i < s.data.toList.length) : byteAt s i = ((s.data.toList[i]).toNat : Int) := by
  unfold byteAt
  rw [List.getD_eq_getElem?_getD, List.getElem?_eq_getElem h, Option.getD_some]

theorem strB_go (l : List UInt8) : ∀ r : ByteArray, (l.map fun c => (c.toNat : Int)).foldl (fun r n => r.push (UInt8.ofNat n.toNat)) r = ⟨(r.data.toList ++ l).toArray⟩ := by
  induction l with
  | nil => intro r; cases r; simp
  | cons c l ih =>
    intro r
    rw [List.map_cons, List.foldl_cons, ih]
    cases r
    simp [ByteArray.push]
theorem strB_bytes (l : List UInt8) : strB (l.map fun c => (c.toNat : Int)) = ⟨l.toArray⟩ := by
  unfold strB
  rw [strB_go]
  rfl
theorem byR_rows (l : List UInt8) : byR l = (l.map fun c => (c.toNat : Int)).map byteRow := by
  unfold byR
  rw [List.map_map]
  rfl

end Go.Proofs.Ythaakpbdijhgiaa
