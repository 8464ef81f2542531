/-
  Texts of this claim in one. Conditions: none.
-/
import Derived.Test.YthaakpbdijhgiaaGreatDoorQTokensOn8
import Derived.Test.YthaakpbdijhgiaaGreatDoorQTokensOnA
import Derived.Test.YthaakpbdijhgiaaGreatDoorQTokensLs
import Derived.Shelf.Strings.Count
section
set_option linter.unusedVariables false
set_option linter.unusedSimpArgs false
set_option maxRecDepth 100000
namespace Go.Proofs.YthaakpbdijhgiaaGreatDoor
open Go.RowKit

/-- Whether a byte is a quote or a stroke. -/
def spB (c : UInt8) : Bool := decide (c = 34) || decide (c = 92)
def escC (c : UInt8) : List UInt8 := if spB c then [92, c] else [c]
def escL (l : List UInt8) : List UInt8 := l.flatMap escC
def escS (s : ByteArray) : ByteArray := ⟨(escL s.data.toList).toArray⟩
/-- How many bytes stand for the first so many. -/
def eN (s : ByteArray) (k : Nat) : Nat := (escL (s.data.toList.take k)).length

theorem escL_app (l m : List UInt8) : escL (l ++ m) = escL l ++ escL m := by unfold escL; rw [List.flatMap_append]
theorem escL_one (c : UInt8) : escL [c] = escC c := by unfold escL; simp
theorem escL_step {l : List UInt8} {k : Nat} (h : k < l.length) : escL (l.take (k + 1)) = escL (l.take k) ++ escC l[k] := by
  rw [List.take_succ_eq_append_getElem h, escL_app, escL_one]
theorem escC_len (c : UInt8) : (escC c).length = 1 + (if spB c then 1 else 0) := by
  unfold escC
  split <;> rfl
theorem eN_step {s : ByteArray} {k : Nat} (h : k < s.data.toList.length) : eN s (k + 1) = eN s k + 1 + (if spB s.data.toList[k] then 1 else 0) := by
  unfold eN
  rw [escL_step h, List.length_append, escC_len]
  omega
theorem eN_zero (s : ByteArray) : eN s 0 = 0 := by simp [eN, escL]
theorem eN_ge (s : ByteArray) : ∀ k, k ≤ s.size → k ≤ eN s k ∧ eN s k ≤ 2 * k
  | 0, _ => by rw [eN_zero]; omega
  | k + 1, h => by
    have ih := eN_ge s k (by omega)
    rw [eN_step (s := s) (k := k) h]
    split <;> omega
theorem eN_mono (s : ByteArray) {k : Nat} : ∀ j, k ≤ j → j ≤ s.size → eN s k + (j - k) ≤ eN s j := by
  intro j hkj hj
  induction j with
  | zero => have : k = 0 := by omega
            subst this; omega
  | succ j ih =>
    by_cases e : k = j + 1
    · subst e; omega
    · have := ih (by omega) (by omega)
      rw [eN_step (s := s) (k := j) hj]
      omega
theorem eN_all (s : ByteArray) : eN s s.size = (escL s.data.toList).length := by
  unfold eN
  rw [show s.data.toList.take s.size = s.data.toList from List.take_length]
theorem escL_plain : ∀ (l : List UInt8), (escL l).length = l.length → escL l = l
  | [], _ => rfl
  | c :: r, h => by
    have e : escL (c :: r) = escC c ++ escL r := by unfold escL; rw [List.flatMap_cons]
    have hl : r.length ≤ (escL r).length := by
      clear h e
      induction r with
      | nil => simp [escL]
      | cons d r ih =>
        have e : escL (d :: r) = escC d ++ escL r := by unfold escL; rw [List.flatMap_cons]
        rw [e, List.length_append, escC_len]
        simp only [List.length_cons]
        omega
    rw [e, List.length_append, escC_len] at h
    rw [e]
    simp only [List.length_cons] at h
    by_cases hs : spB c = true
    · rw [if_pos hs] at h; omega
    · rw [if_neg hs] at h
      have hc : escC c = [c] := by unfold escC; rw [if_neg hs]
      rw [hc, escL_plain r (by omega)]
      rfl
theorem escL_count (l : List UInt8) : (escL l).length = l.length + l.count 92 + l.count 34 := by
  induction l with
  | nil => rfl
  | cons c r ih =>
    have e : escL (c :: r) = escC c ++ escL r := by unfold escL; rw [List.flatMap_cons]
    rw [e, List.length_append, escC_len, ih, List.count_cons, List.count_cons, List.length_cons]
    unfold spB
    by_cases h1 : c = 34
    · subst h1; simp; omega
    · by_cases h2 : c = 92
      · subst h2; simp; omega
      · simp [h1, h2]; omega

theorem entersB {P : Program} {f : FuncId} {fn : Func} {c : Code} (hf : P.funcs[f]? = some fn) (hb : fn.body = some c) (hname : (fn.name == "runtime.NumGoroutine") = false) (vals : Array Value) (w : World) :
    (callFunc f vals).run P w = .ok (.enter f vals) w := entersO hf hb hname vals w

theorem Count_fn (s : ByteArray) (c : UInt8) : Fun env.P 160 [dS s, dS ⟨#[c]⟩] (.d (dI (s.data.toList.count c : Nat))) [] := by
  refine Fun.ofRaw (entersB Tryz.func160 (c := _) rfl (by kernel_rfl)) fun w σ0 vals hσ hl hr => ?_
  match vals, hl with
  | [v0, v1], _ =>
    have h0 : v0 = .string s := by have := hr 0 _ v0 rfl rfl; cases this; rfl
    have h1 : v1 = .string ⟨#[c]⟩ := by have := hr 1 _ v1 rfl rfl; cases this; rfl
    subst h0; subst h1
    refine (Any.strings_Count_one lays138 s c w).mono fun e w' ⟨he, hw⟩ => ?_
    subst he; subst hw
    exact ⟨_, rfl, .refl _ _, fun g => .d _ _ (.v _)⟩

end Go.Proofs.YthaakpbdijhgiaaGreatDoor
end

section
set_option linter.unusedVariables false
set_option linter.unusedSimpArgs false
set_option maxRecDepth 100000
namespace Go.Proofs.YthaakpbdijhgiaaGreatDoor
open Go.RowKit

theorem bsr_plain {c : UInt8} (h : spB c = false) : bsrR[c.toNat]? = some (.d (.nl 1)) := by
  have hlt : c.toNat < 256 := c.toNat_lt
  unfold spB at h
  simp only [Bool.or_eq_false_iff, decide_eq_false_iff_not] at h
  have h1 : ¬ 34 = c.toNat := fun e => h.1 (UInt8.toNat_inj.1 e.symm)
  have h2 : ¬ 92 = c.toNat := fun e => h.2 (UInt8.toNat_inj.1 e.symm)
  unfold bsrR
  rw [List.getElem?_append_left (by simp; exact hlt), List.getElem?_set_ne h2, List.getElem?_set_ne h1, List.getElem?_replicate, if_pos hlt]
theorem bsr_sp {c : UInt8} (h : spB c = true) : bsrR[c.toNat]? = some (.d (.sl 1 (bytesOf ⟨#[92, c]⟩))) := by
  unfold spB at h
  simp only [Bool.or_eq_true, decide_eq_true_eq] at h
  rcases h with rfl | rfl
  · rfl
  · rfl

/-- Bytes as rows. -/
def byR (l : List UInt8) : List (List D) := l.map fun c => [D.v (.int .u8 (c.toNat : Int))]
theorem byR_app (l m : List UInt8) : byR (l ++ m) = byR l ++ byR m := by simp [byR]
theorem byR_len (l : List UInt8) : (byR l).length = l.length := by simp [byR]
theorem fill {α : Type} (A B : List α) (z : α) (m : Nat) (h : B.length ≤ m) : setAll (A ++ List.replicate m z) A.length B = A ++ B ++ List.replicate (m - B.length) z := by
  rw [← setAll_splice B (A ++ List.replicate m z) A.length (by simp; omega)]
  rw [List.take_left, List.drop_append]
  simp

abbrev obR : List Ob := [.pv (replR 1 0 (.ifc tBSR (.lp 1 0)) (.d (.nl 1))), .pv bsrR]

theorem byte_at {s : ByteArray} {i : Nat} (h : i < s.data.toList.length) : byteAt s i = ((s.data.toList[i]).toNat : Int) := by
  unfold byteAt
  rw [List.getD_eq_getElem?_getD, List.getElem?_eq_getElem h, Option.getD_some]

theorem strB_go (l : List UInt8) : ∀ r : ByteArray, (l.map fun c => (c.toNat : Int)).foldl (fun r n => r.push (UInt8.ofNat n.toNat)) r = ⟨(r.data.toList ++ l).toArray⟩ := by
  induction l with
  | nil => intro r; cases r; simp
  | cons c l ih =>
    intro r
    rw [List.map_cons, List.foldl_cons, ih]
    cases r
    simp [ByteArray.push]
theorem strB_bytes (l : List UInt8) : strB (l.map fun c => (c.toNat : Int)) = ⟨l.toArray⟩ := by
  unfold strB
  rw [strB_go]
  rfl
theorem byR_rows (l : List UInt8) : byR l = (l.map fun c => (c.toNat : Int)).map byteRow := by
  unfold byR
  rw [List.map_map]
  rfl

end Go.Proofs.YthaakpbdijhgiaaGreatDoor
end
