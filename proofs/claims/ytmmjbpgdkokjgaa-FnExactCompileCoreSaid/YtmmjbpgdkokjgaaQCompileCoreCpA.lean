/-
  CompileCore, by both; what its instructions hold. Conditions: texts of at most 2^20 bytes, values of at most 2^20 cells.
-/
import Derived.Test.YtmmjbpgdkokjgaaQCompileCoreCp9
set_option linter.unusedVariables false
set_option linter.unusedSimpArgs false
set_option maxRecDepth 100000
namespace Go.Proofs.Ytmmjbpgdkokjgaa
open Go.RowKit

def fineV (v : List Cell) : Prop := (∀ c ∈ v, c.text.size ≤ 1048576 ∧ c.key.size ≤ 1048576) ∧ v.length ≤ 1048576
def Cst.fine (s : Cst) : Prop := ∀ x ∈ s.L, x.fine
theorem Cst.fine.put {s : Cst} {op arg : Int} (h : s.fine) : (s.put op arg).fine := fun x hx => by
  rcases List.mem_append.1 hx with h1 | h1
  · exact h x h1
  · rw [List.mem_singleton.1 h1]
    exact ⟨fun c hc => (by cases hc), Nat.zero_le _⟩
theorem Cst.fine.val {s : Cst} {op : Int} {v : List Cell} (hv : fineV v) (h : s.fine) : (s.val op v).fine := fun x hx => by
  rcases List.mem_append.1 hx with h1 | h1
  · exact h x h1
  · rw [List.mem_singleton.1 h1]
    exact hv
theorem Cst.fine.here {s : Cst} {i : Nat} (h : s.fine) : (s.here i).fine := fun x hx => by
  rcases List.mem_or_eq_of_mem_set hx with h1 | h1
  · exact h x h1
  · subst h1
    by_cases hi : i < s.L.length
    · have q := h _ (getD_mem' hi)
      exact q
    · rw [List.getD_eq_getElem?_getD, List.getElem?_eq_none (by omega)]
      exact ⟨fun c hc => (by cases hc), Nat.zero_le _⟩
theorem Cst.fine.reg {s : Cst} (h : s.fine) : s.reg.fine := h
theorem leaf_fine (k : Int) : fineV [⟨k, 0, noS, noS, 0⟩] := ⟨fun c hc => by rw [List.mem_singleton.1 hc]; exact ⟨Nat.zero_le _, Nat.zero_le _⟩, by show 1 ≤ 1048576; decide⟩

theorem cNode_fine {go : Int → List Int → Cst → Cst} (hg : ∀ j regs s, s.fine → (go j regs s).fine) (n : Co) (hn : n.fine) (regs : List Int) (s : Cst) (hs : s.fine) : (cNode go n regs s).fine := by
  have hv : fineV n.val := hn
  unfold cNode
  by_cases e2 : n.op = 2
  · rw [if_pos e2]
    exact (Cst.fine.val hv (Cst.fine.put hs))
  rw [if_neg e2]
  by_cases e17 : n.op = 17
  · rw [if_pos e17]
    exact (Cst.fine.put hs)
  rw [if_neg e17]
  by_cases e15 : n.op = 15
  · rw [if_pos e15]
    exact (Cst.fine.put (Cst.fine.put hs))
  rw [if_neg e15]
  by_cases e16 : n.op = 16
  · rw [if_pos e16]
    exact (Cst.fine.put hs)
  rw [if_neg e16]
  by_cases e3 : n.op = 3
  · rw [if_pos e3]
    exact (hg _ _ _ (hg _ _ _ hs))
  rw [if_neg e3]
  by_cases e4 : n.op = 4
  · rw [if_pos e4]
    unfold cComma cComma2
    exact (Cst.fine.here (hg _ _ _ (Cst.fine.here (Cst.fine.put (hg _ _ _ (Cst.fine.put hs))))))
  rw [if_neg e4]
  by_cases e6 : n.op = 6
  · rw [if_pos e6]
    unfold cBoth
    exact (Cst.fine.put (hg _ _ _ (Cst.fine.put (hg _ _ _ (Cst.fine.put hs)))))
  rw [if_neg e6]
  by_cases e7 : n.op = 7
  · rw [if_pos e7]
    unfold cBoth
    exact (Cst.fine.put (hg _ _ _ (Cst.fine.put (hg _ _ _ (Cst.fine.put hs)))))
  rw [if_neg e7]
  by_cases e11 : n.op = 11
  · rw [if_pos e11]
    unfold cBoth
    exact (Cst.fine.val hv (hg _ _ _ (Cst.fine.put (hg _ _ _ (Cst.fine.put hs)))))
  rw [if_neg e11]
  by_cases e8 : n.op = 8
  · rw [if_pos e8]
    exact (Cst.fine.put (hg _ _ _ hs))
  rw [if_neg e8]
  by_cases e9 : n.op = 9
  · rw [if_pos e9]
    unfold cTry
    exact (Cst.fine.here (hg _ _ _ (Cst.fine.put hs)))
  rw [if_neg e9]
  by_cases e10 : n.op = 10
  · rw [if_pos e10]
    unfold cList cList2
    exact (Cst.fine.put (Cst.fine.put (Cst.fine.here (Cst.fine.put (Cst.fine.put (hg _ _ _ (Cst.fine.put (Cst.fine.put (Cst.fine.val (leaf_fine _) (Cst.fine.reg hs))))))))))
  rw [if_neg e10]
  by_cases e12 : n.op = 12
  · rw [if_pos e12]
    unfold cChoice cChoice2 cChoice3
    exact (Cst.fine.here (hg _ _ _ (Cst.fine.here (Cst.fine.put (hg _ _ _ (Cst.fine.put (hg _ _ _ (Cst.fine.put hs))))))))
  rw [if_neg e12]
  by_cases e14 : n.op = 14
  · rw [if_pos e14]
    unfold cAs
    exact (hg _ _ _ (Cst.fine.put (hg _ _ _ (Cst.fine.put (Cst.fine.reg hs)))))
  rw [if_neg e14]
  by_cases e13 : n.op = 13
  · rw [if_pos e13]
    unfold cRed cRed2 cRed3
    exact (Cst.fine.put (Cst.fine.put (Cst.fine.here (Cst.fine.put (Cst.fine.put (hg _ _ _ (Cst.fine.put (Cst.fine.val (leaf_fine _) (Cst.fine.put (Cst.fine.put (hg _ _ _ (Cst.fine.put (Cst.fine.put (hg _ _ _ (Cst.fine.put (Cst.fine.reg (Cst.fine.reg hs)))))))))))))))))
  rw [if_neg e13]
  by_cases e5 : n.op = 5
  · rw [if_pos e5]
    unfold cAlt cAlt1 cAlt2 cAlt3 cAlt5
    exact (Cst.fine.here (hg _ _ _ (Cst.fine.here (Cst.fine.put (Cst.fine.put (Cst.fine.put (Cst.fine.here (Cst.fine.put (Cst.fine.here (Cst.fine.put (Cst.fine.put (Cst.fine.val (leaf_fine _) (Cst.fine.put (Cst.fine.put (hg _ _ _ (Cst.fine.put (Cst.fine.put (Cst.fine.val (leaf_fine _) (Cst.fine.reg hs)))))))))))))))))))
  rw [if_neg e5]
  exact hs

theorem cmpM_fine {cs : List Co} (hf : ∀ n ∈ cs, n.fine) : ∀ (f k : Nat) (regs : List Int) (s : Cst), s.fine → (cmpM cs f k regs s).fine
  | 0, k, regs, s, h => h
  | f + 1, k, regs, s, h => by
    refine cNode_fine (fun j regs s hs => cmpM_fine hf f _ regs s hs) _ ?_ _ _ h
    by_cases hk : k < cs.length
    · exact hf _ (getD_mem' hk)
    · rw [List.getD_eq_getElem?_getD, List.getElem?_eq_none (by omega)]
      exact ⟨fun c hc => (by cases hc), Nat.zero_le _⟩

theorem sumI_le (xs : List Ins) (h : ∀ n ∈ xs, n.fine) : sumI xs ≤ 1048576 * xs.length := by
  induction xs with
  | nil => simp [sumI]
  | cons a r ih =>
    have h1 := (h a (List.mem_cons_self ..)).2
    have h2 := ih fun n hn => h n (List.mem_cons_of_mem _ hn)
    simp only [sumI, List.length_cons]
    omega

theorem insL_fine (cs : List Co) (hf : fitsK cs) : (insL cs).length ≤ 6000 ∧ ∀ n ∈ insL cs, n.fine := by
  unfold insL
  by_cases h : insC cs = 0
  · rw [if_pos h]
    refine ⟨?_, (cmpM_fine hf.1 _ _ _ _ (fun x hx => by cases hx)).put⟩
    unfold insC at h
    by_cases h0 : coreM cs = 0
    · rw [if_pos h0] at h
      by_cases h1 : 6000 < (insS cs).L.length ∨ 1000 < (insS cs).many
      · rw [if_pos h1] at h; cases h
      · omega
    · rw [if_neg h0] at h; exact absurd h h0
  · rw [if_neg h]
    exact ⟨Nat.zero_le _, fun n hn => by cases hn⟩

theorem CompileCore_both (cs : List Co) (hf : fitsK cs) : ∃ (code did regs : Int) (rs : List Ins), rs.length ≤ 1048576 ∧ (∀ n ∈ rs, n.fine) ∧ sumI rs ≤ 6300000000 ∧
    Fun env.P 7 [coresD cs] (.agg [vI .i64 code, vI .i64 did, .og 0 0, vI .i64 regs]) [.x (neI (rs.map insN) (some (rs.map Ins.row))) 0] ∧ Fun env.P 5 [coresD cs] (.d (cdD code did rs regs)) [] := by
  obtain ⟨h1, h2⟩ := insL_fine cs hf
  have h3 := sumI_le _ h2
  exact ⟨insC cs, 0, insRg cs, insL cs, by omega, h2, by omega, CompileCore_fn cs hf, FunQ.fin (CompileCoreS_fn cs hf) (Fin.pubX4 rfl)⟩

end Go.Proofs.Ytmmjbpgdkokjgaa
