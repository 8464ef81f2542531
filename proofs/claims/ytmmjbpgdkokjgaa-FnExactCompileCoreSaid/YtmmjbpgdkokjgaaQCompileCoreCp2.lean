/-
  How many instructions and registers a core becomes; what is known of its nodes; no program in sight. Conditions: none.
-/
import Derived.Test.YtmmjbpgdkokjgaaQCompileCoreCp1
set_option linter.unusedVariables false
set_option linter.unusedSimpArgs false
set_option maxRecDepth 100000
namespace Go.Proofs.Ytmmjbpgdkokjgaa
open Go.RowKit

/-- s2 comes behind s, with at most c more instructions and r more registers. -/
def Cst.near (s s2 : Cst) (c r : Nat) : Prop := s.L.length ≤ s2.L.length ∧ s2.L.length ≤ s.L.length + c ∧ s.many ≤ s2.many ∧ s2.many ≤ s.many + r

section
variable {s0 s : Cst} {c r : Nat}
theorem Cst.near.refl (s : Cst) : s.near s 0 0 := ⟨Nat.le_refl _, Nat.le_refl _, Int.le_refl _, by omega⟩
theorem Cst.near.mono {c' r' : Nat} (h : s0.near s c r) (hc : c ≤ c') (hr : r ≤ r') : s0.near s c' r' := ⟨h.1, by have := h.2.1; omega, h.2.2.1, by have := h.2.2.2; omega⟩
theorem Cst.near.put {op arg : Int} (h : s0.near s c r) : s0.near (s.put op arg) (c + 1) r := by
  obtain ⟨h1, h2, h3, h4⟩ := h
  refine ⟨?_, ?_, h3, h4⟩ <;> rw [Cst.put_len] <;> omega
theorem Cst.near.val {op : Int} {v : List Cell} (h : s0.near s c r) : s0.near (s.val op v) (c + 1) r := by
  obtain ⟨h1, h2, h3, h4⟩ := h
  refine ⟨?_, ?_, h3, h4⟩ <;> rw [Cst.val_len] <;> omega
theorem Cst.near.here {i : Nat} (h : s0.near s c r) : s0.near (s.here i) c r := by
  obtain ⟨h1, h2, h3, h4⟩ := h
  refine ⟨?_, ?_, h3, h4⟩ <;> rw [Cst.here_len] <;> omega
theorem Cst.near.reg (h : s0.near s c r) : s0.near s.reg c (r + 1) := by
  obtain ⟨h1, h2, h3, h4⟩ := h
  refine ⟨h1, h2, ?_, ?_⟩ <;> rw [Cst.reg_many] <;> omega
theorem Cst.near.go {go : Int → List Int → Cst → Cst} {j : Int} {regs : List Int} {c' r' : Nat} (hg : ∀ (regs : List Int) (s : Cst), s.near (go j regs s) c' r') (h : s0.near s c r) : s0.near (go j regs s) (c + c') (r + r') := by
  obtain ⟨h1, h2, h3, h4⟩ := h
  obtain ⟨g1, g2, g3, g4⟩ := hg regs s
  exact ⟨by omega, by omega, by omega, by omega⟩
end

theorem cNode_near (go : Int → List Int → Cst → Cst) (n : Co) (regs : List Int) (s : Cst) (ca cb cc : Nat) (ha : 1 ≤ arC n.op → ∀ (regs : List Int) (s : Cst), s.near (go n.a regs s) (20 * ca) (2 * ca)) (hb : 2 ≤ arC n.op → ∀ (regs : List Int) (s : Cst), s.near (go n.b regs s) (20 * cb) (2 * cb))
    (hc : 3 ≤ arC n.op → ∀ (regs : List Int) (s : Cst), s.near (go n.c regs s) (20 * cc) (2 * cc)) (C : Nat) (hC : C = (if 1 ≤ arC n.op then ca else 0) + (if 2 ≤ arC n.op then cb else 0) + (if 3 ≤ arC n.op then cc else 0) + 1) :
    s.near (cNode go n regs s) (20 * C) (2 * C) := by
  unfold cNode
  have k1 : n.op = 8 ∨ n.op = 9 ∨ n.op = 10 → arC n.op = 1 := by rintro (h | h | h) <;> rw [h] <;> rfl
  have k2 : n.op = 3 ∨ n.op = 4 ∨ n.op = 5 ∨ n.op = 6 ∨ n.op = 7 ∨ n.op = 11 ∨ n.op = 14 → arC n.op = 2 := by rintro (h | h | h | h | h | h | h) <;> rw [h] <;> rfl
  have k3 : n.op = 12 ∨ n.op = 13 → arC n.op = 3 := by rintro (h | h) <;> rw [h] <;> rfl
  have z0 : C ≥ 1 := by omega
  have go1 : arC n.op = 1 → C = ca + 1 ∧ ∀ (regs : List Int) (s : Cst), s.near (go n.a regs s) (20 * ca) (2 * ca) := fun h => by rw [h] at hC ha; exact ⟨by simpa using hC, ha (by omega)⟩
  have go2 : arC n.op = 2 → C = ca + cb + 1 ∧ (∀ (regs : List Int) (s : Cst), s.near (go n.a regs s) (20 * ca) (2 * ca)) ∧ (∀ (regs : List Int) (s : Cst), s.near (go n.b regs s) (20 * cb) (2 * cb)) := fun h => by rw [h] at hC ha hb; exact ⟨by simpa using hC, ha (by omega), hb (by omega)⟩
  have go3 : arC n.op = 3 → C = ca + cb + cc + 1 ∧ (∀ (regs : List Int) (s : Cst), s.near (go n.a regs s) (20 * ca) (2 * ca)) ∧ (∀ (regs : List Int) (s : Cst), s.near (go n.b regs s) (20 * cb) (2 * cb)) ∧ (∀ (regs : List Int) (s : Cst), s.near (go n.c regs s) (20 * cc) (2 * cc)) := fun h => by rw [h] at hC ha hb hc; exact ⟨by simpa using hC, ha (by omega), hb (by omega), hc (by omega)⟩
  clear ha hb hc hC
  by_cases e2 : n.op = 2
  · rw [if_pos e2]
    clear go1 go2 go3 k1 k2 k3
    refine Cst.near.mono (Cst.near.val (.put (.refl _))) ?_ ?_ <;> omega
  rw [if_neg e2]
  by_cases e17 : n.op = 17
  · rw [if_pos e17]
    clear go1 go2 go3 k1 k2 k3
    refine Cst.near.mono (Cst.near.put (.refl _)) ?_ ?_ <;> omega
  rw [if_neg e17]
  by_cases e15 : n.op = 15
  · rw [if_pos e15]
    clear go1 go2 go3 k1 k2 k3
    refine Cst.near.mono (Cst.near.put (.put (.refl _))) ?_ ?_ <;> omega
  rw [if_neg e15]
  by_cases e16 : n.op = 16
  · rw [if_pos e16]
    clear go1 go2 go3 k1 k2 k3
    refine Cst.near.mono (Cst.near.put (.refl _)) ?_ ?_ <;> omega
  rw [if_neg e16]
  by_cases e3 : n.op = 3
  · rw [if_pos e3]
    obtain ⟨hC, ha, hb⟩ := go2 (k2 (by simp [e3]))
    clear go1 go2 go3 k1 k2 k3
    refine Cst.near.mono (Cst.near.go hb (.go ha (.refl _))) ?_ ?_ <;> omega
  rw [if_neg e3]
  by_cases e4 : n.op = 4
  · rw [if_pos e4]
    obtain ⟨hC, ha, hb⟩ := go2 (k2 (by simp [e4]))
    clear go1 go2 go3 k1 k2 k3
    unfold cComma cComma2
    refine Cst.near.mono (Cst.near.here (.go hb (.here (.put (.go ha (.put (.refl _))))))) ?_ ?_ <;> omega
  rw [if_neg e4]
  by_cases e6 : n.op = 6
  · rw [if_pos e6]
    obtain ⟨hC, ha, hb⟩ := go2 (k2 (by simp [e6]))
    clear go1 go2 go3 k1 k2 k3
    unfold cBoth
    refine Cst.near.mono (Cst.near.put (.go ha (.put (.go hb (.put (.refl _)))))) ?_ ?_ <;> omega
  rw [if_neg e6]
  by_cases e7 : n.op = 7
  · rw [if_pos e7]
    obtain ⟨hC, ha, hb⟩ := go2 (k2 (by simp [e7]))
    clear go1 go2 go3 k1 k2 k3
    unfold cBoth
    refine Cst.near.mono (Cst.near.put (.go hb (.put (.go ha (.put (.refl _)))))) ?_ ?_ <;> omega
  rw [if_neg e7]
  by_cases e11 : n.op = 11
  · rw [if_pos e11]
    obtain ⟨hC, ha, hb⟩ := go2 (k2 (by simp [e11]))
    clear go1 go2 go3 k1 k2 k3
    unfold cBoth
    refine Cst.near.mono (Cst.near.val (.go hb (.put (.go ha (.put (.refl _)))))) ?_ ?_ <;> omega
  rw [if_neg e11]
  by_cases e8 : n.op = 8
  · rw [if_pos e8]
    obtain ⟨hC, ha⟩ := go1 (k1 (by simp [e8]))
    clear go1 go2 go3 k1 k2 k3
    refine Cst.near.mono (Cst.near.put (.go ha (.refl _))) ?_ ?_ <;> omega
  rw [if_neg e8]
  by_cases e9 : n.op = 9
  · rw [if_pos e9]
    obtain ⟨hC, ha⟩ := go1 (k1 (by simp [e9]))
    clear go1 go2 go3 k1 k2 k3
    unfold cTry
    refine Cst.near.mono (Cst.near.here (.go ha (.put (.refl _)))) ?_ ?_ <;> omega
  rw [if_neg e9]
  by_cases e10 : n.op = 10
  · rw [if_pos e10]
    obtain ⟨hC, ha⟩ := go1 (k1 (by simp [e10]))
    clear go1 go2 go3 k1 k2 k3
    unfold cList cList2
    refine Cst.near.mono (Cst.near.put (.put (.here (.put (.put (.go ha (.put (.put (.val (.reg (.refl _))))))))))) ?_ ?_ <;> omega
  rw [if_neg e10]
  by_cases e12 : n.op = 12
  · rw [if_pos e12]
    obtain ⟨hC, ha, hb, hc⟩ := go3 (k3 (by simp [e12]))
    clear go1 go2 go3 k1 k2 k3
    unfold cChoice cChoice2 cChoice3
    refine Cst.near.mono (Cst.near.here (.go hc (.here (.put (.go hb (.put (.go ha (.put (.refl _))))))))) ?_ ?_ <;> omega
  rw [if_neg e12]
  by_cases e14 : n.op = 14
  · rw [if_pos e14]
    obtain ⟨hC, ha, hb⟩ := go2 (k2 (by simp [e14]))
    clear go1 go2 go3 k1 k2 k3
    unfold cAs
    refine Cst.near.mono (Cst.near.go hb (.put (.go ha (.put (.reg (.refl _)))))) ?_ ?_ <;> omega
  rw [if_neg e14]
  by_cases e13 : n.op = 13
  · rw [if_pos e13]
    obtain ⟨hC, ha, hb, hc⟩ := go3 (k3 (by simp [e13]))
    clear go1 go2 go3 k1 k2 k3
    unfold cRed cRed2 cRed3
    refine Cst.near.mono (Cst.near.put (.put (.here (.put (.put (.go hc (.put (.val (.put (.put (.go ha (.put (.put (.go hb (.put (.reg (.reg (.refl _)))))))))))))))))) ?_ ?_ <;> omega
  rw [if_neg e13]
  by_cases e5 : n.op = 5
  · rw [if_pos e5]
    obtain ⟨hC, ha, hb⟩ := go2 (k2 (by simp [e5]))
    clear go1 go2 go3 k1 k2 k3
    unfold cAlt cAlt1 cAlt2 cAlt3 cAlt5
    refine Cst.near.mono (Cst.near.here (.go hb (.here (.put (.put (.put (.here (.put (.here (.put (.put (.val (.put (.put (.go ha (.put (.put (.val (.reg (.refl _)))))))))))))))))))) ?_ ?_ <;> omega
  rw [if_neg e5]
  refine Cst.near.mono (Cst.near.refl _) ?_ ?_ <;> omega

/-! ### what is known of a node of a core without fault -/

def cntK (cs : List Co) (k : Nat) : Nat := (full (nmC cs) k).length

structure CoK (cs : List Co) (k : Nat) : Prop where
  op : 1 ≤ (cs.getD k default).op ∧ (cs.getD k default).op ≤ 17
  a : 1 ≤ arC (cs.getD k default).op → 0 ≤ (cs.getD k default).a ∧ (cs.getD k default).a < k
  b : 2 ≤ arC (cs.getD k default).op → 0 ≤ (cs.getD k default).b ∧ (cs.getD k default).b < k
  c : 3 ≤ arC (cs.getD k default).op → 0 ≤ (cs.getD k default).c ∧ (cs.getD k default).c < k
  num : (cs.getD k default).op = 13 ∨ (cs.getD k default).op = 14 ∨ (cs.getD k default).op = 15 → 0 ≤ (cs.getD k default).num ∧ (cs.getD k default).num ≤ 59
  fine : (cs.getD k default).fine

theorem kidCB_bound {n : Co} {k i : Nat} (h : kidCB n k i = true) (hi : i < arC n.op) : 0 ≤ kidC n i ∧ kidC n i < k := by
  rw [kidCB, if_pos hi] at h
  simp only [Bool.and_eq_true, decide_eq_true_eq] at h
  omega

theorem coK_of {cs : List Co} {k : Nat} (h : coreC (cs.getD k default) k = 0) (hf : (cs.getD k default).fine) : CoK cs k := by
  generalize hn : cs.getD k default = n at *
  unfold coreC at h
  split at h
  · exact absurd h (by decide)
  rename_i h1
  have h1 := Classical.not_not.1 h1
  split at h
  · exact absurd h (by decide)
  rename_i h2
  split at h
  · rename_i h3
    exact absurd h h3.2
  split at h
  · exact absurd h (by decide)
  split at h
  · exact absurd h (by decide)
  rename_i h5
  have h2 : formC3 n k = true := by simpa using h2
  have h5 : numOkC n = true := by simpa using h5
  unfold formC3 at h2
  simp only [Bool.and_eq_true] at h2
  obtain ⟨⟨⟨⟨q0, q1⟩, q2⟩, _⟩, _⟩ := h2
  refine ⟨by rw [hn]; exact h1, fun h => ?_, fun h => ?_, fun h => ?_, fun h => ?_, by rw [hn]; exact hf⟩
  · rw [hn] at h ⊢; exact kidCB_bound q0 (by omega)
  · rw [hn] at h ⊢; exact kidCB_bound q1 (by omega)
  · rw [hn] at h ⊢; exact kidCB_bound q2 (by omega)
  · rw [hn] at h ⊢
    unfold numOkC at h5
    rcases h with h | h | h <;> rw [h] at h5 <;> simpa [hasNc, numLoC, numHiC] using h5

theorem kidsK {cs : List Co} {k : Nat} (h : CoK cs k) : kidsOf (nmC cs) k = ([(cs.getD k default).a.toNat, (cs.getD k default).b.toNat, (cs.getD k default).c.toNat]).take (arC (cs.getD k default).op) := by
  have ha := h.a
  have hb := h.b
  have hc := h.c
  have hle := arC_le (cs.getD k default).op
  have hk : kidsOf (nmC cs) k = (([(cs.getD k default).a, (cs.getD k default).b, (cs.getD k default).c].take (arC (cs.getD k default).op)).map Int.toNat).filter (· < k) := rfl
  rw [hk]
  generalize arC (cs.getD k default).op = r at *
  generalize cs.getD k default = n at *
  have : r = 0 ∨ r = 1 ∨ r = 2 ∨ r = 3 := by omega
  rcases this with rfl | rfl | rfl | rfl
  · simp
  · have a1 := ha (by omega)
    have b1 : n.a.toNat < k := by omega
    simp [b1]
  · have a1 := ha (by omega)
    have a2 := hb (by omega)
    have b1 : n.a.toNat < k := by omega
    have b2 : n.b.toNat < k := by omega
    simp [b1, b2]
  · have a1 := ha (by omega)
    have a2 := hb (by omega)
    have a3 := hc (by omega)
    have b1 : n.a.toNat < k := by omega
    have b2 : n.b.toNat < k := by omega
    have b3 : n.c.toNat < k := by omega
    simp [b1, b2, b3]

theorem cntK_eq {cs : List Co} {k : Nat} (h : CoK cs k) : cntK cs k = (if 1 ≤ arC (cs.getD k default).op then cntK cs (cs.getD k default).a.toNat else 0) + (if 2 ≤ arC (cs.getD k default).op then cntK cs (cs.getD k default).b.toNat else 0) + (if 3 ≤ arC (cs.getD k default).op then cntK cs (cs.getD k default).c.toNat else 0) + 1 := by
  have hle := arC_le (cs.getD k default).op
  unfold cntK
  rw [full_eq, List.length_append, List.length_singleton, kidsK h]
  generalize arC (cs.getD k default).op = r at *
  have : r = 0 ∨ r = 1 ∨ r = 2 ∨ r = 3 := by omega
  rcases this with rfl | rfl | rfl | rfl
  · simp
  · simp
  · simp
  · simp
    omega

theorem cmpM_near {cs : List Co} (hok : ∀ j, j < cs.length → CoK cs j) : ∀ (f k : Nat) (regs : List Int) (s : Cst), k < f → k < cs.length → s.near (cmpM cs f k regs s) (20 * cntK cs k) (2 * cntK cs k)
  | 0, k, regs, s, h, _ => by omega
  | f + 1, k, regs, s, h, hk => by
    have hn := hok k hk
    refine cNode_near _ _ _ _ (cntK cs (cs.getD k default).a.toNat) (cntK cs (cs.getD k default).b.toNat) (cntK cs (cs.getD k default).c.toNat) (fun h1 regs s => ?_) (fun h1 regs s => ?_) (fun h1 regs s => ?_) _ (cntK_eq hn)
    · have := hn.a h1; exact cmpM_near hok f _ regs s (by omega) (by omega)
    · have := hn.b h1; exact cmpM_near hok f _ regs s (by omega) (by omega)
    · have := hn.c h1; exact cmpM_near hok f _ regs s (by omega) (by omega)

/-- What is about each variable where a node is. -/
theorem bndK {cs : List Co} {f k : Nat} {sl : List Int} (hk : CoK cs k) (h : bndF cs (f + 1) k sl = true) : ((cs.getD k default).op = 15 → (cs.getD k default).num ∈ sl) ∧ (1 ≤ arC (cs.getD k default).op → bndF cs f (cs.getD k default).a.toNat (inC (cs.getD k default) 0 sl) = true) ∧
    (2 ≤ arC (cs.getD k default).op → bndF cs f (cs.getD k default).b.toNat (inC (cs.getD k default) 1 sl) = true) ∧ (3 ≤ arC (cs.getD k default).op → bndF cs f (cs.getD k default).c.toNat (inC (cs.getD k default) 2 sl) = true) := by
  unfold bndF at h
  rw [kidsK hk] at h
  simp only [Bool.and_eq_true] at h
  obtain ⟨h1, h2⟩ := h
  have hle := arC_le (cs.getD k default).op
  refine ⟨fun e => by
    rw [e] at h1
    simpa [hasI] using h1, ?_⟩
  clear h1
  generalize arC (cs.getD k default).op = r at *
  have : r = 0 ∨ r = 1 ∨ r = 2 ∨ r = 3 := by omega
  rcases this with rfl | rfl | rfl | rfl
  · exact ⟨fun h => by omega, fun h => by omega, fun h => by omega⟩
  · simp [allK] at h2
    exact ⟨fun _ => h2, fun h => by omega, fun h => by omega⟩
  · simp [allK] at h2
    exact ⟨fun _ => h2.1, fun _ => h2.2, fun h => by omega⟩
  · simp [allK] at h2
    exact ⟨fun _ => h2.1, fun _ => h2.2.1, fun _ => h2.2.2⟩

theorem coK_all {cs : List Co} (ht : ∀ n ∈ cs, n.fine) (hc : coreM cs = 0) : 1 ≤ cs.length ∧ cs.length ≤ 900 ∧ (∀ k, k < cs.length → CoK cs k) ∧ bndF cs cs.length (cs.length - 1) [] = true ∧ cntK cs (cs.length - 1) = cs.length := by
  unfold coreM at hc
  split at hc
  · exact absurd hc (by decide)
  rename_i h1
  have h1 := Classical.not_not.1 h1
  split at hc
  · rename_i h2; exact absurd hc h2
  rename_i h2
  have h2 := Classical.not_not.1 h2
  split at hc
  · exact absurd hc (by decide)
  rename_i h3
  have h3 := begM_zero.1 (Classical.not_not.1 h3)
  split at hc
  · exact absurd hc (by decide)
  rename_i h4
  refine ⟨h1.1, h1.2, fun k hk => coK_of (firstK_zero h2 k (by omega) (by omega)) (ht _ (getD_mem' hk)), by simpa using h4, ?_⟩
  unfold cntK
  rw [h3, List.length_range]
  omega

end Go.Proofs.Ytmmjbpgdkokjgaa
