/-
  How many variables a core has, by the program and by the reference. Conditions: cells of at most 2^20 bytes.
-/
import Derived.Test.YtlegadpbjccelaaCoA
import Derived.Test.YtlegadpbjccelaaW2
set_option linter.unusedVariables false
set_option linter.unusedSimpArgs false
set_option maxRecDepth 100000
namespace Go.Proofs.Ytlegadpbjccelaa
open Go.RowKit

/-- A bound name: every variable below a node is known or is bound somewhere. -/
theorem bnd_in {cs : List Co} (hok : NcOK cs) : ∀ (f k : Nat) (sl : List Int), k < cs.length → bndF cs f k sl = true → k < f → ∀ j ∈ full (nmC cs) k, (cs.getD j default).op = 15 →
    (cs.getD j default).num ∈ sl ∨ ∃ n ∈ cs, (n.op = 14 ∨ n.op = 13) ∧ n.num = (cs.getD j default).num
  | 0, k, sl, hk, h, hkf, j, hj, h15 => by omega
  | f + 1, k, sl, hk, h, hkf, j, hj, h15 => by
    rw [bndF, Bool.and_eq_true] at h
    rw [full_eq, List.mem_append] at hj
    rcases hj with hj | hj
    · obtain ⟨m, hm, hjm⟩ := List.mem_flatMap.1 hj
      obtain ⟨i, hi, rfl⟩ := List.getElem_of_mem hm
      have hlt : (kidsOf (nmC cs) k)[i] < k := kidsOf_lt hm
      have hb : bndF cs f (kidsOf (nmC cs) k)[i] (inC (cs.getD k default) i sl) = true := by
        cases hq : bndF cs f (kidsOf (nmC cs) k)[i] (inC (cs.getD k default) i sl) with
        | true => rfl
        | false =>
          have := allK_false (f := fun i j => bndF cs f j (inC (cs.getD k default) i sl)) (l := kidsOf (nmC cs) k) (q := 0) (i := i) hi (by simp only [Nat.zero_add]; rw [show (kidsOf (nmC cs) k).getD i default = (kidsOf (nmC cs) k)[i] by simp [hi]]; exact hq)
          rw [this] at h
          exact absurd h.2 (by simp)
      rcases bnd_in hok f _ _ (by omega) hb (by omega) j hjm h15 with h1 | h1
      · unfold inC at h1
        split at h1
        · rename_i hc
          rcases List.mem_append.1 h1 with h2 | h2
          · exact .inl h2
          · refine .inr ⟨cs.getD k default, getD_mem' hk, ?_, (List.mem_singleton.1 h2).symm⟩
            rcases hc with hc | hc
            · exact .inl hc.1
            · exact .inr hc.1
        · exact .inl h1
      · exact .inr h1
    · have : j = k := by simpa using hj
      subst this
      have h1 := h.1
      rw [h15] at h1
      exact .inl (by simpa [hasI] using h1)

def maxK (p : Int → Bool) (cs : List Co) : Int := cs.foldl (fun x n => if p n.op = true then max x (n.num + 1) else x) 0

theorem maxK_take (p : Int → Bool) (cs : List Co) (k : Nat) (h : k < cs.length) : maxK p (cs.take (k + 1)) = if p (cs.getD k default).op = true then max (maxK p (cs.take k)) ((cs.getD k default).num + 1) else maxK p (cs.take k) := by
  rw [take_step h]
  simp [maxK]

theorem maxK_le' (p : Int → Bool) (b : Int) : ∀ (cs : List Co) (x : Int), cs.foldl (fun x n => if p n.op = true then max x (n.num + 1) else x) x ≤ b ↔ x ≤ b ∧ ∀ n ∈ cs, p n.op = true → n.num + 1 ≤ b
  | [], x => by simp
  | n :: r, x => by
    rw [List.foldl_cons, maxK_le' p b r]
    by_cases h : p n.op = true
    · rw [if_pos h]
      constructor
      · intro ⟨h1, h2⟩
        refine ⟨by omega, fun m hm hp => ?_⟩
        rcases List.mem_cons.1 hm with rfl | hm
        · omega
        · exact h2 m hm hp
      · intro ⟨h1, h2⟩
        exact ⟨by have := h2 n (List.mem_cons_self ..) h; omega, fun m hm hp => h2 m (List.mem_cons_of_mem _ hm) hp⟩
    · rw [if_neg h]
      constructor
      · intro ⟨h1, h2⟩
        refine ⟨h1, fun m hm hp => ?_⟩
        rcases List.mem_cons.1 hm with rfl | hm
        · exact absurd hp h
        · exact h2 m hm hp
      · intro ⟨h1, h2⟩
        exact ⟨h1, fun m hm hp => h2 m (List.mem_cons_of_mem _ hm) hp⟩

theorem maxK_le (p : Int → Bool) (b : Int) (cs : List Co) : maxK p cs ≤ b ↔ 0 ≤ b ∧ ∀ n ∈ cs, p n.op = true → n.num + 1 ≤ b := maxK_le' p b cs 0

def pI (op : Int) : Bool := decide (op = 13 ∨ op = 14 ∨ op = 15)
def pS (op : Int) : Bool := decide (op = 14 ∨ op = 13)

/-- What no fault says. -/
theorem coreM_ok {cs : List Co} (h : coreM cs = 0) : (1 ≤ cs.length ∧ cs.length ≤ 900) ∧ firstK (cCode cs) cs.length 0 = 0 ∧ full (nmC cs) (cs.length - 1) = List.range cs.length ∧ bndF cs cs.length (cs.length - 1) [] = true ∧ nestM (nmC cs) (cs.length - 1) ≤ 120 := by
  unfold coreM at h
  split at h
  · cases h
  rename_i h1
  have h1 := Classical.not_not.1 h1
  split at h
  · rename_i h2; exact absurd h h2
  rename_i h2
  split at h
  · cases h
  rename_i h3
  split at h
  · cases h
  rename_i h4
  split at h
  · cases h
  rename_i h5
  refine ⟨h1, Classical.not_not.1 h2, ?_, by simpa using h4, by omega⟩
  have := begM_zero.1 (Classical.not_not.1 h3)
  rw [this, show cs.length - 1 + 1 = cs.length by omega]

theorem coreC_num {n : Co} {k : Nat} (h : coreC n k = 0) : numOkC n = true := by
  unfold coreC at h
  split at h
  · cases h
  split at h
  · cases h
  split at h
  · rename_i h1; exact absurd h h1.2
  split at h
  · cases h
  split at h
  · cases h
  rename_i h1
  simpa using h1

theorem numOkC_var {n : Co} (h : numOkC n = true) (hp : pI n.op = true) : 0 ≤ n.num ∧ n.num ≤ 59 := by
  have hp' : n.op = 13 ∨ n.op = 14 ∨ n.op = 15 := by simpa [pI] using hp
  unfold numOkC numLoC numHiC hasNc at h
  rcases hp' with e | e | e <;> simpa [e] using h

theorem cores_num {cs : List Co} (h : coreM cs = 0) : ∀ n ∈ cs, pI n.op = true → 0 ≤ n.num ∧ n.num ≤ 59 := fun n hn hp => by
  obtain ⟨k, hk, rfl⟩ := List.getElem_of_mem hn
  have := coreC_num (firstK_zero (coreM_ok h).2.1 k (by omega) (by omega))
  rw [show cs.getD k default = cs[k] by simp [hk]] at this
  exact numOkC_var this hp

theorem slots_eq {cs : List Co} (h : coreM cs = 0) : maxK pI cs = maxK pS cs := by
  have hn := cores_num h
  obtain ⟨⟨h1, h2⟩, h3, h4, h5, h6⟩ := coreM_ok h
  have hok := ncOK_of h3
  apply Int.le_antisymm
  · refine (maxK_le _ _ _).2 ⟨((maxK_le pS _ cs).1 (Int.le_refl _)).1, fun n hm hp => ?_⟩
    have hle := ((maxK_le pS _ cs).1 (Int.le_refl _)).2
    by_cases hs : pS n.op = true
    · exact hle n hm hs
    · have h15 : n.op = 15 := by
        have : n.op = 13 ∨ n.op = 14 ∨ n.op = 15 := by simpa [pI] using hp
        have : ¬ (n.op = 14 ∨ n.op = 13) := by simpa [pS] using hs
        omega
      obtain ⟨k, hk, rfl⟩ := List.getElem_of_mem hm
      have hj : k ∈ full (nmC cs) (cs.length - 1) := by rw [h4]; exact List.mem_range.2 hk
      have e : cs.getD k default = cs[k] := by simp [hk]
      rcases bnd_in hok _ _ _ (by omega) h5 (by omega) k hj (by rw [e]; exact h15) with q | ⟨m, hm2, ho, he⟩
      · cases q
      · have := hle m hm2 (by simpa [pS] using ho)
        rw [e] at he
        omega
  · refine (maxK_le _ _ _).2 ⟨((maxK_le pI _ cs).1 (Int.le_refl _)).1, fun n hm hp => ((maxK_le pI _ cs).1 (Int.le_refl _)).2 n hm ?_⟩
    have : n.op = 14 ∨ n.op = 13 := by simpa [pS] using hp
    have : n.op = 13 ∨ n.op = 14 ∨ n.op = 15 := by omega
    simpa [pI] using this

noncomputable def slotsM (cs : List Co) : Int := if coreM cs = 0 then maxK pS cs else 0




end Go.Proofs.Ytlegadpbjccelaa
