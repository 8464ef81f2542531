/-
  What becomes of a core when parts of it are put in place of others; no program in sight. Conditions: none.
-/
import Derived.Test.YtojifjbbjnpgbaaGreatQDeadCorePp2
import Derived.Test.YtojifjbbjnpgbaaGreatQDeadCoreCoA
set_option linter.unusedVariables false
set_option linter.unusedSimpArgs false
set_option maxRecDepth 100000
namespace Go.Proofs.YtojifjbbjnpgbaaGreat
open Go.RowKit

/-- A node as a core without fault has it, but for the places that it names. -/
def Co.good (n : Co) : Prop := n.fine ∧ (∀ i, arC n.op ≤ i → i < 3 → kidC n i = 0) ∧ (n.op = 2 → (valOfM n.val).2 = 0)
mutual
def Pt.good : Pt → Prop
  | .mk n kids => n.good ∧ kids.length = arC n.op ∧ Pt.goods kids
def Pt.goods : List Pt → Prop
  | [] => True
  | p :: r => p.good ∧ Pt.goods r
end
theorem Pt.good_eq (p : Pt) : p.good ↔ (p.n.good ∧ p.kids.length = arC p.n.op ∧ Pt.goods p.kids) := by cases p; exact Iff.rfl
theorem Pt.goods_at {l : List Pt} : Pt.goods l ↔ ∀ p ∈ l, p.good := by
  induction l with
  | nil => exact ⟨fun _ p hp => (by cases hp), fun _ => trivial⟩
  | cons a r ih =>
    constructor
    · intro h p hp
      rcases List.mem_cons.1 hp with rfl | hp
      · exact h.1
      · exact ih.1 h.2 p hp
    · intro h
      exact ⟨h a (List.mem_cons_self ..), ih.2 fun p hp => h p (List.mem_cons_of_mem _ hp)⟩
mutual
theorem Pt.good_ok : ∀ (p : Pt), p.good → p.ok
  | .mk n kids, h => ⟨h.1.1.2, by have := arC_le n.op; have := h.2.1; omega, Pt.goods_oks kids h.2.2⟩
theorem Pt.goods_oks : ∀ (l : List Pt), Pt.goods l → Pt.oks l
  | [], _ => trivial
  | p :: r, h => ⟨Pt.good_ok p h.1, Pt.goods_oks r h.2⟩
end

/-- What stands in place of a part is no greater, and as good. -/
def FitOK (fit : Pt → Option Pt) : Prop := ∀ p q, p.good → fit p = some q → q.good ∧ q.count ≤ p.count ∧ p.kids ≠ []

/-- The part at a place, with others in place of what fits, and how often something fitted. -/
def readP (fit : Pt → Option Pt) (cs : List Co) : Nat → Nat → Pt × Nat
  | 0, _ => (default, 0)
  | f + 1, k => match fit (.mk (cs.getD k default) (((kidsOf (nmC cs) k).map (readP fit cs f)).map (·.1))) with
    | some q => (q, (((kidsOf (nmC cs) k).map (readP fit cs f)).map (·.2)).sum + 1)
    | none => (.mk (cs.getD k default) (((kidsOf (nmC cs) k).map (readP fit cs f)).map (·.1)), (((kidsOf (nmC cs) k).map (readP fit cs f)).map (·.2)).sum)

def cnt (cs : List Co) (k : Nat) : Nat := (full (nmC cs) k).length
theorem cnt_eq (cs : List Co) (k : Nat) : cnt cs k = ((kidsOf (nmC cs) k).map (cnt cs)).sum + 1 := by
  unfold cnt
  rw [full_eq, List.length_append, List.length_flatMap]
  rfl

theorem counts_map {α : Type} (g : α → Pt) (w : α → Nat) : ∀ l : List α, (∀ j ∈ l, (g j).count ≤ w j) → Pt.counts (l.map g) ≤ (l.map w).sum
  | [], _ => by simp [Pt.counts]
  | a :: l, h => by
    have h1 := h a (List.mem_cons_self ..)
    have h2 := counts_map g w l fun j hj => h j (List.mem_cons_of_mem _ hj)
    simp only [List.map_cons, Pt.counts, List.sum_cons]
    omega
theorem sum_map {α : Type} (g w : α → Nat) : ∀ l : List α, (∀ j ∈ l, g j ≤ w j) → (l.map g).sum ≤ (l.map w).sum
  | [], _ => by simp
  | a :: l, h => by
    have h1 := h a (List.mem_cons_self ..)
    have h2 := sum_map g w l fun j hj => h j (List.mem_cons_of_mem _ hj)
    simp only [List.map_cons, List.sum_cons]
    omega
theorem sum_take (l : List Nat) (i : Nat) : (l.take i).sum ≤ l.sum := by
  have := congrArg List.sum (List.take_append_drop i l)
  rw [List.sum_append] at this
  omega

/-- The nodes of a core are as their kinds want. -/
def GdC (cs : List Co) : Prop := NcOK cs ∧ ∀ k, k < cs.length → (cs.getD k default).good

theorem readP_facts {fit : Pt → Option Pt} (hfit : FitOK fit) {cs : List Co} (hg : GdC cs) : ∀ (f k : Nat), k < f → k < cs.length → (readP fit cs f k).1.good ∧ (readP fit cs f k).1.count ≤ cnt cs k ∧ (readP fit cs f k).2 ≤ cnt cs k
  | 0, k, h, _ => by omega
  | f + 1, k, h, hk => by
    have ih := fun j (hj : j ∈ kidsOf (nmC cs) k) => readP_facts hfit hg f j (by have := kidsOf_lt hj; omega) (by have := kidsOf_lt hj; omega)
    have hc := counts_map (fun j => (readP fit cs f j).1) (cnt cs) (kidsOf (nmC cs) k) fun j hj => (ih j hj).2.1
    have hs := sum_map (fun j => (readP fit cs f j).2) (cnt cs) (kidsOf (nmC cs) k) fun j hj => (ih j hj).2.2
    have he := cnt_eq cs k
    have hp : (Pt.mk (cs.getD k default) (((kidsOf (nmC cs) k).map (readP fit cs f)).map (·.1))).good := by
      refine ⟨hg.2 k hk, ?_, Pt.goods_at.2 fun p hp => ?_⟩
      · rw [List.length_map, List.length_map]
        exact kidsC_ar (hg.1 k hk)
      · rw [List.map_map, List.mem_map] at hp
        obtain ⟨j, hj, rfl⟩ := hp
        exact (ih j hj).1
    have hpc := Pt.count_eq (.mk (cs.getD k default) (((kidsOf (nmC cs) k).map (readP fit cs f)).map (·.1)))
    simp only [Pt.kids, List.map_map] at hpc
    have hc' : Pt.counts ((kidsOf (nmC cs) k).map ((·.1) ∘ readP fit cs f)) ≤ ((kidsOf (nmC cs) k).map (cnt cs)).sum := hc
    have hs' : ((kidsOf (nmC cs) k).map ((·.2) ∘ readP fit cs f)).sum ≤ ((kidsOf (nmC cs) k).map (cnt cs)).sum := hs
    unfold readP
    split
    · rename_i q hq
      obtain ⟨h1, h2, _⟩ := hfit _ q hp hq
      simp only [List.map_map] at h2 ⊢
      exact ⟨h1, by omega, by omega⟩
    · rename_i hq
      refine ⟨hp, ?_, ?_⟩
      · simp only [List.map_map]
        omega
      · simp only [List.map_map]
        omega

theorem cnt_last {cs : List Co} (h0 : 1 ≤ cs.length) (hc : coreM cs = 0) : cnt cs (cs.length - 1) = cs.length := by
  unfold coreM at hc
  rw [if_neg (by intro h; rw [if_pos h] at hc; cases hc)] at hc
  by_cases h1 : firstK (cCode cs) cs.length 0 ≠ 0
  · rw [if_pos h1] at hc; exact absurd hc h1
  · rw [if_neg h1] at hc
    by_cases h2 : begM (nmC cs) (cs.length - 1) ≠ 0
    · rw [if_pos h2] at hc; cases hc
    · have h3 := begM_zero.1 (Decidable.not_not.1 h2)
      unfold cnt
      rw [h3, List.length_range]
      omega

theorem formC3_zero {n : Co} {k : Nat} (h : formC3 n k = true) : ∀ i, arC n.op ≤ i → i < 3 → kidC n i = 0 := by
  unfold formC3 at h
  simp only [Bool.and_eq_true] at h
  obtain ⟨⟨⟨⟨h0, h1⟩, h2⟩, _⟩, _⟩ := h
  intro i hi h3
  have key : ∀ j, kidCB n k j = true → arC n.op ≤ j → kidC n j = 0 := fun j hb hj => by
    rw [kidCB, if_neg (by omega)] at hb
    simpa using hb
  have : i = 0 ∨ i = 1 ∨ i = 2 := by omega
  rcases this with rfl | rfl | rfl
  · exact key 0 h0 hi
  · exact key 1 h1 hi
  · exact key 2 h2 hi

theorem good_of {cs : List Co} (ht : ∀ n ∈ cs, n.fine) (hc : coreM cs = 0) : 1 ≤ cs.length ∧ cs.length ≤ 900 ∧ GdC cs := by
  unfold coreM at hc
  by_cases hl : 1 ≤ cs.length ∧ cs.length ≤ 900
  · rw [if_neg (fun h => h hl)] at hc
    by_cases h1 : firstK (cCode cs) cs.length 0 ≠ 0
    · rw [if_pos h1] at hc; exact absurd hc h1
    · have h2 : firstK (cCode cs) cs.length 0 = 0 := by omega
      refine ⟨hl.1, hl.2, ncOK_of h2, fun k hk => ?_⟩
      have h3 : coreC (cs.getD k default) k = 0 := firstK_zero h2 k (by omega) (by omega)
      have h4 : cs.getD k default ∈ cs := getD_mem' hk
      generalize cs.getD k default = n at *
      unfold coreC at h3
      split at h3
      · cases h3
      · split at h3
        · cases h3
        · rename_i hf
          refine ⟨ht n h4, formC3_zero (k := k) (by simpa using hf), fun h5 => ?_⟩
          split at h3
          · rename_i hv
            exact absurd h3 hv.2
          · rename_i hv
            by_cases h6 : (valOfM n.val).2 = 0
            · exact h6
            · exact absurd ⟨by simp [hasVl, h5], h6⟩ hv
  · rw [if_pos hl] at hc; cases hc

/-! ### the reference's way: nodes that stand behind others -/

/-- A node behind so many others. -/
def shC (b : Nat) (x : Co) : Co := ⟨x.op, if 0 < arC x.op then x.a + b else x.a, if 1 < arC x.op then x.b + b else x.b, if 2 < arC x.op then x.c + b else x.c, x.num, x.val⟩
def Co.bare (n : Co) : Co := ⟨n.op, 0, 0, 0, n.num, n.val⟩

theorem Pt.ends_shift (b : Nat) : ∀ (l : List Pt) (c : Nat), Pt.ends l (c + b) = (Pt.ends l c).map fun (e : Int) => e + (b : Int)
  | [], _ => rfl
  | p :: r, c => by
    simp only [Pt.ends, List.map_cons]
    rw [show c + b + p.count = (c + p.count) + b by omega, Pt.ends_shift b r (c + p.count)]
    congr 1
    omega

theorem shC_put (n : Co) (es : List Int) (b : Nat) (h : es.length = arC n.op) : shC b (n.put es) = n.put (es.map fun (e : Int) => e + (b : Int)) := by
  unfold shC Co.put
  match es, h with
  | [], h => simp at h; simp [← h]
  | [x], h => simp at h; simp [← h]
  | [x, y], h => simp at h; simp [← h]
  | [x, y, z], h => simp at h; simp [← h]
  | x :: y :: z :: u :: r, h => have := arC_le n.op; simp at h; omega

mutual
theorem Pt.flat_shift (b : Nat) : ∀ (p : Pt) (c : Nat), p.good → (p.flat c).map (shC b) = p.flat (c + b)
  | .mk n kids, c, h => by
    simp only [Pt.flat, List.map_append, List.map_cons, List.map_nil]
    rw [Pt.flats_shift b kids c h.2.2, shC_put n _ b (by rw [Pt.ends_length]; exact h.2.1), ← Pt.ends_shift b kids c]
theorem Pt.flats_shift (b : Nat) : ∀ (l : List Pt) (c : Nat), Pt.goods l → (Pt.flats l c).map (shC b) = Pt.flats l (c + b)
  | [], _, _ => rfl
  | p :: r, c, h => by
    simp only [Pt.flats, List.map_append]
    rw [Pt.flat_shift b p c h.1, Pt.flats_shift b r (c + p.count) h.2]
    congr 2
    omega
end

theorem put_bare (n : Co) (es : List Int) (h : es.length = arC n.op) (hz : ∀ i, arC n.op ≤ i → i < 3 → kidC n i = 0) : n.bare.put es = n.put es := by
  unfold Co.bare Co.put
  match es, h with
  | [], h =>
    simp at h
    have h0 := hz 0 (by omega) (by omega)
    have h1 := hz 1 (by omega) (by omega)
    have h2 := hz 2 (by omega) (by omega)
    simp [kidC] at h0 h1 h2
    simp [h0, h1, h2]
  | [x], h =>
    simp at h
    have h1 := hz 1 (by omega) (by omega)
    have h2 := hz 2 (by omega) (by omega)
    simp [kidC] at h1 h2
    simp [h1, h2]
  | [x, y], h =>
    simp at h
    have h2 := hz 2 (by omega) (by omega)
    simp [kidC] at h2
    simp [h2]
  | [x, y, z], h => simp
  | x :: y :: z :: u :: r, h => have := arC_le n.op; simp at h; omega

mutual
theorem Pt.flat_fine : ∀ (p : Pt) (c : Nat), p.good → ∀ x ∈ p.flat c, x.fine
  | .mk n kids, c, h, x, hx => by
    simp only [Pt.flat, List.mem_append, List.mem_singleton] at hx
    rcases hx with hx | rfl
    · exact Pt.flats_fine kids c h.2.2 x hx
    · exact h.1.1
theorem Pt.flats_fine : ∀ (l : List Pt) (c : Nat), Pt.goods l → ∀ x ∈ Pt.flats l c, x.fine
  | [], _, _, x, hx => by cases hx
  | p :: r, c, h, x, hx => by
    simp only [Pt.flats, List.mem_append] at hx
    rcases hx with hx | hx
    · exact Pt.flat_fine p c h.1 x hx
    · exact Pt.flats_fine r _ h.2 x hx
end

/-- The places that a node names are small. -/
def Co.low (m : Nat) (x : Co) : Prop := ∀ i, i < arC x.op → -1 ≤ kidC x i ∧ kidC x i ≤ m

theorem ends_low : ∀ (l : List Pt) (c : Nat), ∀ e ∈ Pt.ends l c, -1 ≤ e ∧ e ≤ ((c + Pt.counts l : Nat) : Int)
  | [], _, e, he => by cases he
  | p :: r, c, e, he => by
    simp only [Pt.ends, List.mem_cons] at he
    simp only [Pt.counts]
    rcases he with rfl | he
    · omega
    · have := ends_low r (c + p.count) e he
      omega
theorem put_low {n : Co} {es : List Int} {m : Nat} (h : es.length = arC n.op) (hes : ∀ e ∈ es, -1 ≤ e ∧ e ≤ (m : Int)) : (n.put es).low m := by
  intro i hi
  have hi' : i < es.length := by rw [h]; exact hi
  have h3 := arC_le n.op
  have key : kidC (n.put es) i = es[i] := by
    have : i = 0 ∨ i = 1 ∨ i = 2 := by omega
    rcases this with rfl | rfl | rfl <;> simp [kidC, Co.put, hi']
  rw [key]
  exact hes _ (List.getElem_mem ..)
theorem Co.low.mono {m m' : Nat} {x : Co} (h : x.low m) (hm : m ≤ m') : x.low m' := fun i hi => by have := h i hi; omega
mutual
theorem Pt.flat_low : ∀ (p : Pt) (c : Nat), p.good → ∀ x ∈ p.flat c, x.low (c + p.count)
  | .mk n kids, c, h, x, hx => by
    simp only [Pt.flat, List.mem_append, List.mem_singleton] at hx
    simp only [Pt.count]
    rcases hx with hx | rfl
    · exact (Pt.flats_low kids c h.2.2 x hx).mono (by omega)
    · exact (put_low (by rw [Pt.ends_length]; exact h.2.1) (ends_low kids c)).mono (by omega)
theorem Pt.flats_low : ∀ (l : List Pt) (c : Nat), Pt.goods l → ∀ x ∈ Pt.flats l c, x.low (c + Pt.counts l)
  | [], _, _, x, hx => by cases hx
  | p :: r, c, h, x, hx => by
    simp only [Pt.flats, List.mem_append] at hx
    simp only [Pt.counts]
    rcases hx with hx | hx
    · exact (Pt.flat_low p c h.1 x hx).mono (by omega)
    · exact (Pt.flats_low r _ h.2 x hx).mono (by omega)
end

end Go.Proofs.YtojifjbbjnpgbaaGreat
