/-
  How many variables a core has, by the program and by the reference. Conditions: cells of at most 2^20 bytes.
-/
import Derived.Test.YteooogngdejdgaaCoA
import Derived.Test.YteooogngdejdgaaW2
set_option linter.unusedVariables false
set_option linter.unusedSimpArgs false
set_option maxRecDepth 100000
namespace Go.Proofs.Yteooogngdejdgaa
open Go.RowKit

/-- A bound name: every variable below a node is known or is bound somewhere. -/
theorem bnd_in {cs : List Co} (hok : NcOK cs) : ∀ (f k : Nat) (sl : List Int), k < cs.length → bndF cs f k sl = true → k < f → ∀ j ∈ full (nmC cs) k, (cs.getD j default).op = 15 →
    (cs.getD j default).num ∈ sl ∨ ∃ n ∈ cs, (n.op = 14 ∨ n.op = 13) ∧ n.num = (cs.getD j default).num
  | 0, k, sl, hk, h, hkf, j, hj, h15 => by omega
  | f + 1, k, sl, hk, h, hkf, j, hj, h15 => by
    rw [bndF, Bool.and_eq_true] at h
    rw [full_eq, List.mem_append] at hj
    rcases hj with hj | hj
    · obtain ⟨m, hm, hjm⟩ := List.mem_flatMap.1 hj
      obtain ⟨i, hi, rfl⟩ := List.getElem_of_mem hm
      have hlt : (kidsOf (nmC cs) k)[i] < k := kidsOf_lt hm
      have hb : bndF cs f (kidsOf (nmC cs) k)[i] (inC (cs.getD k default) i sl) = true := by
        cases hq : bndF cs f (kidsOf (nmC cs) k)[i] (inC (cs.getD k default) i sl) with
        | true => rfl
        | false =>
          have := allK_false (f := fun i j => bndF cs f j (inC (cs.getD k default) i sl)) (l := kidsOf (nmC cs) k) (q := 0) (i := i) hi (by simp only [Nat.zero_add]; rw [show (kidsOf (nmC cs) k).getD i default = (kidsOf (nmC cs) k)[i] by simp [hi]]; exact hq)
          rw [this] at h
          exact absurd h.2 (by simp)
      rcases bnd_in hok f _ _ (by omega) hb (by omega) j hjm h15 with h1 | h1
      · unfold inC at h1
        split at h1
        · rename_i hc
          rcases List.mem_append.1 h1 with h2 | h2
          · exact .inl h2
          · refine .inr ⟨cs.getD k default, getD_mem' hk, ?_, (List.mem_singleton.1 h2).symm⟩
            rcases hc with hc | hc
            · exact .inl hc.1
            · exact .inr hc.1
        · exact .inl h1
      · exact .inr h1
    · have : j = k := by simpa using hj
      subst this
      have h1 := h.1
      rw [h15] at h1
      exact .inl (by simpa [hasI] using h1)

def maxK (p : Int → Bool) (cs : List Co) : Int := cs.foldl (fun x n => if p n.op = true then max x (n.num + 1) else x) 0

theorem maxK_take (p : Int → Bool) (cs : List Co) (k : Nat) (h : k < cs.length) : maxK p (cs.take (k + 1)) = if p (cs.getD k default).op = true then max (maxK p (cs.take k)) ((cs.getD k default).num + 1) else maxK p (cs.take k) := by
  rw [take_step h]
  simp [maxK]

theorem maxK_le' (p : Int → Bool) (b : Int) : ∀ (cs : List Co) (x : Int), cs.foldl (fun x n => if p n.op = true then max x (n.num + 1) else x) x ≤ b ↔ x ≤ b ∧ ∀ n ∈ cs, p n.op = true → n.num + 1 ≤ b
  | [], x => by simp
  | n :: r, x => by
    rw [List.foldl_cons, maxK_le' p b r]
    by_cases h : p n.op = true
    · rw [if_pos h]
      constructor
      · intro ⟨h1, h2⟩
        refine ⟨by omega, fun m hm hp => ?_⟩
        rcases List.mem_cons.1 hm with rfl | hm
        · omega
        · exact h2 m hm hp
      · intro ⟨h1, h2⟩
        exact ⟨by have := h2 n (List.mem_cons_self ..) h; omega, fun m hm hp => h2 m (List.mem_cons_of_mem _ hm) hp⟩
    · rw [if_neg h]
      constructor
      · intro ⟨h1, h2⟩
        refine ⟨h1, fun m hm hp => ?_⟩
        rcases List.mem_cons.1 hm with rfl | hm
        · exact absurd hp h
        · exact h2 m hm hp
      · intro ⟨h1, h2⟩
        exact ⟨h1, fun m hm hp => h2 m (List.mem_cons_of_mem _ hm) hp⟩

theorem maxK_le (p : Int → Bool) (b : Int) (cs : List Co) : maxK p cs ≤ b ↔ 0 ≤ b ∧ ∀ n ∈ cs, p n.op = true → n.num + 1 ≤ b := maxK_le' p b cs 0

def pI (op : Int) : Bool := decide (op = 13 ∨ op = 14 ∨ op = 15)
def pS (op : Int) : Bool := decide (op = 14 ∨ op = 13)

/-- What no fault says. -/
theorem coreM_ok {cs : List Co} (h : coreM cs = 0) : (1 ≤ cs.length ∧ cs.length ≤ 900) ∧ firstK (cCode cs) cs.length 0 = 0 ∧ full (nmC cs) (cs.length - 1) = List.range cs.length ∧ bndF cs cs.length (cs.length - 1) [] = true ∧ nestM (nmC cs) (cs.length - 1) ≤ 120 := by
  unfold coreM at h
  split at h
  · cases h
  rename_i h1
  have h1 := Classical.not_not.1 h1
  split at h
  · rename_i h2; exact absurd h h2
  rename_i h2
  split at h
  · cases h
  rename_i h3
  split at h
  · cases h
  rename_i h4
  split at h
  · cases h
  rename_i h5
  refine ⟨h1, Classical.not_not.1 h2, ?_, by simpa using h4, by omega⟩
  have := begM_zero.1 (Classical.not_not.1 h3)
  rw [this, show cs.length - 1 + 1 = cs.length by omega]

theorem coreC_num {n : Co} {k : Nat} (h : coreC n k = 0) : numOkC n = true := by
  unfold coreC at h
  split at h
  · cases h
  split at h
  · cases h
  split at h
  · rename_i h1; exact absurd h h1.2
  split at h
  · cases h
  split at h
  · cases h
  rename_i h1
  simpa using h1

theorem numOkC_var {n : Co} (h : numOkC n = true) (hp : pI n.op = true) : 0 ≤ n.num ∧ n.num ≤ 59 := by
  have hp' : n.op = 13 ∨ n.op = 14 ∨ n.op = 15 := by simpa [pI] using hp
  unfold numOkC numLoC numHiC hasNc at h
  rcases hp' with e | e | e <;> simpa [e] using h

theorem cores_num {cs : List Co} (h : coreM cs = 0) : ∀ n ∈ cs, pI n.op = true → 0 ≤ n.num ∧ n.num ≤ 59 := fun n hn hp => by
  obtain ⟨k, hk, rfl⟩ := List.getElem_of_mem hn
  have := coreC_num (firstK_zero (coreM_ok h).2.1 k (by omega) (by omega))
  rw [show cs.getD k default = cs[k] by simp [hk]] at this
  exact numOkC_var this hp

theorem slots_eq {cs : List Co} (h : coreM cs = 0) : maxK pI cs = maxK pS cs := by
  have hn := cores_num h
  obtain ⟨⟨h1, h2⟩, h3, h4, h5, h6⟩ := coreM_ok h
  have hok := ncOK_of h3
  apply Int.le_antisymm
  · refine (maxK_le _ _ _).2 ⟨((maxK_le pS _ cs).1 (Int.le_refl _)).1, fun n hm hp => ?_⟩
    have hle := ((maxK_le pS _ cs).1 (Int.le_refl _)).2
    by_cases hs : pS n.op = true
    · exact hle n hm hs
    · have h15 : n.op = 15 := by
        have : n.op = 13 ∨ n.op = 14 ∨ n.op = 15 := by simpa [pI] using hp
        have : ¬ (n.op = 14 ∨ n.op = 13) := by simpa [pS] using hs
        omega
      obtain ⟨k, hk, rfl⟩ := List.getElem_of_mem hm
      have hj : k ∈ full (nmC cs) (cs.length - 1) := by rw [h4]; exact List.mem_range.2 hk
      have e : cs.getD k default = cs[k] := by simp [hk]
      rcases bnd_in hok _ _ _ (by omega) h5 (by omega) k hj (by rw [e]; exact h15) with q | ⟨m, hm2, ho, he⟩
      · cases q
      · have := hle m hm2 (by simpa [pS] using ho)
        rw [e] at he
        omega
  · refine (maxK_le _ _ _).2 ⟨((maxK_le pI _ cs).1 (Int.le_refl _)).1, fun n hm hp => ((maxK_le pI _ cs).1 (Int.le_refl _)).2 n hm ?_⟩
    have : n.op = 14 ∨ n.op = 13 := by simpa [pS] using hp
    have : n.op = 13 ∨ n.op = 14 ∨ n.op = 15 := by omega
    simpa [pI] using this

noncomputable def slotsM (cs : List Co) : Int := if coreM cs = 0 then maxK pS cs else 0

set_option maxHeartbeats 4000000 in
theorem SlotsOf_fn (cs : List Co) (hf : fitsK cs) : Fun env.P 55 [coresD cs] (.d (.agg [dI (coreM cs), dI (slotsM cs)])) [] := by
  have ht := CoreFault_fn cs hf.2 hf.1
  have hl := hf.2
  have hnm := @cores_num cs
  have hse := @slots_eq cs
  unfold slotsM
  generalize coreM cs = c at ht hnm hse
  by_cases hc : c = 0
  · subst hc
    rw [if_pos rfl, ← hse rfl]
    replace hnm := hnm rfl
    refine Fun.intro Try.func55 rfl (by kernel_rfl) rfl ?_
    repeat' (first | refine W.seq ?_ | refine W.rg ?_ | refine W.dra' ?_ | refine W.block ?_ | refine W.skip ?_ | refine W.exit ?_ | refine W.cond_true' ?_ | refine W.cond_false' ?_ | refine WG.nil ?_ | refine WG.run' (E := env) ?_ | refine WG.gt' ?_ | refine WG.gf' ?_ | refine WG.ixm' (E := env) ?_ | refine WG.ixo' (E := env) ?_ | refine WG.legm' (E := env) ?_ | refine WG.slS' (E := env) ?_ | refine WG.slD' (E := env) ?_ | refine WG.ap' (E := env) ?_ | refine WD.nil ?_ | refine WD.bs' (E := env) ?_ | refine WD.s' (E := env) (t := .d _) ?_ | refine WD.p' ?_ | refine WD.px' ?_ | refine WD.s' (E := env) (t := .ea _ _) ?_ | refine WD.s' (E := env) (t := .lp _ _) ?_ | refine WD.s' (E := env) (t := .og _ _) ?_ | refine WD.s' (E := env) (t := .agg _) ?_ | refine WD.s' (E := env) (t := .tup _) ?_ | refine WD.s' (E := env) (t := .clo _ _) ?_ | refine WD.ixm' (E := env) ?_ | refine WD.ixo' (E := env) ?_ | refine WD.legm' (E := env) ?_ | refine WD.slS' (E := env) ?_ | refine WD.slD' (E := env) ?_ | refine WG.c (E := env) rfl rfl (ht) rfl rfl ?_ | refine WD.c (E := env) rfl rfl (ht) rfl rfl ?_ | refine WG.co (E := env) rfl rfl (ht) rfl rfl rfl rfl ?_ | refine WG.cx (E := env) rfl (ht) rfl ?_ | ((first | refine WG.sp' (fun h => ?_) fun h => ?_ | refine W.cond' (fun h => ?_) fun h => ?_ | refine WD.sp' (fun h => ?_) fun h => ?_) <;> (try simp only [decide_eq_true_eq, decide_eq_false_iff_not, Bool.not_eq_true', Bool.not_eq_false', Bool.and_eq_true, Bool.or_eq_true, Bool.and_eq_false_iff, Bool.or_eq_false_iff, Bool.not_eq_true, Bool.not_eq_false, Int.not_lt, Int.not_le, List.length_map, beq_self_eq_true, Bool.true_eq_false, Bool.false_eq_true] at h) <;> (try (exfalso; first | contradiction | omega))))
    refine W.loopI (fun m S => ∃ (i : Nat) (x : Int), m = cs.length - i ∧ (i ≤ cs.length ∧ x = maxK pI (cs.take i)) ∧ S = ⟨ofL [(2, .lp 0 0), (4, .lp 1 0), (14, .d (coresD cs)), (15, vI .i64 (cs.map Co.row).length), (16, vI .i64 i)], [.pv [.d (dI 0), .d (dI 0)], .pv [.d (dI 0), .d (dI x)]]⟩) _ _ ⟨0, 0, rfl, ⟨by omega, by simp [maxK]⟩, rfl⟩ (St.imp.of_le (by (refine le_ofL rfl ?_ ?_ <;> (repeat (first | exact trivial | refine ⟨⟨rfl, rfl⟩, ?_⟩ | refine ⟨rfl, .inl rfl, ?_⟩ | refine ⟨rfl, .inr rfl, ?_⟩))))) ?_
    rintro m S ⟨i, x, rfl, ⟨hi, hx⟩, rfl⟩
    by_cases hin : i < cs.length
    · have hu := maxK_take pI cs i hin
      have hn : pI (cs.getD (Int.toNat (i : Int)) default).op = true → 0 ≤ (cs.getD (Int.toNat (i : Int)) default).num ∧ (cs.getD (Int.toNat (i : Int)) default).num ≤ 59 := by
        rw [Int.toNat_natCast]
        exact hnm _ (getD_mem' hin)
      simp only [pI, decide_eq_true_eq] at hn
      repeat' (first | refine W.seq ?_ | refine W.rg ?_ | refine W.dra' ?_ | refine W.block ?_ | refine W.skip ?_ | refine W.exit ?_ | refine W.cond_true' ?_ | refine W.cond_false' ?_ | refine WG.nil ?_ | refine WG.run' (E := env) ?_ | refine WG.gt' ?_ | refine WG.gf' ?_ | refine WG.ixm' (E := env) ?_ | refine WG.ixo' (E := env) ?_ | refine WG.legm' (E := env) ?_ | refine WG.slS' (E := env) ?_ | refine WG.slD' (E := env) ?_ | refine WG.ap' (E := env) ?_ | refine WD.nil ?_ | refine WD.bs' (E := env) ?_ | refine WD.s' (E := env) (t := .d _) ?_ | refine WD.p' ?_ | refine WD.px' ?_ | refine WD.s' (E := env) (t := .ea _ _) ?_ | refine WD.s' (E := env) (t := .lp _ _) ?_ | refine WD.s' (E := env) (t := .og _ _) ?_ | refine WD.s' (E := env) (t := .agg _) ?_ | refine WD.s' (E := env) (t := .tup _) ?_ | refine WD.s' (E := env) (t := .clo _ _) ?_ | refine WD.ixm' (E := env) ?_ | refine WD.ixo' (E := env) ?_ | refine WD.legm' (E := env) ?_ | refine WD.slS' (E := env) ?_ | refine WD.slD' (E := env) ?_ | ((first | refine WG.sp' (fun h => ?_) fun h => ?_ | refine W.cond' (fun h => ?_) fun h => ?_ | refine WD.sp' (fun h => ?_) fun h => ?_) <;> (try simp only [decide_eq_true_eq, decide_eq_false_iff_not, Bool.not_eq_true', Bool.not_eq_false', Bool.and_eq_true, Bool.or_eq_true, Bool.and_eq_false_iff, Bool.or_eq_false_iff, Bool.not_eq_true, Bool.not_eq_false, Int.not_lt, Int.not_le, List.length_map, beq_self_eq_true, Bool.true_eq_false, Bool.false_eq_true] at h) <;> (try (exfalso; first | contradiction | omega))))
      all_goals (try simp only [Int.toNat_natCast] at *)
      all_goals first
        | exact ⟨_, _, by omega, ⟨i + 1, max x ((cs.getD i default).num + 1), rfl, ⟨by omega, by rw [hu, if_pos (by simp only [pI, decide_eq_true_eq]; omega), hx]⟩, rfl⟩, (St.imp.of_le (by (refine le_ofL rfl ?_ ?_ <;> (repeat (first | exact trivial | refine ⟨⟨rfl, rfl⟩, ?_⟩ | refine ⟨rfl, .inl rfl, ?_⟩ | refine ⟨rfl, .inr rfl, ?_⟩)))))⟩
        | exact ⟨_, _, by omega, ⟨i + 1, x, rfl, ⟨by omega, by rw [hu, if_neg (by simp only [pI, decide_eq_true_eq]; omega), hx]⟩, rfl⟩, (St.imp.of_le (by (refine le_ofL rfl ?_ ?_ <;> (repeat (first | exact trivial | refine ⟨⟨rfl, rfl⟩, ?_⟩ | refine ⟨rfl, .inl rfl, ?_⟩ | refine ⟨rfl, .inr rfl, ?_⟩)))))⟩
    · repeat' (first | refine W.seq ?_ | refine W.rg ?_ | refine W.dra' ?_ | refine W.block ?_ | refine W.skip ?_ | refine W.exit ?_ | refine W.cond_true' ?_ | refine W.cond_false' ?_ | refine WG.nil ?_ | refine WG.run' (E := env) ?_ | refine WG.gt' ?_ | refine WG.gf' ?_ | refine WG.ixm' (E := env) ?_ | refine WG.ixo' (E := env) ?_ | refine WG.legm' (E := env) ?_ | refine WG.slS' (E := env) ?_ | refine WG.slD' (E := env) ?_ | refine WG.ap' (E := env) ?_ | refine WD.nil ?_ | refine WD.bs' (E := env) ?_ | refine WD.s' (E := env) (t := .d _) ?_ | refine WD.p' ?_ | refine WD.px' ?_ | refine WD.s' (E := env) (t := .ea _ _) ?_ | refine WD.s' (E := env) (t := .lp _ _) ?_ | refine WD.s' (E := env) (t := .og _ _) ?_ | refine WD.s' (E := env) (t := .agg _) ?_ | refine WD.s' (E := env) (t := .tup _) ?_ | refine WD.s' (E := env) (t := .clo _ _) ?_ | refine WD.ixm' (E := env) ?_ | refine WD.ixo' (E := env) ?_ | refine WD.legm' (E := env) ?_ | refine WD.slS' (E := env) ?_ | refine WD.slD' (E := env) ?_ | ((first | refine WG.sp' (fun h => ?_) fun h => ?_ | refine W.cond' (fun h => ?_) fun h => ?_ | refine WD.sp' (fun h => ?_) fun h => ?_) <;> (try simp only [decide_eq_true_eq, decide_eq_false_iff_not, Bool.not_eq_true', Bool.not_eq_false', Bool.and_eq_true, Bool.or_eq_true, Bool.and_eq_false_iff, Bool.or_eq_false_iff, Bool.not_eq_true, Bool.not_eq_false, Int.not_lt, Int.not_le, List.length_map, beq_self_eq_true, Bool.true_eq_false, Bool.false_eq_true] at h) <;> (try (exfalso; first | contradiction | omega))))
      (refine W.ret ?_; (first | refine RetQ.b' ?_ | refine RetQ.i' ?_ | refine RetQ.d' ?_ | refine RetQ.t2' ?_ ?_ | refine RetQ.t3' ?_ ?_ ?_))
      rw [hx, show i = cs.length by omega, List.take_length]
      rfl
  · rw [if_neg hc]
    refine Fun.intro Try.func55 rfl (by kernel_rfl) rfl ?_
    repeat' (first | refine W.seq ?_ | refine W.rg ?_ | refine W.dra' ?_ | refine W.block ?_ | refine W.skip ?_ | refine W.exit ?_ | refine W.cond_true' ?_ | refine W.cond_false' ?_ | refine WG.nil ?_ | refine WG.run' (E := env) ?_ | refine WG.gt' ?_ | refine WG.gf' ?_ | refine WG.ixm' (E := env) ?_ | refine WG.ixo' (E := env) ?_ | refine WG.legm' (E := env) ?_ | refine WG.slS' (E := env) ?_ | refine WG.slD' (E := env) ?_ | refine WG.ap' (E := env) ?_ | refine WD.nil ?_ | refine WD.bs' (E := env) ?_ | refine WD.s' (E := env) (t := .d _) ?_ | refine WD.p' ?_ | refine WD.px' ?_ | refine WD.s' (E := env) (t := .ea _ _) ?_ | refine WD.s' (E := env) (t := .lp _ _) ?_ | refine WD.s' (E := env) (t := .og _ _) ?_ | refine WD.s' (E := env) (t := .agg _) ?_ | refine WD.s' (E := env) (t := .tup _) ?_ | refine WD.s' (E := env) (t := .clo _ _) ?_ | refine WD.ixm' (E := env) ?_ | refine WD.ixo' (E := env) ?_ | refine WD.legm' (E := env) ?_ | refine WD.slS' (E := env) ?_ | refine WD.slD' (E := env) ?_ | refine WG.c (E := env) rfl rfl (ht) rfl rfl ?_ | refine WD.c (E := env) rfl rfl (ht) rfl rfl ?_ | refine WG.co (E := env) rfl rfl (ht) rfl rfl rfl rfl ?_ | refine WG.cx (E := env) rfl (ht) rfl ?_ | ((first | refine WG.sp' (fun h => ?_) fun h => ?_ | refine W.cond' (fun h => ?_) fun h => ?_ | refine WD.sp' (fun h => ?_) fun h => ?_) <;> (try simp only [decide_eq_true_eq, decide_eq_false_iff_not, Bool.not_eq_true', Bool.not_eq_false', Bool.and_eq_true, Bool.or_eq_true, Bool.and_eq_false_iff, Bool.or_eq_false_iff, Bool.not_eq_true, Bool.not_eq_false, Int.not_lt, Int.not_le, List.length_map, beq_self_eq_true, Bool.true_eq_false, Bool.false_eq_true] at h) <;> (try (exfalso; first | contradiction | omega))))
    all_goals (refine W.ret ?_; (first | refine RetQ.b' ?_ | refine RetQ.i' ?_ | refine RetQ.d' ?_ | refine RetQ.t2' ?_ ?_ | refine RetQ.t3' ?_ ?_ ?_))
    all_goals rfl

set_option maxHeartbeats 4000000 in
theorem SlotsOfS_fn (cs : List Co) (hf : fitsK cs) : Fun env.P 54 [coresD cs] (.d (.agg [dI (coreM cs), dI (slotsM cs)])) [] := by
  have ht := CoreFaultS_fn cs hf.2 hf.1
  have hl := hf.2
  have hnm := @cores_num cs
  unfold slotsM
  generalize coreM cs = c at ht hnm
  by_cases hc : c = 0
  · subst hc
    rw [if_pos rfl]
    replace hnm := hnm rfl
    refine Fun.intro Try.func54 rfl (by kernel_rfl) rfl ?_
    repeat' (first | refine W.seq ?_ | refine W.rg ?_ | refine W.dra' ?_ | refine W.block ?_ | refine W.skip ?_ | refine W.exit ?_ | refine W.cond_true' ?_ | refine W.cond_false' ?_ | refine WG.nil ?_ | refine WG.run' (E := env) ?_ | refine WG.gt' ?_ | refine WG.gf' ?_ | refine WG.ixm' (E := env) ?_ | refine WG.ixo' (E := env) ?_ | refine WG.legm' (E := env) ?_ | refine WG.slS' (E := env) ?_ | refine WG.slD' (E := env) ?_ | refine WG.ap' (E := env) ?_ | refine WD.nil ?_ | refine WD.bs' (E := env) ?_ | refine WD.s' (E := env) (t := .d _) ?_ | refine WD.p' ?_ | refine WD.px' ?_ | refine WD.s' (E := env) (t := .ea _ _) ?_ | refine WD.s' (E := env) (t := .lp _ _) ?_ | refine WD.s' (E := env) (t := .og _ _) ?_ | refine WD.s' (E := env) (t := .agg _) ?_ | refine WD.s' (E := env) (t := .tup _) ?_ | refine WD.s' (E := env) (t := .clo _ _) ?_ | refine WD.ixm' (E := env) ?_ | refine WD.ixo' (E := env) ?_ | refine WD.legm' (E := env) ?_ | refine WD.slS' (E := env) ?_ | refine WD.slD' (E := env) ?_ | refine WG.c (E := env) rfl rfl (ht) rfl rfl ?_ | refine WD.c (E := env) rfl rfl (ht) rfl rfl ?_ | refine WG.co (E := env) rfl rfl (ht) rfl rfl rfl rfl ?_ | refine WG.cx (E := env) rfl (ht) rfl ?_ | ((first | refine WG.sp' (fun h => ?_) fun h => ?_ | refine W.cond' (fun h => ?_) fun h => ?_ | refine WD.sp' (fun h => ?_) fun h => ?_) <;> (try simp only [decide_eq_true_eq, decide_eq_false_iff_not, Bool.not_eq_true', Bool.not_eq_false', Bool.and_eq_true, Bool.or_eq_true, Bool.and_eq_false_iff, Bool.or_eq_false_iff, Bool.not_eq_true, Bool.not_eq_false, Int.not_lt, Int.not_le, List.length_map, beq_self_eq_true, Bool.true_eq_false, Bool.false_eq_true] at h) <;> (try (exfalso; first | contradiction | omega))))
    refine W.loopI (fun m S => ∃ (i : Nat) (x : Int), m = cs.length - i ∧ (i ≤ cs.length ∧ x = maxK pS (cs.take i)) ∧ S = ⟨ofL [(0, .d (coresD cs)), (2, .lp 0 0), (4, vI .i64 x), (5, vI .i64 i)], [.pv [.d (dI 0), .d (dI 0)]]⟩) _ _ ⟨0, 0, rfl, ⟨by omega, by simp [maxK]⟩, rfl⟩ (St.imp.of_le (by (refine le_ofL rfl ?_ ?_ <;> (repeat (first | exact trivial | refine ⟨⟨rfl, rfl⟩, ?_⟩ | refine ⟨rfl, .inl rfl, ?_⟩ | refine ⟨rfl, .inr rfl, ?_⟩))))) ?_
    rintro m S ⟨i, x, rfl, ⟨hi, hx⟩, rfl⟩
    by_cases hin : i < cs.length
    · have hu := maxK_take pS cs i hin
      have hn : (cs.getD (Int.toNat (i : Int)) default).op = 13 ∨ (cs.getD (Int.toNat (i : Int)) default).op = 14 → 0 ≤ (cs.getD (Int.toNat (i : Int)) default).num ∧ (cs.getD (Int.toNat (i : Int)) default).num ≤ 59 := by
        rw [Int.toNat_natCast]
        exact fun h => hnm _ (getD_mem' hin) (by simp only [pI, decide_eq_true_eq]; omega)
      have hmx := l1MaxC_fn x ((cs.getD (Int.toNat (i : Int)) default).num + 1)
      repeat' (first | refine W.seq ?_ | refine W.rg ?_ | refine W.dra' ?_ | refine W.block ?_ | refine W.skip ?_ | refine W.exit ?_ | refine W.cond_true' ?_ | refine W.cond_false' ?_ | refine WG.nil ?_ | refine WG.run' (E := env) ?_ | refine WG.gt' ?_ | refine WG.gf' ?_ | refine WG.ixm' (E := env) ?_ | refine WG.ixo' (E := env) ?_ | refine WG.legm' (E := env) ?_ | refine WG.slS' (E := env) ?_ | refine WG.slD' (E := env) ?_ | refine WG.ap' (E := env) ?_ | refine WD.nil ?_ | refine WD.bs' (E := env) ?_ | refine WD.s' (E := env) (t := .d _) ?_ | refine WD.p' ?_ | refine WD.px' ?_ | refine WD.s' (E := env) (t := .ea _ _) ?_ | refine WD.s' (E := env) (t := .lp _ _) ?_ | refine WD.s' (E := env) (t := .og _ _) ?_ | refine WD.s' (E := env) (t := .agg _) ?_ | refine WD.s' (E := env) (t := .tup _) ?_ | refine WD.s' (E := env) (t := .clo _ _) ?_ | refine WD.ixm' (E := env) ?_ | refine WD.ixo' (E := env) ?_ | refine WD.legm' (E := env) ?_ | refine WD.slS' (E := env) ?_ | refine WD.slD' (E := env) ?_ | refine WG.c (E := env) rfl rfl (hmx) rfl rfl ?_ | refine WD.c (E := env) rfl rfl (hmx) rfl rfl ?_ | refine WG.co (E := env) rfl rfl (hmx) rfl rfl rfl rfl ?_ | refine WG.cx (E := env) rfl (hmx) rfl ?_ | ((first | refine WG.sp' (fun h => ?_) fun h => ?_ | refine W.cond' (fun h => ?_) fun h => ?_ | refine WD.sp' (fun h => ?_) fun h => ?_) <;> (try simp only [decide_eq_true_eq, decide_eq_false_iff_not, Bool.not_eq_true', Bool.not_eq_false', Bool.and_eq_true, Bool.or_eq_true, Bool.and_eq_false_iff, Bool.or_eq_false_iff, Bool.not_eq_true, Bool.not_eq_false, Int.not_lt, Int.not_le, List.length_map, beq_self_eq_true, Bool.true_eq_false, Bool.false_eq_true] at h) <;> (try (exfalso; first | contradiction | omega))))
      all_goals (try simp only [Int.toNat_natCast] at *)
      all_goals first
        | exact ⟨_, _, by omega, ⟨i + 1, max x ((cs.getD i default).num + 1), rfl, ⟨by omega, by rw [hu, if_pos (by simp only [pS, decide_eq_true_eq]; omega), hx]⟩, rfl⟩, (St.imp.of_le (by (refine le_ofL rfl ?_ ?_ <;> (repeat (first | exact trivial | refine ⟨⟨rfl, rfl⟩, ?_⟩ | refine ⟨rfl, .inl rfl, ?_⟩ | refine ⟨rfl, .inr rfl, ?_⟩)))))⟩
        | exact ⟨_, _, by omega, ⟨i + 1, x, rfl, ⟨by omega, by rw [hu, if_neg (by simp only [pS, decide_eq_true_eq]; omega), hx]⟩, rfl⟩, (St.imp.of_le (by (refine le_ofL rfl ?_ ?_ <;> (repeat (first | exact trivial | refine ⟨⟨rfl, rfl⟩, ?_⟩ | refine ⟨rfl, .inl rfl, ?_⟩ | refine ⟨rfl, .inr rfl, ?_⟩)))))⟩
    · repeat' (first | refine W.seq ?_ | refine W.rg ?_ | refine W.dra' ?_ | refine W.block ?_ | refine W.skip ?_ | refine W.exit ?_ | refine W.cond_true' ?_ | refine W.cond_false' ?_ | refine WG.nil ?_ | refine WG.run' (E := env) ?_ | refine WG.gt' ?_ | refine WG.gf' ?_ | refine WG.ixm' (E := env) ?_ | refine WG.ixo' (E := env) ?_ | refine WG.legm' (E := env) ?_ | refine WG.slS' (E := env) ?_ | refine WG.slD' (E := env) ?_ | refine WG.ap' (E := env) ?_ | refine WD.nil ?_ | refine WD.bs' (E := env) ?_ | refine WD.s' (E := env) (t := .d _) ?_ | refine WD.p' ?_ | refine WD.px' ?_ | refine WD.s' (E := env) (t := .ea _ _) ?_ | refine WD.s' (E := env) (t := .lp _ _) ?_ | refine WD.s' (E := env) (t := .og _ _) ?_ | refine WD.s' (E := env) (t := .agg _) ?_ | refine WD.s' (E := env) (t := .tup _) ?_ | refine WD.s' (E := env) (t := .clo _ _) ?_ | refine WD.ixm' (E := env) ?_ | refine WD.ixo' (E := env) ?_ | refine WD.legm' (E := env) ?_ | refine WD.slS' (E := env) ?_ | refine WD.slD' (E := env) ?_ | ((first | refine WG.sp' (fun h => ?_) fun h => ?_ | refine W.cond' (fun h => ?_) fun h => ?_ | refine WD.sp' (fun h => ?_) fun h => ?_) <;> (try simp only [decide_eq_true_eq, decide_eq_false_iff_not, Bool.not_eq_true', Bool.not_eq_false', Bool.and_eq_true, Bool.or_eq_true, Bool.and_eq_false_iff, Bool.or_eq_false_iff, Bool.not_eq_true, Bool.not_eq_false, Int.not_lt, Int.not_le, List.length_map, beq_self_eq_true, Bool.true_eq_false, Bool.false_eq_true] at h) <;> (try (exfalso; first | contradiction | omega))))
      (refine W.ret ?_; (first | refine RetQ.b' ?_ | refine RetQ.i' ?_ | refine RetQ.d' ?_ | refine RetQ.t2' ?_ ?_ | refine RetQ.t3' ?_ ?_ ?_))
      rw [hx, show i = cs.length by omega, List.take_length]
      rfl
  · rw [if_neg hc]
    refine Fun.intro Try.func54 rfl (by kernel_rfl) rfl ?_
    repeat' (first | refine W.seq ?_ | refine W.rg ?_ | refine W.dra' ?_ | refine W.block ?_ | refine W.skip ?_ | refine W.exit ?_ | refine W.cond_true' ?_ | refine W.cond_false' ?_ | refine WG.nil ?_ | refine WG.run' (E := env) ?_ | refine WG.gt' ?_ | refine WG.gf' ?_ | refine WG.ixm' (E := env) ?_ | refine WG.ixo' (E := env) ?_ | refine WG.legm' (E := env) ?_ | refine WG.slS' (E := env) ?_ | refine WG.slD' (E := env) ?_ | refine WG.ap' (E := env) ?_ | refine WD.nil ?_ | refine WD.bs' (E := env) ?_ | refine WD.s' (E := env) (t := .d _) ?_ | refine WD.p' ?_ | refine WD.px' ?_ | refine WD.s' (E := env) (t := .ea _ _) ?_ | refine WD.s' (E := env) (t := .lp _ _) ?_ | refine WD.s' (E := env) (t := .og _ _) ?_ | refine WD.s' (E := env) (t := .agg _) ?_ | refine WD.s' (E := env) (t := .tup _) ?_ | refine WD.s' (E := env) (t := .clo _ _) ?_ | refine WD.ixm' (E := env) ?_ | refine WD.ixo' (E := env) ?_ | refine WD.legm' (E := env) ?_ | refine WD.slS' (E := env) ?_ | refine WD.slD' (E := env) ?_ | refine WG.c (E := env) rfl rfl (ht) rfl rfl ?_ | refine WD.c (E := env) rfl rfl (ht) rfl rfl ?_ | refine WG.co (E := env) rfl rfl (ht) rfl rfl rfl rfl ?_ | refine WG.cx (E := env) rfl (ht) rfl ?_ | ((first | refine WG.sp' (fun h => ?_) fun h => ?_ | refine W.cond' (fun h => ?_) fun h => ?_ | refine WD.sp' (fun h => ?_) fun h => ?_) <;> (try simp only [decide_eq_true_eq, decide_eq_false_iff_not, Bool.not_eq_true', Bool.not_eq_false', Bool.and_eq_true, Bool.or_eq_true, Bool.and_eq_false_iff, Bool.or_eq_false_iff, Bool.not_eq_true, Bool.not_eq_false, Int.not_lt, Int.not_le, List.length_map, beq_self_eq_true, Bool.true_eq_false, Bool.false_eq_true] at h) <;> (try (exfalso; first | contradiction | omega))))
    all_goals (refine W.ret ?_; (first | refine RetQ.b' ?_ | refine RetQ.i' ?_ | refine RetQ.d' ?_ | refine RetQ.t2' ?_ ?_ | refine RetQ.t3' ?_ ?_ ?_))
    all_goals rfl

theorem SlotsOf_both (cs : List Co) (hf : fitsK cs) : ∃ a b : Int, Fun env.P 55 [coresD cs] (.d (.agg [dI a, dI b])) [] ∧ Fun env.P 54 [coresD cs] (.d (.agg [dI a, dI b])) [] :=
  ⟨_, _, SlotsOf_fn cs hf, SlotsOfS_fn cs hf⟩

end Go.Proofs.Yteooogngdejdgaa
