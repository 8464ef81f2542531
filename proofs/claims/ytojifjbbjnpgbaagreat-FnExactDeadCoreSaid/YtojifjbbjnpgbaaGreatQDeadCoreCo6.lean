/-
  The order in which the nodes of a core stand, by the reference. Conditions: right nodes, at most 2^20.
-/
import Derived.Test.YtojifjbbjnpgbaaGreatQDeadCoreCo5
import Derived.Test.YtojifjbbjnpgbaaGreatQDeadCorePgE
set_option linter.unusedVariables false
set_option linter.unusedSimpArgs false
set_option maxRecDepth 100000
namespace Go.Proofs.YtojifjbbjnpgbaaGreat
open Go.RowKit

abbrev natRowsC (l : List Nat) : List (List D) := (intsN l).map intRow

theorem namedC_length (n : Co) : n.named.length = arC n.op := by
  have := arC_le n.op
  simp [Co.named]; omega

theorem kidsC_ar {ns : List Co} {k : Nat} (h : ∀ m ∈ nmC ns k, 0 ≤ m ∧ m < k) : (kidsOf (nmC ns) k).length = arC (ns.getD k default).op := by
  rw [kidsOf_length h]; exact namedC_length _

theorem kidsC_at {ns : List Co} {k : Nat} (h : ∀ m ∈ nmC ns k, 0 ≤ m ∧ m < k) {i : Nat} (hi : i < (kidsOf (nmC ns) k).length) : kidC (ns.getD k default) i = (((kidsOf (nmC ns) k).getD i default : Nat) : Int) := by
  have e := kidsOf_eq h
  have h1 : (nmC ns k).getD i default = ((kidsOf (nmC ns) k).getD i default : Nat) := by
    rw [e]; exact intsN_at _ i hi
  have hi2 : i < arC (ns.getD k default).op := by rw [← kidsC_ar h]; exact hi
  have hle := arC_le (ns.getD k default).op
  rw [← h1]
  have : i = 0 ∨ i = 1 ∨ i = 2 := by omega
  have hg : (nmC ns k).getD i default = kidC (ns.getD k default) i := by
    unfold nmC Co.named
    rw [List.getD_eq_getElem?_getD, List.getElem?_take, if_pos hi2]
    rcases this with rfl | rfl | rfl <;> rfl
  exact hg.symm

set_option maxHeartbeats 4000000 in
theorem l6Order_fn (ns : List Co) (hl : ns.length ≤ 1048) (hok : NcOK ns) : ∀ k, k < ns.length → ∀ out : List Nat, out.length ≤ 4096 + ns.length →
    FunQ env.P 90 [.d (coresD ns), .d (dI k), .og 0 0] [.gr 1 2 (natRowsC out) 0 false] (just (.og 1 0) [.dead, .gr 1 2 (natRowsC (ordM (nmC ns) ns.length k out)) 0 false]) := fun k => by
  induction k using Nat.strongRecOn with
  | _ k ih =>
    intro hk out hout
    have hka := kidsC_ar (hok k hk)
    have hkat := fun i hi => kidsC_at (hok k hk) (i := i) hi
    have hlt : ∀ j ∈ kidsOf (nmC ns) k, j < k := fun j hj => kidsOf_lt hj
    have hord := ordM_p (nmC ns) ns.length
    rw [ordM_eq]
    generalize kidsOf (nmC ns) k = ks at hka hkat hlt
    have hkl := arC_le (ns.getD k default).op
    refine FunQ.intro Tryz.func90 rfl (by kernel_rfl) rfl ?_
    refine W.imp ((St.imp.mov 0 0 rfl rfl).trans (St.imp.of_le (S' := ⟨ofL [(0, .d (coresD ns)), (1, vI .i64 k), (2, .og 1 0)], [.dead, .gr 1 2 (natRowsC out) 0 false]⟩) (by (refine le_ofL rfl ?_ ?_ <;> (repeat (first | exact trivial | refine ⟨⟨rfl, rfl⟩, ?_⟩ | refine ⟨rfl, .inl rfl, ?_⟩ | refine ⟨rfl, .inr rfl, ?_⟩)))))) ?_
    repeat (first | refine W.seq ?_ | refine W.rg ?_ | refine W.dra' ?_ | refine W.block ?_ | refine W.skip ?_ | refine W.exit ?_ | refine W.cond_true' ?_ | refine W.cond_false' ?_ | refine WG.nil ?_ | refine WG.run' (E := env) ?_ | refine WG.gt' ?_ | refine WG.gf' ?_ | refine WG.ixm' (E := env) ?_ | refine WG.ixo' (E := env) ?_ | refine WG.legm' (E := env) ?_ | refine WG.slS' (E := env) ?_ | refine WG.slD' (E := env) ?_ | refine WG.ap' (E := env) ?_ | refine WD.nil ?_ | refine WD.bs' (E := env) ?_ | refine WD.s' (E := env) (t := .d _) ?_ | refine WD.p' ?_ | refine WD.px' ?_ | refine WD.s' (E := env) (t := .ea _ _) ?_ | refine WD.s' (E := env) (t := .lp _ _) ?_ | refine WD.s' (E := env) (t := .og _ _) ?_ | refine WD.s' (E := env) (t := .agg _) ?_ | refine WD.s' (E := env) (t := .tup _) ?_ | refine WD.s' (E := env) (t := .clo _ _) ?_ | refine WD.ixm' (E := env) ?_ | refine WD.ixo' (E := env) ?_ | refine WD.legm' (E := env) ?_ | refine WD.slS' (E := env) ?_ | refine WD.slD' (E := env) ?_)
    have hat : ns.getD (Int.toNat k) default = ns.getD k default := by simp
    rw [hat]
    generalize ns.getD k default = n at hka hkat hkl
    clear hat
    have hks := l6Kids_fn n.op
    rw [← hka] at hks
    refine W.loopI (fun m S => ∃ (i : Nat) (o : List Nat), m = ks.length - i ∧ (i ≤ ks.length ∧ o.length ≤ 6000 ∧ ordL (nmC ns) ns.length ks out = ordL (nmC ns) ns.length (ks.drop i) o) ∧
      S = ⟨ofL [(0, .d (coresD ns)), (1, vI .i64 k), (2, .og 1 0), (7, .lp 2 0), (8, vI .i64 i)], [.dead, .gr 1 2 (natRowsC o) 0 false, .pv (n.row.map .d)]⟩) _ _ ⟨0, out, rfl, ⟨by omega, by omega, rfl⟩, rfl⟩ (St.imp.of_le (by (refine le_ofL rfl ?_ ?_ <;> (repeat (first | exact trivial | refine ⟨⟨rfl, rfl⟩, ?_⟩ | refine ⟨rfl, .inl rfl, ?_⟩ | refine ⟨rfl, .inr rfl, ?_⟩))))) ?_
    rintro m S ⟨i, o, rfl, ⟨hi, ho, he⟩, rfl⟩
    have hlo : (natRowsC o).length = o.length := by simp [intsN]
    refine W.seq ?_
    refine W.seq ?_
    refine W.jb 24 (decide (i < ks.length ∧ o.length ≤ ns.length)) ?_ ?_
    · repeat' (first | refine WG.nil ?_ | refine WG.run' (E := env) ?_ | refine WG.gt' ?_ | refine WG.gf' ?_ | refine WG.ixm' (E := env) ?_ | refine WG.ixo' (E := env) ?_ | refine WG.legm' (E := env) ?_ | refine WG.slS' (E := env) ?_ | refine WG.slD' (E := env) ?_ | refine WG.ap' (E := env) ?_ | refine WG.c (E := env) rfl rfl (hks) rfl rfl ?_ | refine WD.c (E := env) rfl rfl (hks) rfl rfl ?_ | refine WG.co (E := env) rfl rfl (hks) rfl rfl rfl rfl ?_ | refine WG.cx (E := env) rfl (hks) rfl ?_ | (refine WG.sp' (fun h => ?_) fun h => ?_ <;> (try simp only [decide_eq_true_eq, decide_eq_false_iff_not, Bool.not_eq_true', Bool.not_eq_false', Bool.and_eq_true, Bool.or_eq_true, Bool.and_eq_false_iff, Bool.or_eq_false_iff, Bool.not_eq_true, Bool.not_eq_false, Int.not_lt, Int.not_le, List.length_map, beq_self_eq_true, Bool.true_eq_false, Bool.false_eq_true] at h) <;> (try (exfalso; first | contradiction | omega))))
      all_goals refine ⟨rfl, rfl, _, rfl, ?_, by (repeat refine leU.step rfl ?_) <;> first | exact leU.forget (leU.refl _) | exact leU.refl _ | (repeat (first | exact leU.forget (leU.refl _) | exact leU.refl _ | refine leU.step rfl ?_ | refine leU.same rfl ?_))⟩
      all_goals (simp only [List.length_map, intsN] at *; simp [*]; try omega)
    refine W.cond rfl (fun e1 => ?_) (fun e1 => ?_)
    · simp only [decide_eq_true_eq] at e1
      have hkd := l6Kid_fn n i (by omega)
      have hm := getD_mem' e1.1
      have hj := hlt _ hm
      have ih' := ih _ hj (by omega) o (by omega)
      rw [← hkat i e1.1] at ih'
      obtain ⟨_, _, _, hb⟩ := hord (ks.getD i default) o
      rw [drop_step e1.1, ordL_cons e1.2] at he
      repeat' (first | refine WG.cq (E := env) (t' := .og 3 0) (ob2 := [.dead, .dead, .pv (n.row.map .d), .gr 1 2 (natRowsC (ordM (nmC ns) ns.length (ks.getD i default) o)) 0 false]) [1] [0] false rfl rfl ih' rfl rfl rfl rfl rfl rfl rfl ⟨rfl, trivial⟩ (.inl rfl) rfl (fun h => nomatch h) rfl rfl ?_ | refine W.seq ?_ | refine W.rg ?_ | refine W.dra' ?_ | refine W.block ?_ | refine W.skip ?_ | refine W.exit ?_ | refine W.cond_true' ?_ | refine W.cond_false' ?_ | refine WG.nil ?_ | refine WG.run' (E := env) ?_ | refine WG.gt' ?_ | refine WG.gf' ?_ | refine WG.ixm' (E := env) ?_ | refine WG.ixo' (E := env) ?_ | refine WG.legm' (E := env) ?_ | refine WG.slS' (E := env) ?_ | refine WG.slD' (E := env) ?_ | refine WG.ap' (E := env) ?_ | refine WD.nil ?_ | refine WD.bs' (E := env) ?_ | refine WD.s' (E := env) (t := .d _) ?_ | refine WD.p' ?_ | refine WD.px' ?_ | refine WD.s' (E := env) (t := .ea _ _) ?_ | refine WD.s' (E := env) (t := .lp _ _) ?_ | refine WD.s' (E := env) (t := .og _ _) ?_ | refine WD.s' (E := env) (t := .agg _) ?_ | refine WD.s' (E := env) (t := .tup _) ?_ | refine WD.s' (E := env) (t := .clo _ _) ?_ | refine WD.ixm' (E := env) ?_ | refine WD.ixo' (E := env) ?_ | refine WD.legm' (E := env) ?_ | refine WD.slS' (E := env) ?_ | refine WD.slD' (E := env) ?_ | refine WG.c (E := env) rfl rfl (hkd) rfl rfl ?_ | refine WD.c (E := env) rfl rfl (hkd) rfl rfl ?_ | refine WG.co (E := env) rfl rfl (hkd) rfl rfl rfl rfl ?_ | refine WG.cx (E := env) rfl (hkd) rfl ?_ | ((first | refine WG.sp' (fun h => ?_) fun h => ?_ | refine W.cond' (fun h => ?_) fun h => ?_ | refine WD.sp' (fun h => ?_) fun h => ?_) <;> (try simp only [decide_eq_true_eq, decide_eq_false_iff_not, Bool.not_eq_true', Bool.not_eq_false', Bool.and_eq_true, Bool.or_eq_true, Bool.and_eq_false_iff, Bool.or_eq_false_iff, Bool.not_eq_true, Bool.not_eq_false, Int.not_lt, Int.not_le, List.length_map, beq_self_eq_true, Bool.true_eq_false, Bool.false_eq_true] at h) <;> (try (exfalso; first | contradiction | omega))))
      exact ⟨_, _, by omega, ⟨i + 1, _, rfl, ⟨by omega, by omega, he⟩, rfl⟩, (St.imp.movD 3 0 1 rfl rfl).trans (St.imp.of_le (by (refine le_ofL rfl ?_ ?_ <;> (repeat (first | exact trivial | refine ⟨⟨rfl, rfl⟩, ?_⟩ | refine ⟨rfl, .inl rfl, ?_⟩ | refine ⟨rfl, .inr rfl, ?_⟩)))))⟩
    · rw [decide_eq_false_iff_not] at e1
      have hfin : ordL (nmC ns) ns.length ks out = o := by
        rw [he]
        by_cases hik : i < ks.length
        · exact ordL_over (by omega)
        · rw [List.drop_eq_nil_of_le (by omega)]; rfl
      rw [hfin]
      have hrow : natRowsC (o ++ [k]) = natRowsC o ++ [[dI k]] := by simp [natRowsC, intsN]
      rw [hrow]
      repeat' (first | refine WG.ap (E := env) rfl rfl rfl rfl rfl rfl rfl rfl rfl rfl rfl (by rw [hlo]; show (o.length + 1) * 8 ≤ _; omega) ?_ | refine W.seq ?_ | refine W.rg ?_ | refine W.dra' ?_ | refine W.block ?_ | refine W.skip ?_ | refine W.exit ?_ | refine W.cond_true' ?_ | refine W.cond_false' ?_ | refine WG.nil ?_ | refine WG.run' (E := env) ?_ | refine WG.gt' ?_ | refine WG.gf' ?_ | refine WG.ixm' (E := env) ?_ | refine WG.ixo' (E := env) ?_ | refine WG.legm' (E := env) ?_ | refine WG.slS' (E := env) ?_ | refine WG.slD' (E := env) ?_ | refine WG.ap' (E := env) ?_ | refine WD.nil ?_ | refine WD.bs' (E := env) ?_ | refine WD.s' (E := env) (t := .d _) ?_ | refine WD.p' ?_ | refine WD.px' ?_ | refine WD.s' (E := env) (t := .ea _ _) ?_ | refine WD.s' (E := env) (t := .lp _ _) ?_ | refine WD.s' (E := env) (t := .og _ _) ?_ | refine WD.s' (E := env) (t := .agg _) ?_ | refine WD.s' (E := env) (t := .tup _) ?_ | refine WD.s' (E := env) (t := .clo _ _) ?_ | refine WD.ixm' (E := env) ?_ | refine WD.ixo' (E := env) ?_ | refine WD.legm' (E := env) ?_ | refine WD.slS' (E := env) ?_ | refine WD.slD' (E := env) ?_ | fail | ((first | refine WG.sp' (fun h => ?_) fun h => ?_ | refine W.cond' (fun h => ?_) fun h => ?_ | refine WD.sp' (fun h => ?_) fun h => ?_) <;> (try simp only [decide_eq_true_eq, decide_eq_false_iff_not, Bool.not_eq_true', Bool.not_eq_false', Bool.and_eq_true, Bool.or_eq_true, Bool.and_eq_false_iff, Bool.or_eq_false_iff, Bool.not_eq_true, Bool.not_eq_false, Int.not_lt, Int.not_le, List.length_map, beq_self_eq_true, Bool.true_eq_false, Bool.false_eq_true] at h) <;> (try (exfalso; first | contradiction | omega))))
      refine W.imp (S' := ⟨ofL [(6, .og 1 0)], [.dead, .gr 1 2 (natRowsC o ++ [[dI k]]) 0 false]⟩) ((St.imp.rev 1 1 rfl).trans (St.imp.of_le (by (refine le_ofL rfl ?_ ?_ <;> (repeat (first | exact trivial | refine ⟨⟨rfl, rfl⟩, ?_⟩ | refine ⟨rfl, .inl rfl, ?_⟩ | refine ⟨rfl, .inr rfl, ?_⟩)))))) ?_
      refine W.ret ?_
      refine RetQ.r (t := .og 1 0) (ob := [.dead, .gr 1 2 (natRowsC o ++ [[dI k]]) 0 false]) ⟨rfl, rfl⟩ (RetQ.mk (.inl rfl) rfl (by first | trivial | exact resOK_of (E := env) rfl) rfl rfl ?_ rfl)
      exact ⟨rfl, .inl rfl, rfl, .inl rfl, trivial⟩

theorem l1MaxC_fn (a b : Int) : Fun env.P 93 [dI a, dI b] (.d (dI (max a b))) [] := by
  refine Fun.intro Tryz.func93 rfl (by kernel_rfl) rfl ?_
  repeat' (first | refine W.seq ?_ | refine W.rg ?_ | refine W.dra' ?_ | refine W.block ?_ | refine W.skip ?_ | refine W.exit ?_ | refine W.cond_true' ?_ | refine W.cond_false' ?_ | refine WG.nil ?_ | refine WG.run' (E := env) ?_ | refine WG.gt' ?_ | refine WG.gf' ?_ | refine WG.ixm' (E := env) ?_ | refine WG.ixo' (E := env) ?_ | refine WG.legm' (E := env) ?_ | refine WG.slS' (E := env) ?_ | refine WG.slD' (E := env) ?_ | refine WG.ap' (E := env) ?_ | refine WD.nil ?_ | refine WD.bs' (E := env) ?_ | refine WD.s' (E := env) (t := .d _) ?_ | refine WD.p' ?_ | refine WD.px' ?_ | refine WD.s' (E := env) (t := .ea _ _) ?_ | refine WD.s' (E := env) (t := .lp _ _) ?_ | refine WD.s' (E := env) (t := .og _ _) ?_ | refine WD.s' (E := env) (t := .agg _) ?_ | refine WD.s' (E := env) (t := .tup _) ?_ | refine WD.s' (E := env) (t := .clo _ _) ?_ | refine WD.ixm' (E := env) ?_ | refine WD.ixo' (E := env) ?_ | refine WD.legm' (E := env) ?_ | refine WD.slS' (E := env) ?_ | refine WD.slD' (E := env) ?_ | ((first | refine WG.sp' (fun h => ?_) fun h => ?_ | refine W.cond' (fun h => ?_) fun h => ?_ | refine WD.sp' (fun h => ?_) fun h => ?_) <;> (try simp only [decide_eq_true_eq, decide_eq_false_iff_not, Bool.not_eq_true', Bool.not_eq_false', Bool.and_eq_true, Bool.or_eq_true, Bool.and_eq_false_iff, Bool.or_eq_false_iff, Bool.not_eq_true, Bool.not_eq_false, Int.not_lt, Int.not_le, List.length_map, beq_self_eq_true, Bool.true_eq_false, Bool.false_eq_true] at h) <;> (try (exfalso; first | contradiction | omega))))
  all_goals (refine W.ret ?_; (first | refine RetQ.b' ?_ | refine RetQ.i' ?_ | refine RetQ.d' ?_ | refine RetQ.t2' ?_ ?_ | refine RetQ.t3' ?_ ?_ ?_))
  all_goals omega

/-- The depths so far: those ahead of i are known, the one at i is x, the others are 0. -/
def dsY (f : Nat → Nat) (n i : Nat) (x : Int) : List Int := (List.range n).map fun j => if j < i then ((f j : Nat) : Int) else if j = i then x else 0

theorem dsY_length (f : Nat → Nat) (n i : Nat) (x : Int) : (dsY f n i x).length = n := by simp [dsY]
theorem dsY_at (f : Nat → Nat) (n i : Nat) (x : Int) {j : Nat} (h : j < n) : (dsY f n i x).getD j default = if j < i then ((f j : Nat) : Int) else if j = i then x else 0 := by simp [dsY, h]
theorem dsY_set (f : Nat → Nat) (n i : Nat) (x y : Int) : (dsY f n i x).set i y = dsY f n i y := by
  apply List.ext_getElem
  · simp [dsY]
  · intro j h1 h2
    simp only [dsY, List.length_map, List.length_range] at h2
    rw [List.getElem_set]
    simp only [dsY, List.getElem_map, List.getElem_range]
    by_cases h : i = j
    · subst h; simp
    · rw [if_neg h]
      by_cases hj : j < i
      · rw [if_pos hj, if_pos hj]
      · rw [if_neg hj, if_neg hj, if_neg (fun e => h e.symm), if_neg (fun e => h e.symm)]
theorem dsY_next (f : Nat → Nat) (n i : Nat) : dsY f n i (f i) = dsY f n (i + 1) 0 := by
  unfold dsY
  refine List.map_congr_left fun j _ => ?_
  by_cases h : j < i
  · rw [if_pos h, if_pos (by omega)]
  · rw [if_neg h]
    by_cases e : j = i
    · subst e; simp
    · rw [if_neg e, if_neg (by omega)]
      split <;> rfl
theorem dsY_zero (f : Nat → Nat) (n : Nat) : dsY f n 0 0 = List.replicate n 0 := by
  unfold dsY
  apply List.ext_getElem
  · simp
  · intro j h1 h2
    simp

end Go.Proofs.YtojifjbbjnpgbaaGreat
