/-
  The order in which the nodes of a tree stand, by the reference. Conditions: right nodes, at most 2^20.
-/
import Derived.Test.YtmmjbpgdkokjgaaGreatQLowerTreeTr4
import Derived.Test.YtmmjbpgdkokjgaaGreatQLowerTreePgE
set_option linter.unusedVariables false
set_option linter.unusedSimpArgs false
set_option maxRecDepth 100000
namespace Go.Proofs.YtmmjbpgdkokjgaaGreat
open Go.RowKit

abbrev natRows (l : List Nat) : List (List D) := (intsN l).map intRow

theorem named_length (n : Nd) : n.named.length = arN n.op := by
  have := arN_le n.op
  simp [Nd.named]; omega

theorem kids_arN {ns : List Nd} {k : Nat} (h : ∀ m ∈ nmT ns k, 0 ≤ m ∧ m < k) : (kidsOf (nmT ns) k).length = arN (ns.getD k default).op := by
  rw [kidsOf_length h]; exact named_length _

theorem kids_at {ns : List Nd} {k : Nat} (h : ∀ m ∈ nmT ns k, 0 ≤ m ∧ m < k) {i : Nat} (hi : i < (kidsOf (nmT ns) k).length) : kidI (ns.getD k default) i = (((kidsOf (nmT ns) k).getD i default : Nat) : Int) := by
  have e := kidsOf_eq h
  have h1 : (nmT ns k).getD i default = ((kidsOf (nmT ns) k).getD i default : Nat) := by
    rw [e]; exact intsN_at _ i hi
  have hi2 : i < arN (ns.getD k default).op := by rw [← kids_arN h]; exact hi
  have hle := arN_le (ns.getD k default).op
  rw [← h1]
  have : i = 0 ∨ i = 1 ∨ i = 2 := by omega
  have hg : (nmT ns k).getD i default = kidI (ns.getD k default) i := by
    unfold nmT Nd.named
    rw [List.getD_eq_getElem?_getD, List.getElem?_take, if_pos hi2]
    rcases this with rfl | rfl | rfl <;> rfl
  exact hg.symm

set_option maxHeartbeats 4000000 in
theorem l5Order_fn (ns : List Nd) (hl : ns.length ≤ 1048) (hok : NmOK ns) : ∀ k, k < ns.length → ∀ out : List Nat, out.length ≤ 4096 + ns.length →
    FunQ env.P 58 [.d (nodesD ns), .d (dI k), .og 0 0] [.gr 1 2 (natRows out) 0 false] (just (.og 1 0) [.dead, .gr 1 2 (natRows (ordM (nmT ns) ns.length k out)) 0 false]) := fun k => by
  induction k using Nat.strongRecOn with
  | _ k ih =>
    intro hk out hout
    have hka := kids_arN (hok k hk)
    have hkat := fun i hi => kids_at (hok k hk) (i := i) hi
    have hlt : ∀ j ∈ kidsOf (nmT ns) k, j < k := fun j hj => kidsOf_lt hj
    have hord := ordM_p (nmT ns) ns.length
    rw [ordM_eq]
    generalize kidsOf (nmT ns) k = ks at hka hkat hlt
    have hkl := arN_le (ns.getD k default).op
    refine FunQ.intro Tryz.func58 rfl (by kernel_rfl) rfl ?_
    refine W.imp ((St.imp.mov 0 0 rfl rfl).trans (St.imp.of_le (S' := ⟨ofL [(0, .d (nodesD ns)), (1, vI .i64 k), (2, .og 1 0)], [.dead, .gr 1 2 (natRows out) 0 false]⟩) (by (refine le_ofL rfl ?_ ?_ <;> (repeat (first | exact trivial | refine ⟨⟨rfl, rfl⟩, ?_⟩ | refine ⟨rfl, .inl rfl, ?_⟩ | refine ⟨rfl, .inr rfl, ?_⟩)))))) ?_
    repeat (first | refine W.seq ?_ | refine W.rg ?_ | refine W.block ?_ | refine W.skip ?_ | refine W.exit ?_ | refine WG.nil ?_ | refine WG.run' (E := env) ?_ | refine WG.ixm' (E := env) ?_)
    have hat : ns.getD (Int.toNat k) default = ns.getD k default := by simp
    rw [hat]
    generalize ns.getD k default = n at hka hkat hkl
    clear hat
    have hks := l5Kids_fn n.op
    rw [← hka] at hks
    refine W.loopI (fun m S => ∃ (i : Nat) (o : List Nat), m = ks.length - i ∧ (i ≤ ks.length ∧ o.length ≤ 6000 ∧ ordL (nmT ns) ns.length ks out = ordL (nmT ns) ns.length (ks.drop i) o) ∧
      S = ⟨ofL [(0, .d (nodesD ns)), (1, vI .i64 k), (2, .og 1 0), (7, .lp 2 0), (8, vI .i64 i)], [.dead, .gr 1 2 (natRows o) 0 false, .pv (n.row.map .d)]⟩) _ _ ⟨0, out, rfl, ⟨by omega, by omega, rfl⟩, rfl⟩ (St.imp.of_le (by (refine le_ofL rfl ?_ ?_ <;> (repeat (first | exact trivial | refine ⟨⟨rfl, rfl⟩, ?_⟩ | refine ⟨rfl, .inl rfl, ?_⟩ | refine ⟨rfl, .inr rfl, ?_⟩))))) ?_
    rintro m S ⟨i, o, rfl, ⟨hi, ho, he⟩, rfl⟩
    have hlo : (natRows o).length = o.length := by simp [intsN]
    refine W.seq ?_
    refine W.seq ?_
    refine W.jb 24 (decide (i < ks.length ∧ o.length ≤ ns.length)) ?_ ?_
    · repeat' (first | refine WG.nil ?_ | refine WG.run' (E := env) ?_ | refine WG.ixm' (E := env) ?_ | refine WG.c (E := env) rfl rfl (hks) rfl rfl ?_ | (refine WG.sp' (fun h => ?_) fun h => ?_ <;> (try simp only [atS, List.length_map, beq_self_eq_true] at h) <;> (try (exfalso; first | contradiction | omega))))
      all_goals refine ⟨rfl, rfl, _, rfl, ?_, by (repeat refine leU.step rfl ?_) <;> first | exact leU.forget (leU.refl _) | exact leU.refl _ | (repeat (first | exact leU.forget (leU.refl _) | exact leU.refl _ | refine leU.step rfl ?_))⟩
      all_goals (simp only [List.length_map, intsN] at *; simp [*]; try omega)
    refine W.cond rfl (fun e1 => ?_) (fun e1 => ?_)
    · simp only [decide_eq_true_eq] at e1
      have hkd := l5Kid_fn n i (by omega)
      have hm := getD_mem' e1.1
      have hj := hlt _ hm
      have ih' := ih _ hj (by omega) o (by omega)
      rw [← hkat i e1.1] at ih'
      obtain ⟨_, _, _, hb⟩ := hord (ks.getD i default) o
      rw [drop_step e1.1, ordL_cons e1.2] at he
      repeat' (first | refine WG.cq (E := env) (t' := .og 3 0) (ob2 := [.dead, .dead, .pv (n.row.map .d), .gr 1 2 (natRows (ordM (nmT ns) ns.length (ks.getD i default) o)) 0 false]) [1] [0] false rfl rfl ih' rfl rfl rfl rfl rfl rfl rfl ⟨rfl, trivial⟩ (.inl rfl) rfl (fun h => nomatch h) rfl rfl ?_ | refine W.seq ?_ | refine W.rg ?_ | refine W.block ?_ | refine W.skip ?_ | refine W.exit ?_ | refine WG.nil ?_ | refine WG.run' (E := env) ?_ | refine WG.ixm' (E := env) ?_ | refine WG.c (E := env) rfl rfl (hkd) rfl rfl ?_ | ((refine WG.sp' (fun h => ?_) fun h => ?_) <;> (try simp only [atS, List.length_map, beq_self_eq_true] at h) <;> (try (exfalso; first | contradiction | omega))))
      exact ⟨_, _, by omega, ⟨i + 1, _, rfl, ⟨by omega, by omega, he⟩, rfl⟩, (St.imp.movD 3 0 1 rfl rfl).trans (St.imp.of_le (by (refine le_ofL rfl ?_ ?_ <;> (repeat (first | exact trivial | refine ⟨⟨rfl, rfl⟩, ?_⟩ | refine ⟨rfl, .inl rfl, ?_⟩ | refine ⟨rfl, .inr rfl, ?_⟩)))))⟩
    · rw [decide_eq_false_iff_not] at e1
      have hfin : ordL (nmT ns) ns.length ks out = o := by
        rw [he]
        by_cases hik : i < ks.length
        · exact ordL_over (by omega)
        · rw [List.drop_eq_nil_of_le (by omega)]; rfl
      rw [hfin]
      have hrow : natRows (o ++ [k]) = natRows o ++ [[dI k]] := by simp [natRows, intsN]
      rw [hrow]
      repeat' (first | refine WG.ap (E := env) rfl rfl rfl rfl rfl rfl rfl rfl rfl rfl rfl (by rw [hlo]; show (o.length + 1) * 8 ≤ _; omega) ?_ | refine W.seq ?_ | refine W.rg ?_ | refine W.block ?_ | refine W.skip ?_ | refine W.exit ?_ | refine WG.nil ?_ | refine WG.run' (E := env) ?_ | refine WG.ixm' (E := env) ?_ | fail | ((refine WG.sp' (fun h => ?_) fun h => ?_) <;> (try simp only [atS, List.length_map, beq_self_eq_true] at h) <;> (try (exfalso; first | contradiction | omega))))
      refine W.imp (S' := ⟨ofL [(6, .og 1 0)], [.dead, .gr 1 2 (natRows o ++ [[dI k]]) 0 false]⟩) ((St.imp.rev 1 1 rfl).trans (St.imp.of_le (by (refine le_ofL rfl ?_ ?_ <;> (repeat (first | exact trivial | refine ⟨⟨rfl, rfl⟩, ?_⟩ | refine ⟨rfl, .inl rfl, ?_⟩ | refine ⟨rfl, .inr rfl, ?_⟩)))))) ?_
      refine W.ret ?_
      refine RetQ.r (t := .og 1 0) (ob := [.dead, .gr 1 2 (natRows o ++ [[dI k]]) 0 false]) ⟨rfl, rfl⟩ (RetQ.mk (.inl rfl) rfl (by first | trivial | exact resOK_of (E := env) rfl) rfl rfl ?_ rfl)
      exact ⟨rfl, .inl rfl, rfl, .inl rfl, trivial⟩

theorem l1Max_fn (a b : Int) : Fun env.P 89 [dI a, dI b] (.d (dI (max a b))) [] := by
  refine Fun.intro Tryz.func89 rfl (by kernel_rfl) rfl ?_
  repeat' (first | refine W.seq ?_ | refine W.rg ?_ | refine W.skip ?_ | refine WG.nil ?_ | refine WG.run' (E := env) ?_ | ((refine W.cond' (fun h => ?_) fun h => ?_) <;> (try simp only [atS, List.length_map, beq_self_eq_true] at h) <;> (try (exfalso; first | contradiction | omega))))
  all_goals (refine W.ret ?_; (first | refine RetQ.i' ?_))
  all_goals omega

/-- The depths so far: those ahead of i are known, the one at i is x, the others are 0. -/
def dsX (f : Nat → Nat) (n i : Nat) (x : Int) : List Int := (List.range n).map fun j => if j < i then ((f j : Nat) : Int) else if j = i then x else 0

theorem dsX_length (f : Nat → Nat) (n i : Nat) (x : Int) : (dsX f n i x).length = n := by simp [dsX]
theorem dsX_at (f : Nat → Nat) (n i : Nat) (x : Int) {j : Nat} (h : j < n) : (dsX f n i x).getD j default = if j < i then ((f j : Nat) : Int) else if j = i then x else 0 := by simp [dsX, h]
theorem dsX_set (f : Nat → Nat) (n i : Nat) (x y : Int) : (dsX f n i x).set i y = dsX f n i y := by
  apply List.ext_getElem
  · simp [dsX]
  · intro j h1 h2
    simp only [dsX, List.length_map, List.length_range] at h2
    rw [List.getElem_set]
    simp only [dsX, List.getElem_map, List.getElem_range]
    by_cases h : i = j
    · subst h; simp
    · rw [if_neg h]
      by_cases hj : j < i
      · rw [if_pos hj, if_pos hj]
      · rw [if_neg hj, if_neg hj, if_neg (fun e => h e.symm), if_neg (fun e => h e.symm)]
theorem dsX_next (f : Nat → Nat) (n i : Nat) : dsX f n i (f i) = dsX f n (i + 1) 0 := by
  unfold dsX
  refine List.map_congr_left fun j _ => ?_
  by_cases h : j < i
  · rw [if_pos h, if_pos (by omega)]
  · rw [if_neg h]
    by_cases e : j = i
    · subst e; simp
    · rw [if_neg e, if_neg (by omega)]
      split <;> rfl
theorem dsX_zero (f : Nat → Nat) (n : Nat) : dsX f n 0 0 = List.replicate n 0 := by
  unfold dsX
  apply List.ext_getElem
  · simp
  · intro j h1 h2
    simp

set_option maxHeartbeats 4000000 in
theorem l5Deep_fn (ns : List Nd) (hl : ns.length ≤ 1048) (hok : NmOK ns) : Fun env.P 59 [nodesD ns] (.d (dI (maxL (nestM (nmT ns)) (List.range ns.length) : Nat))) [] := by
  have hnest := nestM_le (nmT ns)
  refine Fun.intro Tryz.func59 rfl (by kernel_rfl) rfl ?_
  repeat' (first | refine W.seq ?_ | refine W.rg ?_ | refine W.block ?_ | refine W.skip ?_ | refine W.exit ?_ | refine WG.nil ?_ | refine WG.run' (E := env) ?_ | refine WG.ixm' (E := env) ?_ | ((refine W.cond' (fun h => ?_) fun h => ?_) <;> (try simp only [atS, List.length_map, beq_self_eq_true] at h) <;> (try (exfalso; first | contradiction | omega))))
  refine WG.mk (E := env) (z := 1) (zs := [dI 0]) rfl rfl rfl rfl rfl rfl rfl rfl rfl rfl rfl ?_ ?_
  · refine ⟨by simp, by simp, ?_⟩
    show ((8 : Nat) : Int) * _ ≤ _
    simp; omega
  rw [show List.replicate (((ns.map Nd.row).length : Int)).toNat [dI 0] = (dsX (nestM (nmT ns)) ns.length 0 0).map intRow by rw [dsX_zero]; simp]
  repeat' (first | refine W.seq ?_ | refine W.rg ?_ | refine W.block ?_ | refine W.skip ?_ | refine W.exit ?_ | refine WG.nil ?_ | refine WG.run' (E := env) ?_ | refine WG.ixm' (E := env) ?_ | ((refine W.cond' (fun h => ?_) fun h => ?_) <;> (try simp only [atS, List.length_map, beq_self_eq_true] at h) <;> (try (exfalso; first | contradiction | omega))))
  refine W.loopI (fun m S => ∃ (i : Nat) (x : Int), m = ns.length - i ∧ (i ≤ ns.length ∧ x = (maxL (nestM (nmT ns)) (List.range i) : Nat)) ∧
    S = ⟨ofL [(0, .d (nodesD ns)), (3, .og 0 0), (4, vI .i64 x), (5, vI .i64 i)], [.gr 1 2 ((dsX (nestM (nmT ns)) ns.length i 0).map intRow) 0 false]⟩) _ _ ⟨0, 0, rfl, ⟨by omega, by simp [maxL]⟩, rfl⟩ (St.imp.of_le (by (refine le_ofL rfl ?_ ?_ <;> (repeat (first | exact trivial | refine ⟨⟨rfl, rfl⟩, ?_⟩ | refine ⟨rfl, .inl rfl, ?_⟩ | refine ⟨rfl, .inr rfl, ?_⟩))))) ?_
  rintro m S ⟨i, x, rfl, ⟨hi, hx⟩, rfl⟩
  by_cases hin : i < ns.length
  · have hka := kids_arN (hok i hin)
    have hkat := fun q hq => kids_at (hok i hin) (i := q) hq
    have hlt : ∀ j ∈ kidsOf (nmT ns) i, j < i := fun j hj => kidsOf_lt hj
    have heq := nestM_eq (nmT ns) i
    generalize kidsOf (nmT ns) i = ks at hka hkat hlt heq
    have hkl := arN_le (ns.getD i default).op
    repeat (first | refine W.seq ?_ | refine W.rg ?_ | refine W.block ?_ | refine W.skip ?_ | refine W.exit ?_ | refine WG.nil ?_ | refine WG.run' (E := env) ?_ | refine WG.ixm' (E := env) ?_)
    refine W.cond rfl (fun e1 => ?_) (fun e1 => ?_)
    rotate_left
    · exfalso; simp at e1; omega
    repeat (first | refine W.seq ?_ | refine W.rg ?_ | refine W.block ?_ | refine W.skip ?_ | refine W.exit ?_ | refine WG.nil ?_ | refine WG.run' (E := env) ?_ | refine WG.ixm' (E := env) ?_)
    have hat : ns.getD (Int.toNat (i : Int)) default = ns.getD i default := by simp
    have hks : Fun env.P 27 [dI (ns.getD (Int.toNat (i : Int)) default).op] (.d (dI ks.length)) [] := by rw [hat, hka]; exact l5Kids_fn _
    refine W.loopI (fun m S => ∃ (q : Nat) (y : Int), m = ks.length - q ∧ (q ≤ ks.length ∧ y = (maxL (nestM (nmT ns)) (ks.take q) : Nat)) ∧
      S = ⟨ofL [(0, .d (nodesD ns)), (3, .og 0 0), (4, vI .i64 x), (5, vI .i64 i), (6, vI .i64 q)], [.gr 1 2 ((dsX (nestM (nmT ns)) ns.length i y).map intRow) 0 false]⟩) _ _ ⟨0, 0, rfl, ⟨by omega, by simp [maxL]⟩, rfl⟩ (St.imp.of_le (by (refine le_ofL rfl ?_ ?_ <;> (repeat (first | exact trivial | refine ⟨⟨rfl, rfl⟩, ?_⟩ | refine ⟨rfl, .inl rfl, ?_⟩ | refine ⟨rfl, .inr rfl, ?_⟩))))) ?_
    rintro m S ⟨q, y, rfl, ⟨hq, hy⟩, rfl⟩
    have hdl := dsX_length (nestM (nmT ns)) ns.length i y
    have hmy : maxL (nestM (nmT ns)) (ks.take q) ≤ 2096 := maxL_le (by omega) fun j hj => by
      have := hlt j (List.mem_of_mem_take hj)
      have := hnest j
      omega
    by_cases hqk : q < ks.length
    · have hkd : Fun env.P 60 [.agg (ns.getD (Int.toNat (i : Int)) default).row, dI q] (.d (dI ((ks.getD q default : Nat) : Int))) [] := by rw [hat, ← hkat q hqk]; exact l5Kid_fn _ _ (by omega)
      have hjl := hlt _ (getD_mem' hqk)
      generalize hkj : ks.getD q default = j at hkd hjl
      have hnj := hnest j
      have ei : (dsX (nestM (nmT ns)) ns.length i y).getD (Int.toNat (i : Int)) default = y := by
        rw [Int.toNat_natCast, dsX_at _ _ _ _ hin, if_neg (by omega), if_pos rfl]
      have ej : (dsX (nestM (nmT ns)) ns.length i y).getD (Int.toNat (j : Int)) default = ((nestM (nmT ns) j : Nat) : Int) := by
        rw [Int.toNat_natCast, dsX_at _ _ _ _ (by omega), if_pos hjl]
      have ri : ((dsX (nestM (nmT ns)) ns.length i y).map intRow)[Int.toNat (i : Int)]? = some [dI y] := by rw [map_row intRow _ _ ⟨by omega, by omega⟩, ei]
      have rj : ((dsX (nestM (nmT ns)) ns.length i y).map intRow)[Int.toNat (j : Int)]? = some [dI (nestM (nmT ns) j : Nat)] := by rw [map_row intRow _ _ ⟨by omega, by omega⟩, ej]
      have hset : ((dsX (nestM (nmT ns)) ns.length i y).map intRow).set (Int.toNat (i : Int)) [dI (max y ((nestM (nmT ns) j : Nat) : Int))] = (dsX (nestM (nmT ns)) ns.length i (max y ((nestM (nmT ns) j : Nat) : Int))).map intRow := by
        rw [Int.toNat_natCast]
        exact (List.map_set ..).symm.trans (congrArg (List.map intRow) (dsX_set _ _ _ _ _))
      have hbi : 0 ≤ (i : Int) ∧ (i : Int) < ((dsX (nestM (nmT ns)) ns.length i y).map intRow).length := by simp [hdl]; omega
      have hbj : 0 ≤ (j : Int) ∧ (j : Int) < ((dsX (nestM (nmT ns)) ns.length i y).map intRow).length := by simp [hdl]; omega
      have hmx := l1Max_fn y ((nestM (nmT ns) j : Nat) : Int)
      repeat' (first | (refine W.dre' (id := 9) [17] (fun f => [.gr 1 2 (bif bt f 1 then ((dsX (nestM (nmT ns)) ns.length i y).map intRow).set (Int.toNat (i : Int)) [dI (max y ((nestM (nmT ns) j : Nat) : Int))] else (dsX (nestM (nmT ns)) ns.length i y).map intRow) 0 false]) [(0, [0]), (0, [0]), (0, [0]), (0, [0]), (0, [0]), (0, [0]), (0, [0]), (0, [0]), (0, [0]), (0, [0]), (0, [0]), (0, [0]), (0, [0]), (0, [0]), (0, [0]), (0, [0]), (0, [0]), (1, [0])] [.gr 1 2 (((dsX (nestM (nmT ns)) ns.length i y).map intRow).set (Int.toNat (i : Int)) [dI (max y ((nestM (nmT ns) j : Nat) : Int))]) 0 false] ?_) | refine WE.c' (E := env) hkd ?_ | refine WE.c' (E := env) hmx ?_ | refine WE.seg' (E := env) ?_ (.c (OpS1.seg rfl rfl rfl rfl ri rfl rfl rfl rfl rfl) .n) | refine WE.ixo' (E := env) ?_ (.c (OpS1.ixo rfl rfl rfl rfl rfl rfl rfl rfl hbi) .n) | refine WE.ixo' (E := env) ?_ (.c (OpS1.ixo rfl rfl rfl rfl rfl rfl rfl rfl hbj) .n) | refine WE.leg' (E := env) ?_ (.c (OpS1.leg rfl rfl rfl rfl rfl ri rfl) .n) | refine WE.leg' (E := env) ?_ (.c (OpS1.leg rfl rfl rfl rfl rfl rj rfl) .n) | refine WE.nil ?_ | refine WE.s' (E := env) (t := .d _) ?_ | refine WE.s' (E := env) (t := .lp _ _) ?_ | refine WE.s' (E := env) (t := .og _ _) ?_ | refine WE.s' (E := env) (t := .ea _ _) ?_ | refine WE.s' (E := env) (t := .agg _) ?_ | refine WE.s' (E := env) (t := .tup _) ?_ | refine WE.ixm' (E := env) ?_ | refine WE.ixo' (E := env) ?_ | refine WE.leg' (E := env) ?_ | refine WE.seg' (E := env) ?_ | refine W.seq ?_ | refine W.rg ?_ | refine W.block ?_ | refine W.skip ?_ | refine W.exit ?_ | refine WG.nil ?_ | refine WG.run' (E := env) ?_ | refine WG.ixm' (E := env) ?_ | refine WG.c (E := env) rfl rfl (hks) rfl rfl ?_ | ((refine W.cond' (fun h => ?_) fun h => ?_) <;> (try simp only [atS, List.length_map, beq_self_eq_true] at h) <;> (try (exfalso; first | contradiction | omega))))
      refine ⟨_, _, by omega, ⟨q + 1, max y ((nestM (nmT ns) j : Nat) : Int), rfl, ⟨by omega, by rw [hy, take_step hqk, maxL_snoc, hkj]; omega⟩, rfl⟩, St.imp.of_le (leOb (ob' := [.gr 1 2 ((dsX (nestM (nmT ns)) ns.length i (max y ((nestM (nmT ns) j : Nat) : Int))).map intRow) 0 false]) ?_ (by (refine le_ofL rfl ?_ ?_ <;> (repeat (first | exact trivial | refine ⟨⟨rfl, rfl⟩, ?_⟩ | refine ⟨rfl, .inl rfl, ?_⟩ | refine ⟨rfl, .inr rfl, ?_⟩)))))⟩
      rw [← hset]
    · have hqe : q = ks.length := by omega
      have ri : ((dsX (nestM (nmT ns)) ns.length i y).map intRow)[Int.toNat (i : Int)]? = some [dI y] := by rw [map_row intRow _ _ ⟨by omega, by omega⟩, Int.toNat_natCast, dsX_at _ _ _ _ hin, if_neg (by omega), if_pos rfl]
      have hbi : 0 ≤ (i : Int) ∧ (i : Int) < ((dsX (nestM (nmT ns)) ns.length i y).map intRow).length := by simp [hdl]; omega
      have hset : ((dsX (nestM (nmT ns)) ns.length i y).map intRow).set (Int.toNat (i : Int)) [dI (y + 1)] = (dsX (nestM (nmT ns)) ns.length (i + 1) 0).map intRow := by
        rw [Int.toNat_natCast, ← dsX_next, heq]
        have e : y + 1 = ((maxL (nestM (nmT ns)) ks + 1 : Nat) : Int) := by rw [hy, hqe, List.take_length]; omega
        rw [e]
        exact (List.map_set ..).symm.trans (congrArg (List.map intRow) (dsX_set _ _ _ _ _))
      have hdl2 := dsX_length (nestM (nmT ns)) ns.length (i + 1) 0
      have ri2 : ((dsX (nestM (nmT ns)) ns.length (i + 1) 0).map intRow)[Int.toNat (i : Int)]? = some [dI (nestM (nmT ns) i : Nat)] := by rw [map_row intRow _ _ ⟨by omega, by omega⟩, Int.toNat_natCast, dsX_at _ _ _ _ hin, if_pos (by omega)]
      have hbi2 : 0 ≤ (i : Int) ∧ (i : Int) < ((dsX (nestM (nmT ns)) ns.length (i + 1) 0).map intRow).length := by simp [hdl2]; omega
      repeat' (first | refine WG.ixo (E := env) rfl rfl rfl rfl rfl rfl rfl rfl hbi ?_ | refine WG.leg (E := env) rfl rfl rfl rfl rfl ri rfl ?_ | refine W.seq ?_ | refine W.rg ?_ | refine W.block ?_ | refine W.skip ?_ | refine W.exit ?_ | refine WG.nil ?_ | refine WG.run' (E := env) ?_ | refine WG.ixm' (E := env) ?_ | refine WG.c (E := env) rfl rfl (hks) rfl rfl ?_ | ((refine W.cond' (fun h => ?_) fun h => ?_) <;> (try simp only [atS, List.length_map, beq_self_eq_true] at h) <;> (try (exfalso; first | contradiction | omega))))
      refine WG.stE (E := env) rfl rfl rfl rfl ri rfl rfl rfl rfl ?_
      refine WG.obEq (ob' := [.gr 1 2 ((dsX (nestM (nmT ns)) ns.length (i + 1) 0).map intRow) 0 false]) (congrArg (fun r => [Ob.gr 1 2 r 0 false]) hset) ?_
      repeat' (first | refine WG.ixo (E := env) rfl rfl rfl rfl rfl rfl rfl rfl hbi2 ?_ | refine WG.leg (E := env) rfl rfl rfl rfl rfl ri2 rfl ?_ | refine W.seq ?_ | refine W.rg ?_ | refine W.block ?_ | refine W.skip ?_ | refine W.exit ?_ | refine WG.nil ?_ | refine WG.run' (E := env) ?_ | refine WG.ixm' (E := env) ?_ | refine WG.c (E := env) rfl rfl (l1Max_fn x ((nestM (nmT ns) i : Nat) : Int)) rfl rfl ?_ | ((refine W.cond' (fun h => ?_) fun h => ?_) <;> (try simp only [atS, List.length_map, beq_self_eq_true] at h) <;> (try (exfalso; first | contradiction | omega))))
      exact ⟨_, _, by omega, ⟨i + 1, max x ((nestM (nmT ns) i : Nat) : Int), rfl, ⟨by omega, by rw [hx, List.range_succ, maxL_snoc]; omega⟩, rfl⟩, (St.imp.of_le (by (refine le_ofL rfl ?_ ?_ <;> (repeat (first | exact trivial | refine ⟨⟨rfl, rfl⟩, ?_⟩ | refine ⟨rfl, .inl rfl, ?_⟩ | refine ⟨rfl, .inr rfl, ?_⟩)))))⟩
  · repeat' (first | refine W.seq ?_ | refine W.rg ?_ | refine W.block ?_ | refine W.skip ?_ | refine W.exit ?_ | refine WG.nil ?_ | refine WG.run' (E := env) ?_ | refine WG.ixm' (E := env) ?_ | ((refine W.cond' (fun h => ?_) fun h => ?_) <;> (try simp only [atS, List.length_map, beq_self_eq_true] at h) <;> (try (exfalso; first | contradiction | omega))))
    (refine W.ret ?_; (first | refine RetQ.i' ?_))
    rw [hx, show i = ns.length by omega]

end Go.Proofs.YtmmjbpgdkokjgaaGreat
