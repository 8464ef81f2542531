/-
  The parts of a value, by the program, each the call's own. Conditions: cells of at most 2^20 bytes.
-/
import Derived.Test.YtlegadpbjccelaaQEachOfNf1
import Derived.Test.YtlegadpbjccelaaQEachOfNe3
import Derived.Test.YtlegadpbjccelaaQEachOfPa2
set_option linter.unusedVariables false
set_option linter.unusedSimpArgs false
set_option maxRecDepth 100000
namespace Go.Proofs.Ytlegadpbjccelaa
open Go.RowKit

theorem neS_flat (rs : List (List Cell)) (dd : Option (List (List D))) (n : Nat) : (Ob.x (neS (rs.map ceN) dd) n).flat := by
  refine nestX_flat n (fun r hr => ?_) fun r hr q hq p hp => ?_
  · obtain ⟨x, _, rfl⟩ := List.mem_map.1 hr
    rfl
  · obtain ⟨x, _, rfl⟩ := List.mem_map.1 hr
    cases hq
    obtain ⟨c, _, rfl⟩ := List.mem_map.1 hp
    rfl

noncomputable def eachR (cs : List Cell) : List (List Cell) := (eachL cs).map V.cells

set_option maxHeartbeats 4000000 in
theorem EachOfE_fn (cs : List Cell) (hf : fitsC cs) (hE : ¬ ((valOfM cs).2 = 0 ∧ ((valOfM cs).1.kind = 5 ∨ (valOfM cs).1.kind = 6))) : Fun env.P 27 [cellsD cs] (.agg [vI .i64 (eachC cs), .og 0 0]) [.gr 1 24 [] 0 false] := by
  have h1 := valOf_fn' cs hf
  unfold eachC
  by_cases h0 : (valOfM cs).2 = 0
  case neg =>
    rw [if_neg h0]
    generalize (valOfM cs).1 = v at h1
    generalize (valOfM cs).2 = c at h0 h1 ⊢
    refine Fun.intro Try.func27 rfl (by kernel_rfl) rfl ?_
    repeat' (first | refine W.seq ?_ | refine W.rg ?_ | refine W.dra' ?_ | refine W.block ?_ | refine W.skip ?_ | refine W.exit ?_ | refine W.cond_true' ?_ | refine W.cond_false' ?_ | refine WG.nil ?_ | refine WG.run' (E := env) ?_ | refine WG.gt' ?_ | refine WG.gf' ?_ | refine WG.ixm' (E := env) ?_ | refine WG.ixo' (E := env) ?_ | refine WG.legm' (E := env) ?_ | refine WG.slS' (E := env) ?_ | refine WG.slD' (E := env) ?_ | refine WG.ap' (E := env) ?_ | refine WD.nil ?_ | refine WD.bs' (E := env) ?_ | refine WD.s' (E := env) (t := .d _) ?_ | refine WD.p' ?_ | refine WD.px' ?_ | refine WD.s' (E := env) (t := .ea _ _) ?_ | refine WD.s' (E := env) (t := .lp _ _) ?_ | refine WD.s' (E := env) (t := .og _ _) ?_ | refine WD.s' (E := env) (t := .agg _) ?_ | refine WD.s' (E := env) (t := .tup _) ?_ | refine WD.s' (E := env) (t := .clo _ _) ?_ | refine WD.ixm' (E := env) ?_ | refine WD.ixo' (E := env) ?_ | refine WD.legm' (E := env) ?_ | refine WD.slS' (E := env) ?_ | refine WD.slD' (E := env) ?_ | refine WG.c (E := env) rfl rfl (h1) rfl rfl ?_ | refine WD.c (E := env) rfl rfl (h1) rfl rfl ?_ | refine WG.co (E := env) rfl rfl (h1) rfl rfl rfl rfl ?_ | refine WG.cx (E := env) rfl (h1) rfl ?_ | ((first | refine WG.sp' (fun h => ?_) fun h => ?_ | refine W.cond' (fun h => ?_) fun h => ?_ | refine WD.sp' (fun h => ?_) fun h => ?_) <;> (try simp only [decide_eq_true_eq, decide_eq_false_iff_not, Bool.not_eq_true', Bool.not_eq_false', Bool.and_eq_true, Bool.or_eq_true, Bool.and_eq_false_iff, Bool.or_eq_false_iff, Bool.not_eq_true, Bool.not_eq_false, Int.not_lt, Int.not_le, List.length_map, beq_self_eq_true, Bool.true_eq_false, Bool.false_eq_true] at h) <;> (try (exfalso; first | contradiction | omega))))
    all_goals first | (exfalso; exact h0 (by assumption)) | skip
    all_goals (refine W.ret ?_; first | refine RetR.g' ?_ | refine RetR.ag' ?_ ?_ | refine RetR.agn' ?_ | exact RetR.gn' | refine RetR.ag3' ?_ ?_ ?_ | refine RetR.agn3' ?_ ?_)
    all_goals rfl
  have hv : ¬ ((valOfM cs).1.kind = 5 ∨ (valOfM cs).1.kind = 6) := fun h => hE ⟨h0, h⟩
  rw [if_pos h0, if_neg hv]
  rw [h0] at h1
  generalize (valOfM cs).1 = v at h1 hv ⊢
  have h2 := eachE_fn v hv
  refine Fun.intro Try.func27 rfl (by kernel_rfl) rfl ?_
  repeat' (first | refine W.seq ?_ | refine W.rg ?_ | refine W.dra' ?_ | refine W.block ?_ | refine W.skip ?_ | refine W.exit ?_ | refine W.cond_true' ?_ | refine W.cond_false' ?_ | refine WG.nil ?_ | refine WG.run' (E := env) ?_ | refine WG.gt' ?_ | refine WG.gf' ?_ | refine WG.ixm' (E := env) ?_ | refine WG.ixo' (E := env) ?_ | refine WG.legm' (E := env) ?_ | refine WG.slS' (E := env) ?_ | refine WG.slD' (E := env) ?_ | refine WG.ap' (E := env) ?_ | refine WD.nil ?_ | refine WD.bs' (E := env) ?_ | refine WD.s' (E := env) (t := .d _) ?_ | refine WD.p' ?_ | refine WD.px' ?_ | refine WD.s' (E := env) (t := .ea _ _) ?_ | refine WD.s' (E := env) (t := .lp _ _) ?_ | refine WD.s' (E := env) (t := .og _ _) ?_ | refine WD.s' (E := env) (t := .agg _) ?_ | refine WD.s' (E := env) (t := .tup _) ?_ | refine WD.s' (E := env) (t := .clo _ _) ?_ | refine WD.ixm' (E := env) ?_ | refine WD.ixo' (E := env) ?_ | refine WD.legm' (E := env) ?_ | refine WD.slS' (E := env) ?_ | refine WD.slD' (E := env) ?_ | refine WG.c (E := env) rfl rfl (h1) rfl rfl ?_ | refine WD.c (E := env) rfl rfl (h1) rfl rfl ?_ | refine WG.co (E := env) rfl rfl (h1) rfl rfl rfl rfl ?_ | refine WG.cx (E := env) rfl (h1) rfl ?_ | refine WG.c (E := env) rfl rfl (h2) rfl rfl ?_ | refine WD.c (E := env) rfl rfl (h2) rfl rfl ?_ | refine WG.co (E := env) rfl rfl (h2) rfl rfl rfl rfl ?_ | refine WG.cx (E := env) rfl (h2) rfl ?_ | ((first | refine WG.sp' (fun h => ?_) fun h => ?_ | refine W.cond' (fun h => ?_) fun h => ?_ | refine WD.sp' (fun h => ?_) fun h => ?_) <;> (try simp only [decide_eq_true_eq, decide_eq_false_iff_not, Bool.not_eq_true', Bool.not_eq_false', Bool.and_eq_true, Bool.or_eq_true, Bool.and_eq_false_iff, Bool.or_eq_false_iff, Bool.not_eq_true, Bool.not_eq_false, Int.not_lt, Int.not_le, List.length_map, beq_self_eq_true, Bool.true_eq_false, Bool.false_eq_true] at h) <;> (try (exfalso; first | contradiction | omega))))
  refine W.loopI (fun m S => S = ⟨ofL [(2, .lp 0 0), (6, .lp 2 0), (26, vI .i64 0), (27, vI .i64 0)], [.pv [.d (dI 0), .d (.nl 1)], .pv (v.rowP.map .d), .pv [.d (dI 6), .d (.nl 1)]]⟩) 0 _ rfl (St.imp.of_le (by (refine le_ofL rfl ?_ ?_ <;> (repeat (first | exact trivial | refine ⟨⟨rfl, rfl⟩, ?_⟩ | refine ⟨rfl, .inl rfl, ?_⟩ | refine ⟨rfl, .inr rfl, ?_⟩))))) ?_
  rintro m S rfl
  repeat' (first | refine W.seq ?_ | refine W.rg ?_ | refine W.dra' ?_ | refine W.block ?_ | refine W.skip ?_ | refine W.exit ?_ | refine W.cond_true' ?_ | refine W.cond_false' ?_ | refine WG.nil ?_ | refine WG.run' (E := env) ?_ | refine WG.gt' ?_ | refine WG.gf' ?_ | refine WG.ixm' (E := env) ?_ | refine WG.ixo' (E := env) ?_ | refine WG.legm' (E := env) ?_ | refine WG.slS' (E := env) ?_ | refine WG.slD' (E := env) ?_ | refine WG.ap' (E := env) ?_ | refine WD.nil ?_ | refine WD.bs' (E := env) ?_ | refine WD.s' (E := env) (t := .d _) ?_ | refine WD.p' ?_ | refine WD.px' ?_ | refine WD.s' (E := env) (t := .ea _ _) ?_ | refine WD.s' (E := env) (t := .lp _ _) ?_ | refine WD.s' (E := env) (t := .og _ _) ?_ | refine WD.s' (E := env) (t := .agg _) ?_ | refine WD.s' (E := env) (t := .tup _) ?_ | refine WD.s' (E := env) (t := .clo _ _) ?_ | refine WD.ixm' (E := env) ?_ | refine WD.ixo' (E := env) ?_ | refine WD.legm' (E := env) ?_ | refine WD.slS' (E := env) ?_ | refine WD.slD' (E := env) ?_ | ((first | refine WG.sp' (fun h => ?_) fun h => ?_ | refine W.cond' (fun h => ?_) fun h => ?_ | refine WD.sp' (fun h => ?_) fun h => ?_) <;> (try simp only [decide_eq_true_eq, decide_eq_false_iff_not, Bool.not_eq_true', Bool.not_eq_false', Bool.and_eq_true, Bool.or_eq_true, Bool.and_eq_false_iff, Bool.or_eq_false_iff, Bool.not_eq_true, Bool.not_eq_false, Int.not_lt, Int.not_le, List.length_map, beq_self_eq_true, Bool.true_eq_false, Bool.false_eq_true] at h) <;> (try (exfalso; first | contradiction | omega))))
  (refine W.ret ?_; first | refine RetR.g' ?_ | refine RetR.ag' ?_ ?_ | refine RetR.agn' ?_ | exact RetR.gn' | refine RetR.ag3' ?_ ?_ ?_ | refine RetR.agn3' ?_ ?_)
  all_goals rfl

set_option maxHeartbeats 8000000 in
theorem EachOf_fn (cs : List Cell) (hf : fitsC cs) : Fun env.P 27 [cellsD cs] (.agg [vI .i64 (eachC cs), .og 0 0]) [.x (neS ((eachR cs).map ceN) (some ((eachR cs).map cellsR))) 0] := by
  by_cases hE : (valOfM cs).2 = 0 ∧ ((valOfM cs).1.kind = 5 ∨ (valOfM cs).1.kind = 6)
  case neg =>
    have e0 : eachR cs = [] := by
      unfold eachR eachL
      by_cases h0 : (valOfM cs).2 = 0
      · rw [if_pos h0, if_neg (fun h => hE ⟨h0, h⟩)]; rfl
      · rw [if_neg h0]; rfl
    rw [e0]
    exact FunQ.fin (EachOfE_fn cs hf hE) (Fin.nest0 (by omega))
  obtain ⟨h0, hv⟩ := hE
  have h1 := valOf_fn' cs hf
  rw [h0] at h1
  have hvf := (valOfM_fine h0).1
  unfold eachC eachR eachL
  rw [if_pos h0, if_pos h0, if_pos hv, if_pos hv]
  generalize (valOfM cs).1 = v at h1 hvf hv ⊢
  have h2 := eachP_fn v hv
  have hkf := fun k hk => (V.fine_kids hvf k hk).1
  have hlc := V.length_counts v.kids
  have hce := V.count_eq v
  have hv200 := hvf.2.1
  have hvr : (v.kids.map V.row).length = v.kids.length := by simp
  refine Fun.intro Try.func27 rfl (by kernel_rfl) rfl ?_
  repeat' (first | refine W.seq ?_ | refine W.rg ?_ | refine W.dra' ?_ | refine W.block ?_ | refine W.skip ?_ | refine W.exit ?_ | refine W.cond_true' ?_ | refine W.cond_false' ?_ | refine WG.nil ?_ | refine WG.run' (E := env) ?_ | refine WG.gt' ?_ | refine WG.gf' ?_ | refine WG.ixm' (E := env) ?_ | refine WG.ixo' (E := env) ?_ | refine WG.legm' (E := env) ?_ | refine WG.slS' (E := env) ?_ | refine WG.slD' (E := env) ?_ | refine WG.ap' (E := env) ?_ | refine WD.nil ?_ | refine WD.bs' (E := env) ?_ | refine WD.s' (E := env) (t := .d _) ?_ | refine WD.p' ?_ | refine WD.px' ?_ | refine WD.s' (E := env) (t := .ea _ _) ?_ | refine WD.s' (E := env) (t := .lp _ _) ?_ | refine WD.s' (E := env) (t := .og _ _) ?_ | refine WD.s' (E := env) (t := .agg _) ?_ | refine WD.s' (E := env) (t := .tup _) ?_ | refine WD.s' (E := env) (t := .clo _ _) ?_ | refine WD.ixm' (E := env) ?_ | refine WD.ixo' (E := env) ?_ | refine WD.legm' (E := env) ?_ | refine WD.slS' (E := env) ?_ | refine WD.slD' (E := env) ?_ | refine WG.c (E := env) rfl rfl (h1) rfl rfl ?_ | refine WD.c (E := env) rfl rfl (h1) rfl rfl ?_ | refine WG.co (E := env) rfl rfl (h1) rfl rfl rfl rfl ?_ | refine WG.cx (E := env) rfl (h1) rfl ?_ | refine WG.c (E := env) rfl rfl (h2) rfl rfl ?_ | refine WD.c (E := env) rfl rfl (h2) rfl rfl ?_ | refine WG.co (E := env) rfl rfl (h2) rfl rfl rfl rfl ?_ | refine WG.cx (E := env) rfl (h2) rfl ?_ | ((first | refine WG.sp' (fun h => ?_) fun h => ?_ | refine W.cond' (fun h => ?_) fun h => ?_ | refine WD.sp' (fun h => ?_) fun h => ?_) <;> (try simp only [decide_eq_true_eq, decide_eq_false_iff_not, Bool.not_eq_true', Bool.not_eq_false', Bool.and_eq_true, Bool.or_eq_true, Bool.and_eq_false_iff, Bool.or_eq_false_iff, Bool.not_eq_true, Bool.not_eq_false, Int.not_lt, Int.not_le, List.length_map, beq_self_eq_true, Bool.true_eq_false, Bool.false_eq_true] at h) <;> (try (exfalso; first | contradiction | omega))))
  refine W.adoptPv 2 1 24 rfl rfl ?_
  refine W.loopI (fun m S => ∃ (i : Nat) (rv : List NR), m = v.kids.length - i ∧ (i ≤ v.kids.length ∧ rv.length ≤ i ∧ rv = ((v.kids.take i).map V.cells).map ceN) ∧
    S = ⟨ofL [(2, .lp 0 0), (6, .lp 2 0), (25, .d (.sl 5 (v.kids.map V.row))), (26, vI .i64 (v.kids.map V.row).length), (27, vI .i64 i)],
      [.pv [.d (dI 0), .d (.nl 1)], .pv (v.rowP.map .d), .pv [.d (dI 0), .og 3 0], .x (neS rv none) 0]⟩) _ _ ⟨0, [], rfl, ⟨by omega, by simp, rfl⟩, rfl⟩ ((St.imp.nest 3 0 91 5 rfl (by omega)).trans (St.imp.of_le (by (refine le_ofL rfl ?_ ?_ <;> (repeat (first | exact trivial | refine ⟨⟨rfl, rfl⟩, ?_⟩ | refine ⟨rfl, .inl rfl, ?_⟩ | refine ⟨rfl, .inr rfl, ?_⟩)))))) ?_
  rintro m S ⟨i, rv, rfl, ⟨hi, hrv, ev⟩, rfl⟩
  by_cases hlt : i < v.kids.length
  · have hk := hkf _ (getD_mem' (show Int.toNat (i : Int) < v.kids.length by omega))
    have hc := cellsP_fn 1048576 (v.kids.getD (Int.toNat (i : Int)) default) (by have := hk.2.1; omega) (Nat.le_refl _) hk.1
    have hpr : [ceN (v.kids.getD (Int.toNat (i : Int)) default).cells] = ([v.kids.getD (Int.toNat (i : Int)) default].map V.cells).map ceN := rfl
    generalize hkk : v.kids.getD (Int.toNat (i : Int)) default = kid at hc hpr
    repeat' (first | refine WG.ixe (E := env) (r := kid.rowP) rfl rfl rfl rfl rfl rfl rfl (by rw [← hkk, V.row_eq]) (by (first | exact trivial | (simp only [inRange, List.length_map]; omega) | omega | assumption)) ?_ | (refine W.dre' (id := 9) [3, 4, 5, 7] (fun f => [.pv [.d (dI 0), .d (.nl 1)], .pv (v.rowP.map .d), .pv [.d (dI 0), .og 3 (bif bt f 8 then 1 else 0)], .x (neS (bif bt f 4 then rv ++ [ceN kid.cells] else rv) none) (bif bt f 4 then 1 else 0), .pv (kid.rowP.map .d)] ++ bif bt f 4 then [.dead] else bif bt f 2 then [.x (neS [ceN kid.cells] none) 1] else bif bt f 1 then [.gr 5 91 (kid.cells.map Cell.row) 0 false] else []) [(0, [0, 1, 3]), (0, [0, 1, 3]), (0, [0]), (1, [0]), (2, [1]), (4, [3]), (0, [7]), (8, [7])] [.pv [.d (dI 0), .d (.nl 1)], .pv (v.rowP.map .d), .pv [.d (dI 0), .og 3 1], .x (neS (rv ++ [ceN kid.cells]) none) 1, .pv (kid.rowP.map .d), .dead] ?_) | refine WE.mkd (.og 5 0) ?_ (.c (OpS1.coG rfl rfl hc rfl rfl rfl) .n) | refine WE.mkd (.og 5 1) ?_ (.c (OpS1.bsN (E := env) rfl rfl rfl rfl rfl rfl rfl rfl rfl rfl rfl rfl rfl rfl) .n) | refine WE.mkd (.og 3 1) ?_ (.c (OpS1.apN (E := env) rfl rfl rfl rfl rfl rfl rfl rfl rfl rfl rfl rfl (show (rv.length + 1) * 24 ≤ 140737488355328 by omega) rfl) .n) | refine WE.nil ?_ | refine WE.ixP' ?_ | refine WE.s' (E := env) (t := .d _) ?_ | refine WE.p' ?_ | refine WE.px' ?_ | refine WE.s' (E := env) (t := .lp _ _) ?_ | refine WE.s' (E := env) (t := .og _ _) ?_ | refine WE.s' (E := env) (t := .ea _ _) ?_ | refine WE.s' (E := env) (t := .agg _) ?_ | refine WE.s' (E := env) (t := .tup _) ?_ | refine WE.ixm' (E := env) ?_ | refine WE.ixo' (E := env) ?_ | refine WE.leg' (E := env) ?_ | refine WE.slS' (E := env) ?_ | refine WE.slD' (E := env) ?_ | refine WE.ap' (E := env) ?_ | refine WE.st' (E := env) ?_ | refine WE.seg' (E := env) ?_ | refine WE.bs' (E := env) ?_ | refine W.seq ?_ | refine W.rg ?_ | refine W.dra' ?_ | refine W.block ?_ | refine W.skip ?_ | refine W.exit ?_ | refine W.cond_true' ?_ | refine W.cond_false' ?_ | refine WG.nil ?_ | refine WG.run' (E := env) ?_ | refine WG.gt' ?_ | refine WG.gf' ?_ | refine WG.ixm' (E := env) ?_ | refine WG.ixo' (E := env) ?_ | refine WG.legm' (E := env) ?_ | refine WG.slS' (E := env) ?_ | refine WG.slD' (E := env) ?_ | refine WG.ap' (E := env) ?_ | refine WD.nil ?_ | refine WD.bs' (E := env) ?_ | refine WD.s' (E := env) (t := .d _) ?_ | refine WD.p' ?_ | refine WD.px' ?_ | refine WD.s' (E := env) (t := .ea _ _) ?_ | refine WD.s' (E := env) (t := .lp _ _) ?_ | refine WD.s' (E := env) (t := .og _ _) ?_ | refine WD.s' (E := env) (t := .agg _) ?_ | refine WD.s' (E := env) (t := .tup _) ?_ | refine WD.s' (E := env) (t := .clo _ _) ?_ | refine WD.ixm' (E := env) ?_ | refine WD.ixo' (E := env) ?_ | refine WD.legm' (E := env) ?_ | refine WD.slS' (E := env) ?_ | refine WD.slD' (E := env) ?_ | fail | ((first | refine WG.sp' (fun h => ?_) fun h => ?_ | refine W.cond' (fun h => ?_) fun h => ?_ | refine WD.sp' (fun h => ?_) fun h => ?_) <;> (try simp only [decide_eq_true_eq, decide_eq_false_iff_not, Bool.not_eq_true', Bool.not_eq_false', Bool.and_eq_true, Bool.or_eq_true, Bool.and_eq_false_iff, Bool.or_eq_false_iff, Bool.not_eq_true, Bool.not_eq_false, Int.not_lt, Int.not_le, List.length_map, beq_self_eq_true, Bool.true_eq_false, Bool.false_eq_true] at h) <;> (try (exfalso; first | contradiction | omega))))
    refine ⟨_, _, by omega, ⟨i + 1, rv ++ [ceN kid.cells], rfl, ⟨by omega, by rw [List.length_append, List.length_singleton]; omega, ?_⟩, rfl⟩, (St.imp.revX 3 1 rfl).trans (St.imp.of_le (by (refine le_ofL rfl ?_ ?_ <;> (repeat (first | exact trivial | refine ⟨⟨rfl, rfl⟩, ?_⟩ | refine ⟨rfl, .inl rfl, ?_⟩ | refine ⟨rfl, .inr rfl, ?_⟩)))))⟩
    have hkk2 : v.kids.getD i default = kid := by rw [← hkk, Int.toNat_natCast]
    rw [take_step hlt, List.map_append, List.map_append, ← ev, hkk2, ← hpr]
  · obtain rfl : i = v.kids.length := by omega
    rw [List.take_length] at ev
    subst ev
    refine W.imp (St.imp.note 3 rfl ((v.kids.map V.cells).map cellsR) (ceN_dat _)) ?_
    repeat' (first | refine W.seq ?_ | refine W.rg ?_ | refine W.dra' ?_ | refine W.block ?_ | refine W.skip ?_ | refine W.exit ?_ | refine W.cond_true' ?_ | refine W.cond_false' ?_ | refine WG.nil ?_ | refine WG.run' (E := env) ?_ | refine WG.gt' ?_ | refine WG.gf' ?_ | refine WG.ixm' (E := env) ?_ | refine WG.ixo' (E := env) ?_ | refine WG.legm' (E := env) ?_ | refine WG.slS' (E := env) ?_ | refine WG.slD' (E := env) ?_ | refine WG.ap' (E := env) ?_ | refine WD.nil ?_ | refine WD.bs' (E := env) ?_ | refine WD.s' (E := env) (t := .d _) ?_ | refine WD.p' ?_ | refine WD.px' ?_ | refine WD.s' (E := env) (t := .ea _ _) ?_ | refine WD.s' (E := env) (t := .lp _ _) ?_ | refine WD.s' (E := env) (t := .og _ _) ?_ | refine WD.s' (E := env) (t := .agg _) ?_ | refine WD.s' (E := env) (t := .tup _) ?_ | refine WD.s' (E := env) (t := .clo _ _) ?_ | refine WD.ixm' (E := env) ?_ | refine WD.ixo' (E := env) ?_ | refine WD.legm' (E := env) ?_ | refine WD.slS' (E := env) ?_ | refine WD.slD' (E := env) ?_ | ((first | refine WG.sp' (fun h => ?_) fun h => ?_ | refine W.cond' (fun h => ?_) fun h => ?_ | refine WD.sp' (fun h => ?_) fun h => ?_) <;> (try simp only [decide_eq_true_eq, decide_eq_false_iff_not, Bool.not_eq_true', Bool.not_eq_false', Bool.and_eq_true, Bool.or_eq_true, Bool.and_eq_false_iff, Bool.or_eq_false_iff, Bool.not_eq_true, Bool.not_eq_false, Int.not_lt, Int.not_le, List.length_map, beq_self_eq_true, Bool.true_eq_false, Bool.false_eq_true] at h) <;> (try (exfalso; first | contradiction | omega))))
    refine W.ret ?_
    exact RetR.agx (.inl rfl) rfl (by first | trivial | exact resOK_of (E := env) rfl) rfl rfl rfl

theorem sumC_le : ∀ (l : List V), (∀ v ∈ l, v.fine) → sumC (l.map V.cells) ≤ 200 * l.length
  | [], _ => by simp [sumC]
  | a :: r, h => by
    have h1 := (h a (List.mem_cons_self ..)).2.1
    have h2 := sumC_le r fun v hv => h v (List.mem_cons_of_mem _ hv)
    have h3 : a.cells.length = a.count := V.cellsK_length a _
    simp only [List.map_cons, sumC, List.length_cons]
    omega

theorem eachL_fine (cs : List Cell) : (∀ v ∈ eachL cs, v.fine) ∧ (eachL cs).length ≤ 200 := by
  unfold eachL
  by_cases h0 : (valOfM cs).2 = 0
  · rw [if_pos h0]
    have hvf := (valOfM_fine h0).1
    split
    · have hlc := V.length_counts (valOfM cs).1.kids
      have hce := V.count_eq (valOfM cs).1
      have hv200 := hvf.2.1
      exact ⟨fun k hk => (V.fine_kids hvf k hk).1, by omega⟩
    · exact ⟨fun v hv => by simp at hv, by simp⟩
  · rw [if_neg h0]
    exact ⟨fun v hv => by simp at hv, by simp⟩

end Go.Proofs.Ytlegadpbjccelaa
