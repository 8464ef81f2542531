/-
  AddAll, both sides. Conditions: none.
-/
import Derived.Test.YtlegadpbjccelaaQAddAllAd4
set_option linter.unusedVariables false
set_option linter.unusedSimpArgs false
set_option maxRecDepth 100000
namespace Go.Proofs.Ytlegadpbjccelaa
open Go.RowKit

set_option maxHeartbeats 4000000 in
theorem l3Sum_fn (v : V) (h : v.fine) : Fun env.P 138 [cellsD v.cells] (.d (resD (allO v).1 (outC (allO v).1 (allO v).2))) [] := by
  have b6 := l3Bad_fn 6
  have p1 := FunQ.pubG (l1Parts_fn v h)
  have hn := l3Null_fn
  have hlc := V.length_counts v.kids
  have hce := V.count_eq v
  have hv200 := h.2.1
  have hkf := fun k hk => (V.fine_kids h k hk).1
  have hml : (v.kids.map partR).length = v.kids.length := by simp
  obtain ⟨r1, e1⟩ := V.cells_cons v
  have hH := l1Holds_fn ⟨v.kind, v.num, v.text, noS, (v.kids.length : Int)⟩
  have hhk : holdsK v.kind = decide (v.kind = 5 ∨ v.kind = 6) := by simp [holdsK]
  rw [show (⟨v.kind, v.num, v.text, noS, (v.kids.length : Int)⟩ : Cell).kind = v.kind from rfl, hhk] at hH
  rw [e1] at p1 ⊢
  unfold allO
  generalize v.num = vn at *
  generalize v.text = vt at *
  generalize v.kids = vd at *
  generalize v.kind = vk at *
  have hl1 : 1 ≤ ((⟨vk, vn, vt, noS, (vd.length : Int)⟩ :: r1 : List Cell)).length := by simp
  have hg : ((⟨vk, vn, vt, noS, (vd.length : Int)⟩ :: r1 : List Cell).getD (Int.toNat 0) default) = ⟨vk, vn, vt, noS, (vd.length : Int)⟩ := rfl
  by_cases hv : vk = 5 ∨ vk = 6
  case neg =>
    rw [if_neg hv]
    rw [decide_eq_false hv] at hH
    refine Fun.intro Try.func138 rfl (by kernel_rfl) rfl ?_
    repeat' (first | refine W.seq ?_ | refine W.rg ?_ | refine W.dra' ?_ | refine W.block ?_ | refine W.skip ?_ | refine W.exit ?_ | refine W.cond_true' ?_ | refine W.cond_false' ?_ | refine WG.nil ?_ | refine WG.run' (E := env) ?_ | refine WG.gt' ?_ | refine WG.gf' ?_ | refine WG.ixm' (E := env) ?_ | refine WG.ixo' (E := env) ?_ | refine WG.legm' (E := env) ?_ | refine WG.slS' (E := env) ?_ | refine WG.slD' (E := env) ?_ | refine WG.ap' (E := env) ?_ | refine WD.nil ?_ | refine WD.bs' (E := env) ?_ | refine WD.s' (E := env) (t := .d _) ?_ | refine WD.p' ?_ | refine WD.px' ?_ | refine WD.s' (E := env) (t := .ea _ _) ?_ | refine WD.s' (E := env) (t := .lp _ _) ?_ | refine WD.s' (E := env) (t := .og _ _) ?_ | refine WD.s' (E := env) (t := .agg _) ?_ | refine WD.s' (E := env) (t := .tup _) ?_ | refine WD.s' (E := env) (t := .clo _ _) ?_ | refine WD.ixm' (E := env) ?_ | refine WD.ixo' (E := env) ?_ | refine WD.legm' (E := env) ?_ | refine WD.slS' (E := env) ?_ | refine WD.slD' (E := env) ?_ | refine WG.c (E := env) rfl rfl (hH) rfl rfl ?_ | refine WD.c (E := env) rfl rfl (hH) rfl rfl ?_ | refine WG.co (E := env) rfl rfl (hH) rfl rfl rfl rfl ?_ | refine WG.cx (E := env) rfl (hH) rfl ?_ | refine WG.c (E := env) rfl rfl (b6) rfl rfl ?_ | refine WD.c (E := env) rfl rfl (b6) rfl rfl ?_ | refine WG.co (E := env) rfl rfl (b6) rfl rfl rfl rfl ?_ | refine WG.cx (E := env) rfl (b6) rfl ?_ | ((first | refine WG.sp' (fun h => ?_) fun h => ?_ | refine W.cond' (fun h => ?_) fun h => ?_ | refine WD.sp' (fun h => ?_) fun h => ?_) <;> (try simp only [decide_eq_true_eq, decide_eq_false_iff_not, Bool.not_eq_true', Bool.not_eq_false', Bool.and_eq_true, Bool.or_eq_true, Bool.and_eq_false_iff, Bool.or_eq_false_iff, Bool.not_eq_true, Bool.not_eq_false, Int.not_lt, Int.not_le, List.length_map, beq_self_eq_true, Bool.true_eq_false, Bool.false_eq_true] at h) <;> (try (exfalso; first | contradiction | omega))))
    all_goals first | (exfalso; simp_all; done) | skip
    all_goals (refine W.ret ?_; (first | refine RetQ.b' ?_ | refine RetQ.i' ?_ | refine RetQ.d' ?_ | refine RetQ.t2' ?_ ?_ | refine RetQ.t3' ?_ ?_ ?_))
    all_goals rfl
  rw [if_pos hv]
  rw [decide_eq_true hv] at hH
  generalize hz0 : V.zero = w0 at hn
  have hw0 : w0.fine := hz0 ▸ V.zero_fine
  refine Fun.intro Try.func138 rfl (by kernel_rfl) rfl ?_
  repeat' (first | refine W.seq ?_ | refine W.rg ?_ | refine W.dra' ?_ | refine W.block ?_ | refine W.skip ?_ | refine W.exit ?_ | refine W.cond_true' ?_ | refine W.cond_false' ?_ | refine WG.nil ?_ | refine WG.run' (E := env) ?_ | refine WG.gt' ?_ | refine WG.gf' ?_ | refine WG.ixm' (E := env) ?_ | refine WG.ixo' (E := env) ?_ | refine WG.legm' (E := env) ?_ | refine WG.slS' (E := env) ?_ | refine WG.slD' (E := env) ?_ | refine WG.ap' (E := env) ?_ | refine WD.nil ?_ | refine WD.bs' (E := env) ?_ | refine WD.s' (E := env) (t := .d _) ?_ | refine WD.p' ?_ | refine WD.px' ?_ | refine WD.s' (E := env) (t := .ea _ _) ?_ | refine WD.s' (E := env) (t := .lp _ _) ?_ | refine WD.s' (E := env) (t := .og _ _) ?_ | refine WD.s' (E := env) (t := .agg _) ?_ | refine WD.s' (E := env) (t := .tup _) ?_ | refine WD.s' (E := env) (t := .clo _ _) ?_ | refine WD.ixm' (E := env) ?_ | refine WD.ixo' (E := env) ?_ | refine WD.legm' (E := env) ?_ | refine WD.slS' (E := env) ?_ | refine WD.slD' (E := env) ?_ | refine WG.c (E := env) rfl rfl (hH) rfl rfl ?_ | refine WD.c (E := env) rfl rfl (hH) rfl rfl ?_ | refine WG.co (E := env) rfl rfl (hH) rfl rfl rfl rfl ?_ | refine WG.cx (E := env) rfl (hH) rfl ?_ | refine WG.c (E := env) rfl rfl (hn) rfl rfl ?_ | refine WD.c (E := env) rfl rfl (hn) rfl rfl ?_ | refine WG.co (E := env) rfl rfl (hn) rfl rfl rfl rfl ?_ | refine WG.cx (E := env) rfl (hn) rfl ?_ | refine WG.c (E := env) rfl rfl (p1) rfl rfl ?_ | refine WD.c (E := env) rfl rfl (p1) rfl rfl ?_ | refine WG.co (E := env) rfl rfl (p1) rfl rfl rfl rfl ?_ | refine WG.cx (E := env) rfl (p1) rfl ?_ | ((first | refine WG.sp' (fun h => ?_) fun h => ?_ | refine W.cond' (fun h => ?_) fun h => ?_ | refine WD.sp' (fun h => ?_) fun h => ?_) <;> (try simp only [decide_eq_true_eq, decide_eq_false_iff_not, Bool.not_eq_true', Bool.not_eq_false', Bool.and_eq_true, Bool.or_eq_true, Bool.and_eq_false_iff, Bool.or_eq_false_iff, Bool.not_eq_true, Bool.not_eq_false, Int.not_lt, Int.not_le, List.length_map, beq_self_eq_true, Bool.true_eq_false, Bool.false_eq_true] at h) <;> (try (exfalso; first | contradiction | omega))))
  refine W.loopI (fun m S => ∃ (i : Nat) (w : V), m = vd.length - i ∧ (i ≤ vd.length ∧ w.fine ∧ sumG w (vd.drop i) = sumG w0 vd) ∧
    S = ⟨ofL [(2, .lp 0 0), (3, .lp 1 0), (4, .d (.sl 1 (vd.map partR))), (5, vI .i64 i)],
      [.pv [.d (dI 0), .d (.nl 5)], .pv [.d (dI 0), .d (cellsD w.cells)]]⟩) _ _ ⟨0, w0, rfl, ⟨by omega, hw0, rfl⟩, rfl⟩ (St.imp.of_le (by (refine le_ofL rfl ?_ ?_ <;> (repeat (first | exact trivial | refine ⟨⟨rfl, rfl⟩, ?_⟩ | refine ⟨rfl, .inl rfl, ?_⟩ | refine ⟨rfl, .inr rfl, ?_⟩))))) ?_
  rintro m S ⟨i, w, rfl, ⟨hi, hw, he⟩, rfl⟩
  by_cases hlt : i < vd.length
  · have hk := hkf _ (getD_mem' (show Int.toNat (i : Int) < vd.length by omega))
    have h4 := l3Add_fn w (vd.getD (Int.toNat (i : Int)) default) hw hk
    have hf := addO_fine hw hk
    have he2 : (if (addO w (vd.getD (Int.toNat (i : Int)) default)).1 = 0 then sumG (addO w (vd.getD (Int.toNat (i : Int)) default)).2 (vd.drop (i + 1)) else addO w (vd.getD (Int.toNat (i : Int)) default)) = sumG w0 vd := by
      rw [Int.toNat_natCast, ← he, drop_step hlt, sumG]
    clear he
    generalize addO w (vd.getD (Int.toNat (i : Int)) default) = p at h4 hf he2
    obtain ⟨c, w'⟩ := p
    simp only [] at h4 hf he2
    generalize hoc : outC c w' = oc at h4
    generalize w.cells = wc at *
    repeat' (first | (refine W.dre' (id := 8) [7] (fun f => [.pv [.d (dI 0), .d (.nl 5)], .pv (bif bt f 1 then [.d (dI c), .d (.sl 5 (oc.map Cell.row))] else [.d (dI 0), .d (cellsD wc)])]) [(0, [0]), (0, [0]), (0, [0]), (0, [0]), (0, [0]), (0, [0]), (0, [0]), (1, [0])] [.pv [.d (dI 0), .d (.nl 5)], .pv [.d (dI c), .d (.sl 5 (oc.map Cell.row))]] ?_) | refine WE.mkd (.d (resD c oc)) ?_ (.c (OpS1.c rfl rfl h4 rfl rfl) .n) | refine WE.nil ?_ | refine WE.ixP' ?_ | refine WE.s' (E := env) (t := .d _) ?_ | refine WE.p' ?_ | refine WE.px' ?_ | refine WE.s' (E := env) (t := .lp _ _) ?_ | refine WE.s' (E := env) (t := .og _ _) ?_ | refine WE.s' (E := env) (t := .ea _ _) ?_ | refine WE.s' (E := env) (t := .agg _) ?_ | refine WE.s' (E := env) (t := .tup _) ?_ | refine WE.ixm' (E := env) ?_ | refine WE.ixo' (E := env) ?_ | refine WE.leg' (E := env) ?_ | refine WE.slS' (E := env) ?_ | refine WE.slD' (E := env) ?_ | refine WE.ap' (E := env) ?_ | refine WE.st' (E := env) ?_ | refine WE.seg' (E := env) ?_ | refine WE.bs' (E := env) ?_ | refine W.seq ?_ | refine W.rg ?_ | refine W.dra' ?_ | refine W.block ?_ | refine W.skip ?_ | refine W.exit ?_ | refine W.cond_true' ?_ | refine W.cond_false' ?_ | refine WG.nil ?_ | refine WG.run' (E := env) ?_ | refine WG.gt' ?_ | refine WG.gf' ?_ | refine WG.ixm' (E := env) ?_ | refine WG.ixo' (E := env) ?_ | refine WG.legm' (E := env) ?_ | refine WG.slS' (E := env) ?_ | refine WG.slD' (E := env) ?_ | refine WG.ap' (E := env) ?_ | refine WD.nil ?_ | refine WD.bs' (E := env) ?_ | refine WD.s' (E := env) (t := .d _) ?_ | refine WD.p' ?_ | refine WD.px' ?_ | refine WD.s' (E := env) (t := .ea _ _) ?_ | refine WD.s' (E := env) (t := .lp _ _) ?_ | refine WD.s' (E := env) (t := .og _ _) ?_ | refine WD.s' (E := env) (t := .agg _) ?_ | refine WD.s' (E := env) (t := .tup _) ?_ | refine WD.s' (E := env) (t := .clo _ _) ?_ | refine WD.ixm' (E := env) ?_ | refine WD.ixo' (E := env) ?_ | refine WD.legm' (E := env) ?_ | refine WD.slS' (E := env) ?_ | refine WD.slD' (E := env) ?_ | fail | ((first | refine WG.sp' (fun h => ?_) fun h => ?_ | refine W.cond' (fun h => ?_) fun h => ?_ | refine WD.sp' (fun h => ?_) fun h => ?_) <;> (try simp only [decide_eq_true_eq, decide_eq_false_iff_not, Bool.not_eq_true', Bool.not_eq_false', Bool.and_eq_true, Bool.or_eq_true, Bool.and_eq_false_iff, Bool.or_eq_false_iff, Bool.not_eq_true, Bool.not_eq_false, Int.not_lt, Int.not_le, List.length_map, beq_self_eq_true, Bool.true_eq_false, Bool.false_eq_true] at h) <;> (try (exfalso; first | contradiction | omega))))
    · rw [if_neg (by assumption)] at he2
      rw [← he2, hoc]
      (refine W.ret ?_; (first | refine RetQ.b' ?_ | refine RetQ.i' ?_ | refine RetQ.d' ?_ | refine RetQ.t2' ?_ ?_ | refine RetQ.t3' ?_ ?_ ?_))
      rfl
    · have hc : c = 0 := by assumption
      subst hc
      rw [if_pos rfl] at he2
      rw [outC, if_pos rfl] at hoc
      subst hoc
      exact ⟨_, _, by omega, ⟨i + 1, w', rfl, ⟨by omega, hf, he2⟩, rfl⟩, (St.imp.of_le (by (refine le_ofL rfl ?_ ?_ <;> (repeat (first | exact trivial | refine ⟨⟨rfl, rfl⟩, ?_⟩ | refine ⟨rfl, .inl rfl, ?_⟩ | refine ⟨rfl, .inr rfl, ?_⟩)))))⟩
  · rw [List.drop_eq_nil_of_le (by omega)] at he
    rw [← he]
    repeat' (first | refine W.seq ?_ | refine W.rg ?_ | refine W.dra' ?_ | refine W.block ?_ | refine W.skip ?_ | refine W.exit ?_ | refine W.cond_true' ?_ | refine W.cond_false' ?_ | refine WG.nil ?_ | refine WG.run' (E := env) ?_ | refine WG.gt' ?_ | refine WG.gf' ?_ | refine WG.ixm' (E := env) ?_ | refine WG.ixo' (E := env) ?_ | refine WG.legm' (E := env) ?_ | refine WG.slS' (E := env) ?_ | refine WG.slD' (E := env) ?_ | refine WG.ap' (E := env) ?_ | refine WD.nil ?_ | refine WD.bs' (E := env) ?_ | refine WD.s' (E := env) (t := .d _) ?_ | refine WD.p' ?_ | refine WD.px' ?_ | refine WD.s' (E := env) (t := .ea _ _) ?_ | refine WD.s' (E := env) (t := .lp _ _) ?_ | refine WD.s' (E := env) (t := .og _ _) ?_ | refine WD.s' (E := env) (t := .agg _) ?_ | refine WD.s' (E := env) (t := .tup _) ?_ | refine WD.s' (E := env) (t := .clo _ _) ?_ | refine WD.ixm' (E := env) ?_ | refine WD.ixo' (E := env) ?_ | refine WD.legm' (E := env) ?_ | refine WD.slS' (E := env) ?_ | refine WD.slD' (E := env) ?_ | ((first | refine WG.sp' (fun h => ?_) fun h => ?_ | refine W.cond' (fun h => ?_) fun h => ?_ | refine WD.sp' (fun h => ?_) fun h => ?_) <;> (try simp only [decide_eq_true_eq, decide_eq_false_iff_not, Bool.not_eq_true', Bool.not_eq_false', Bool.and_eq_true, Bool.or_eq_true, Bool.and_eq_false_iff, Bool.or_eq_false_iff, Bool.not_eq_true, Bool.not_eq_false, Int.not_lt, Int.not_le, List.length_map, beq_self_eq_true, Bool.true_eq_false, Bool.false_eq_true] at h) <;> (try (exfalso; first | contradiction | omega))))
    (refine W.ret ?_; (first | refine RetQ.b' ?_ | refine RetQ.i' ?_ | refine RetQ.d' ?_ | refine RetQ.t2' ?_ ?_ | refine RetQ.t3' ?_ ?_ ?_))
    rfl

set_option maxHeartbeats 1000000 in
theorem AddAllS_fn (cs : List Cell) (hf : fitsC cs) : Fun env.P 70 [cellsD cs] (.d (resD (oneCode cs (allO (valOfM cs).1).1) (oneCells cs (allO (valOfM cs).1).1 (allO (valOfM cs).1).2))) [] := by
  have h1 := ValueFaultS_fn cs hf.1 hf.2
  unfold oneCode oneCells
  by_cases h0 : (valOfM cs).2 = 0
  · obtain ⟨f1, e1⟩ := valOfM_fine h0
    rw [h0] at h1
    rw [if_pos h0, if_pos h0]
    have h2 := l3Sum_fn _ f1
    rw [← e1] at h2
    generalize (allO (valOfM cs).1).1 = c at h2 ⊢
    generalize outC c (allO (valOfM cs).1).2 = oc at h2 ⊢
    refine Fun.intro Try.func70 rfl (by kernel_rfl) rfl ?_
    repeat' (first | refine W.seq ?_ | refine W.rg ?_ | refine W.dra' ?_ | refine W.block ?_ | refine W.skip ?_ | refine W.exit ?_ | refine W.cond_true' ?_ | refine W.cond_false' ?_ | refine WG.nil ?_ | refine WG.run' (E := env) ?_ | refine WG.gt' ?_ | refine WG.gf' ?_ | refine WG.ixm' (E := env) ?_ | refine WG.ixo' (E := env) ?_ | refine WG.legm' (E := env) ?_ | refine WG.slS' (E := env) ?_ | refine WG.slD' (E := env) ?_ | refine WG.ap' (E := env) ?_ | refine WD.nil ?_ | refine WD.bs' (E := env) ?_ | refine WD.s' (E := env) (t := .d _) ?_ | refine WD.p' ?_ | refine WD.px' ?_ | refine WD.s' (E := env) (t := .ea _ _) ?_ | refine WD.s' (E := env) (t := .lp _ _) ?_ | refine WD.s' (E := env) (t := .og _ _) ?_ | refine WD.s' (E := env) (t := .agg _) ?_ | refine WD.s' (E := env) (t := .tup _) ?_ | refine WD.s' (E := env) (t := .clo _ _) ?_ | refine WD.ixm' (E := env) ?_ | refine WD.ixo' (E := env) ?_ | refine WD.legm' (E := env) ?_ | refine WD.slS' (E := env) ?_ | refine WD.slD' (E := env) ?_ | refine WG.c (E := env) rfl rfl (h1) rfl rfl ?_ | refine WD.c (E := env) rfl rfl (h1) rfl rfl ?_ | refine WG.co (E := env) rfl rfl (h1) rfl rfl rfl rfl ?_ | refine WG.cx (E := env) rfl (h1) rfl ?_ | refine WG.c (E := env) rfl rfl (h2) rfl rfl ?_ | refine WD.c (E := env) rfl rfl (h2) rfl rfl ?_ | refine WG.co (E := env) rfl rfl (h2) rfl rfl rfl rfl ?_ | refine WG.cx (E := env) rfl (h2) rfl ?_ | ((first | refine WG.sp' (fun h => ?_) fun h => ?_ | refine W.cond' (fun h => ?_) fun h => ?_ | refine WD.sp' (fun h => ?_) fun h => ?_) <;> (try simp only [decide_eq_true_eq, decide_eq_false_iff_not, Bool.not_eq_true', Bool.not_eq_false', Bool.and_eq_true, Bool.or_eq_true, Bool.and_eq_false_iff, Bool.or_eq_false_iff, Bool.not_eq_true, Bool.not_eq_false, Int.not_lt, Int.not_le, List.length_map, beq_self_eq_true, Bool.true_eq_false, Bool.false_eq_true] at h) <;> (try (exfalso; first | contradiction | omega))))
    (refine W.ret ?_; (first | refine RetQ.b' ?_ | refine RetQ.i' ?_ | refine RetQ.d' ?_ | refine RetQ.t2' ?_ ?_ | refine RetQ.t3' ?_ ?_ ?_))
    rfl
  · rw [if_neg h0, if_neg h0]
    have h2 := l3Bad_fn (valOfM cs).2
    generalize (valOfM cs).2 = c at h0 h1 h2 ⊢
    refine Fun.intro Try.func70 rfl (by kernel_rfl) rfl ?_
    repeat' (first | refine W.seq ?_ | refine W.rg ?_ | refine W.dra' ?_ | refine W.block ?_ | refine W.skip ?_ | refine W.exit ?_ | refine W.cond_true' ?_ | refine W.cond_false' ?_ | refine WG.nil ?_ | refine WG.run' (E := env) ?_ | refine WG.gt' ?_ | refine WG.gf' ?_ | refine WG.ixm' (E := env) ?_ | refine WG.ixo' (E := env) ?_ | refine WG.legm' (E := env) ?_ | refine WG.slS' (E := env) ?_ | refine WG.slD' (E := env) ?_ | refine WG.ap' (E := env) ?_ | refine WD.nil ?_ | refine WD.bs' (E := env) ?_ | refine WD.s' (E := env) (t := .d _) ?_ | refine WD.p' ?_ | refine WD.px' ?_ | refine WD.s' (E := env) (t := .ea _ _) ?_ | refine WD.s' (E := env) (t := .lp _ _) ?_ | refine WD.s' (E := env) (t := .og _ _) ?_ | refine WD.s' (E := env) (t := .agg _) ?_ | refine WD.s' (E := env) (t := .tup _) ?_ | refine WD.s' (E := env) (t := .clo _ _) ?_ | refine WD.ixm' (E := env) ?_ | refine WD.ixo' (E := env) ?_ | refine WD.legm' (E := env) ?_ | refine WD.slS' (E := env) ?_ | refine WD.slD' (E := env) ?_ | refine WG.c (E := env) rfl rfl (h1) rfl rfl ?_ | refine WD.c (E := env) rfl rfl (h1) rfl rfl ?_ | refine WG.co (E := env) rfl rfl (h1) rfl rfl rfl rfl ?_ | refine WG.cx (E := env) rfl (h1) rfl ?_ | refine WG.c (E := env) rfl rfl (h2) rfl rfl ?_ | refine WD.c (E := env) rfl rfl (h2) rfl rfl ?_ | refine WG.co (E := env) rfl rfl (h2) rfl rfl rfl rfl ?_ | refine WG.cx (E := env) rfl (h2) rfl ?_ | ((first | refine WG.sp' (fun h => ?_) fun h => ?_ | refine W.cond' (fun h => ?_) fun h => ?_ | refine WD.sp' (fun h => ?_) fun h => ?_) <;> (try simp only [decide_eq_true_eq, decide_eq_false_iff_not, Bool.not_eq_true', Bool.not_eq_false', Bool.and_eq_true, Bool.or_eq_true, Bool.and_eq_false_iff, Bool.or_eq_false_iff, Bool.not_eq_true, Bool.not_eq_false, Int.not_lt, Int.not_le, List.length_map, beq_self_eq_true, Bool.true_eq_false, Bool.false_eq_true] at h) <;> (try (exfalso; first | contradiction | omega))))
    all_goals first | ((refine W.ret ?_; (first | refine RetQ.b' ?_ | refine RetQ.i' ?_ | refine RetQ.d' ?_ | refine RetQ.t2' ?_ ?_ | refine RetQ.t3' ?_ ?_ ?_)); rfl; done) | exact absurd (by assumption) h0

theorem AddAll_both (cs : List Cell) (hf : fitsC cs) : ∃ (code : Int) (rs : List Cell), rs.length ≤ 1048576 ∧ Fun env.P 71 [cellsD cs] (.agg [vI .i64 code, .og 0 0]) [.gr 5 91 (rs.map Cell.row) 0 false] ∧
    Fun env.P 70 [cellsD cs] (.d (.agg [dI code, .sl 5 (rs.map Cell.row)])) [] :=
  ⟨_, _, oneCells_len cs _ fun h0 => allO_fine (valOfM_fine h0).1, AddAll_fn cs hf, AddAllS_fn cs hf⟩

end Go.Proofs.Ytlegadpbjccelaa
