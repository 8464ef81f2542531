/-
  What is sorted is in order, and has all that it had: the law. Conditions: none.
-/
import Derived.Test.YtlegadpbjccelaaQSortsSuB
import Derived.Test.YtlegadpbjccelaaQSortsPa1
import Derived.Test.YtlegadpbjccelaaQSortsMb2
set_option linter.unusedVariables false
set_option linter.unusedSimpArgs false
set_option maxRecDepth 100000
namespace Go.Proofs.Ytlegadpbjccelaa
open Go.RowKit

theorem DrawSortOf_fn (bs : List Int) (hb : okB bs) : FunQ env.P 86 [.d (bytD bs)] [] oneR := by
  have h0 := l1Source_fn bs
  refine FunQ.intro Try.func86 rfl (by kernel_rfl) rfl ?_
  repeat' (first | refine W.seq ?_ | refine W.rg ?_ | refine W.dra' ?_ | refine W.block ?_ | refine W.skip ?_ | refine W.exit ?_ | refine W.cond_true' ?_ | refine W.cond_false' ?_ | refine WG.nil ?_ | refine WG.run' (E := env) ?_ | refine WG.gt' ?_ | refine WG.gf' ?_ | refine WG.ixm' (E := env) ?_ | refine WG.ixo' (E := env) ?_ | refine WG.legm' (E := env) ?_ | refine WG.slS' (E := env) ?_ | refine WG.slD' (E := env) ?_ | refine WG.ap' (E := env) ?_ | refine WD.nil ?_ | refine WD.bs' (E := env) ?_ | refine WD.s' (E := env) (t := .d _) ?_ | refine WD.p' ?_ | refine WD.px' ?_ | refine WD.s' (E := env) (t := .ea _ _) ?_ | refine WD.s' (E := env) (t := .lp _ _) ?_ | refine WD.s' (E := env) (t := .og _ _) ?_ | refine WD.s' (E := env) (t := .agg _) ?_ | refine WD.s' (E := env) (t := .tup _) ?_ | refine WD.s' (E := env) (t := .clo _ _) ?_ | refine WD.ixm' (E := env) ?_ | refine WD.ixo' (E := env) ?_ | refine WD.legm' (E := env) ?_ | refine WD.slS' (E := env) ?_ | refine WD.slD' (E := env) ?_ | (refine WG.cQ (E := env) [0] [0] false rfl rfl (l1Bent_fn bs hb 0 ⟨by omega, by omega⟩) rfl rfl rfl rfl rfl rfl rfl ⟨rfl, trivial⟩ (.inl rfl) (fun t ob ⟨k', cs', e1, e2, _⟩ => ⟨by subst e2; rfl, fun h => nomatch h⟩) ?_; rintro _ _ ⟨k1, a, rfl, rfl, hk1, hk2, ha⟩; refine (show WG _ _ _ _ _ _ ⟨upd _ _ (.d (cellsD a)), [srcO bs k1]⟩ from ?_)) | refine WG.c (E := env) rfl rfl (h0) rfl rfl ?_ | refine WD.c (E := env) rfl rfl (h0) rfl rfl ?_ | refine WG.co (E := env) rfl rfl (h0) rfl rfl rfl rfl ?_ | refine WG.cx (E := env) rfl (h0) rfl ?_ | ((first | refine WG.sp' (fun h => ?_) fun h => ?_ | refine W.cond' (fun h => ?_) fun h => ?_ | refine WD.sp' (fun h => ?_) fun h => ?_) <;> (try simp only [decide_eq_true_eq, decide_eq_false_iff_not, Bool.not_eq_true', Bool.not_eq_false', Bool.and_eq_true, Bool.or_eq_true, Bool.and_eq_false_iff, Bool.or_eq_false_iff, Bool.not_eq_true, Bool.not_eq_false, Int.not_lt, Int.not_le, List.length_map, beq_self_eq_true, Bool.true_eq_false, Bool.false_eq_true] at h) <;> (try (exfalso; first | contradiction | omega))))
  refine W.ret ?_
  exact RetR.own (ob' := []) ⟨[], [], 1⟩ (.inl rfl) rfl (by first | trivial | exact resOK_of (E := env) rfl) rfl rfl rfl rfl rfl rfl trivial rfl ⟨a, rfl, rfl, ha⟩

theorem cmpM_fn {v w : V} (hv : v.fine) (hw : w.fine) : Fun env.P 22 [cellsD v.cells, cellsD w.cells] (.d (dI (V.cmp v w))) [] := by
  have h := CompareValues_fn v.cells w.cells (fine_fits hv) (fine_fits hw)
  rwa [cmpRes_of (by rw [V.fine_val hv]) (by rw [V.fine_val hw]), V.fine_val hv, V.fine_val hw] at h
theorem samM_fn {v w : V} (hv : v.fine) (hw : w.fine) : Fun env.P 23 [cellsD v.cells, cellsD w.cells] (.d (dB (decide (V.cmp v w = 0)))) [] := by
  have h := SameValues_fn v.cells w.cells (fine_fits hv) (fine_fits hw)
  rw [cmpRes_of (by rw [V.fine_val hv]) (by rw [V.fine_val hw]), V.fine_val hv, V.fine_val hw] at h
  simpa using h
theorem sortM_fn {v : V} (hf : v.fine) (hk : v.kind = 5) : Fun env.P 85 [cellsD v.cells] (.d (resD 0 (arrV (sortV v.kids)).cells)) [] := by
  have h := FunQ.pubA rfl (SortOf_fn v.cells (fine_fits hf))
  unfold oneCode oneCells at h
  rw [V.fine_val hf, if_pos rfl, if_pos rfl] at h
  unfold sortO at h
  rw [if_pos hk] at h
  exact h
theorem eachM_fn {v : V} (hf : v.fine) (hk : v.kind = 5) : Fun env.P 27 [cellsD v.cells] (.d (.agg [dI 0, .sl 1 (v.kids.map partR)])) [] := by
  have h := EachOfD_fn v.cells (fine_fits hf)
  unfold eachC eachL at h
  rw [V.fine_val hf, if_pos rfl, if_pos rfl, if_pos (Or.inl hk), if_pos (Or.inl hk)] at h
  exact h
theorem faulM_fn {v : V} (hf : v.fine) : Fun env.P 21 [cellsD v.cells] (.d (dI 0)) [] := by
  have h := ValueFault_fn v.cells (fine_fits hf).1 (fine_fits hf).2
  rwa [V.fine_val hf] at h

/-- How often a value is among these. -/
def cntV (x : V) (l : List V) : Nat := l.countP fun w => decide (V.cmp x w = 0)
theorem cntV_step (x : V) {l : List V} {k : Nat} (hk : k < l.length) : cntV x (l.take (k + 1)) = cntV x (l.take k) + (if V.cmp x (l.getD k default) = 0 then 1 else 0) := by
  unfold cntV
  rw [take_step hk, List.countP_append]
  simp [List.countP_cons]
theorem cntV_le (x : V) (l : List V) (k : Nat) : cntV x (l.take k) ≤ k := by
  unfold cntV
  exact Nat.le_trans List.countP_le_length (by rw [List.length_take]; omega)

set_option maxHeartbeats 8000000 in
theorem lawSorts_fn (bs : List Int) (hm : bs.length ≤ maxLen) (h8 : ∀ b ∈ bs, 0 ≤ b ∧ b ≤ 255) : Fun env.P 16 [bytD bs] (.d (dB true)) [] := by
  have hbig := lwBig_fn bs
  by_cases hl : 1048576 < bs.length
  · refine Fun.intro Try.func16 rfl (by kernel_rfl) rfl ?_
    repeat' (first | refine W.seq ?_ | refine W.rg ?_ | refine W.dra' ?_ | refine W.block ?_ | refine W.skip ?_ | refine W.exit ?_ | refine W.cond_true' ?_ | refine W.cond_false' ?_ | refine WG.nil ?_ | refine WG.run' (E := env) ?_ | refine WG.gt' ?_ | refine WG.gf' ?_ | refine WG.ixm' (E := env) ?_ | refine WG.ixo' (E := env) ?_ | refine WG.legm' (E := env) ?_ | refine WG.slS' (E := env) ?_ | refine WG.slD' (E := env) ?_ | refine WG.ap' (E := env) ?_ | refine WD.nil ?_ | refine WD.bs' (E := env) ?_ | refine WD.s' (E := env) (t := .d _) ?_ | refine WD.p' ?_ | refine WD.px' ?_ | refine WD.s' (E := env) (t := .ea _ _) ?_ | refine WD.s' (E := env) (t := .lp _ _) ?_ | refine WD.s' (E := env) (t := .og _ _) ?_ | refine WD.s' (E := env) (t := .agg _) ?_ | refine WD.s' (E := env) (t := .tup _) ?_ | refine WD.s' (E := env) (t := .clo _ _) ?_ | refine WD.ixm' (E := env) ?_ | refine WD.ixo' (E := env) ?_ | refine WD.legm' (E := env) ?_ | refine WD.slS' (E := env) ?_ | refine WD.slD' (E := env) ?_ | refine WG.c (E := env) rfl rfl (hbig) rfl rfl ?_ | refine WD.c (E := env) rfl rfl (hbig) rfl rfl ?_ | refine WG.co (E := env) rfl rfl (hbig) rfl rfl rfl rfl ?_ | refine WG.cx (E := env) rfl (hbig) rfl ?_ | ((first | refine WG.sp' (fun h => ?_) fun h => ?_ | refine W.cond' (fun h => ?_) fun h => ?_ | refine WD.sp' (fun h => ?_) fun h => ?_) <;> (try simp only [decide_eq_true_eq, decide_eq_false_iff_not, Bool.not_eq_true', Bool.not_eq_false', Bool.and_eq_true, Bool.or_eq_true, Bool.and_eq_false_iff, Bool.or_eq_false_iff, Bool.not_eq_true, Bool.not_eq_false, Int.not_lt, Int.not_le, List.length_map, beq_self_eq_true, Bool.true_eq_false, Bool.false_eq_true] at h) <;> (try (exfalso; first | contradiction | omega))))
    all_goals first | (exfalso; simp at *; omega) | skip
    all_goals (refine W.ret ?_; (first | refine RetQ.b' ?_ | refine RetQ.i' ?_ | refine RetQ.d' ?_ | refine RetQ.t2' ?_ ?_ | refine RetQ.t3' ?_ ?_ ?_))
    all_goals rfl
  have hb : okB bs := ⟨by omega, h8⟩
  refine Fun.intro Try.func16 rfl (by kernel_rfl) rfl ?_
  repeat' (first | refine W.seq ?_ | refine W.rg ?_ | refine W.dra' ?_ | refine W.block ?_ | refine W.skip ?_ | refine W.exit ?_ | refine W.cond_true' ?_ | refine W.cond_false' ?_ | refine WG.nil ?_ | refine WG.run' (E := env) ?_ | refine WG.gt' ?_ | refine WG.gf' ?_ | refine WG.ixm' (E := env) ?_ | refine WG.ixo' (E := env) ?_ | refine WG.legm' (E := env) ?_ | refine WG.slS' (E := env) ?_ | refine WG.slD' (E := env) ?_ | refine WG.ap' (E := env) ?_ | refine WD.nil ?_ | refine WD.bs' (E := env) ?_ | refine WD.s' (E := env) (t := .d _) ?_ | refine WD.p' ?_ | refine WD.px' ?_ | refine WD.s' (E := env) (t := .ea _ _) ?_ | refine WD.s' (E := env) (t := .lp _ _) ?_ | refine WD.s' (E := env) (t := .og _ _) ?_ | refine WD.s' (E := env) (t := .agg _) ?_ | refine WD.s' (E := env) (t := .tup _) ?_ | refine WD.s' (E := env) (t := .clo _ _) ?_ | refine WD.ixm' (E := env) ?_ | refine WD.ixo' (E := env) ?_ | refine WD.legm' (E := env) ?_ | refine WD.slS' (E := env) ?_ | refine WD.slD' (E := env) ?_ | (refine WG.cQ (E := env) [] [] false rfl rfl (DrawSortOf_fn bs hb) rfl rfl rfl rfl rfl rfl rfl trivial (.inl rfl) (fun t ob ⟨a, e1, e2, _⟩ => ⟨by subst e2; rfl, fun h => nomatch h⟩) ?_; rintro _ _ ⟨a, rfl, rfl, ha⟩; refine (show WG _ _ _ _ _ _ ⟨upd _ _ (.d (cellsD a)), []⟩ from ?_)) | refine WG.c (E := env) rfl rfl (hbig) rfl rfl ?_ | refine WD.c (E := env) rfl rfl (hbig) rfl rfl ?_ | refine WG.co (E := env) rfl rfl (hbig) rfl rfl rfl rfl ?_ | refine WG.cx (E := env) rfl (hbig) rfl ?_ | ((first | refine WG.sp' (fun h => ?_) fun h => ?_ | refine W.cond' (fun h => ?_) fun h => ?_ | refine WD.sp' (fun h => ?_) fun h => ?_) <;> (try simp only [decide_eq_true_eq, decide_eq_false_iff_not, Bool.not_eq_true', Bool.not_eq_false', Bool.and_eq_true, Bool.or_eq_true, Bool.and_eq_false_iff, Bool.or_eq_false_iff, Bool.not_eq_true, Bool.not_eq_false, Int.not_lt, Int.not_le, List.length_map, beq_self_eq_true, Bool.true_eq_false, Bool.false_eq_true] at h) <;> (try (exfalso; first | contradiction | omega))))
  all_goals first | (exfalso; simp at *; omega) | skip
  have h1 := FunQ.pubA rfl (SortOf_fn a ha)
  have h2 := SortOfS_fn a ha
  by_cases hc : oneCode a (sortO (valOfM a).1).1 = 0
  case neg =>
    generalize oneCode a (sortO (valOfM a).1).1 = code at h1 h2 hc
    generalize oneCells a (sortO (valOfM a).1).1 (sortO (valOfM a).1).2 = rs at h1 h2
    repeat' (first | refine W.seq ?_ | refine W.rg ?_ | refine W.dra' ?_ | refine W.block ?_ | refine W.skip ?_ | refine W.exit ?_ | refine W.cond_true' ?_ | refine W.cond_false' ?_ | refine WG.nil ?_ | refine WG.run' (E := env) ?_ | refine WG.gt' ?_ | refine WG.gf' ?_ | refine WG.ixm' (E := env) ?_ | refine WG.ixo' (E := env) ?_ | refine WG.legm' (E := env) ?_ | refine WG.slS' (E := env) ?_ | refine WG.slD' (E := env) ?_ | refine WG.ap' (E := env) ?_ | refine WD.nil ?_ | refine WD.bs' (E := env) ?_ | refine WD.s' (E := env) (t := .d _) ?_ | refine WD.p' ?_ | refine WD.px' ?_ | refine WD.s' (E := env) (t := .ea _ _) ?_ | refine WD.s' (E := env) (t := .lp _ _) ?_ | refine WD.s' (E := env) (t := .og _ _) ?_ | refine WD.s' (E := env) (t := .agg _) ?_ | refine WD.s' (E := env) (t := .tup _) ?_ | refine WD.s' (E := env) (t := .clo _ _) ?_ | refine WD.ixm' (E := env) ?_ | refine WD.ixo' (E := env) ?_ | refine WD.legm' (E := env) ?_ | refine WD.slS' (E := env) ?_ | refine WD.slD' (E := env) ?_ | refine WG.c (E := env) rfl rfl (h1) rfl rfl ?_ | refine WD.c (E := env) rfl rfl (h1) rfl rfl ?_ | refine WG.co (E := env) rfl rfl (h1) rfl rfl rfl rfl ?_ | refine WG.cx (E := env) rfl (h1) rfl ?_ | refine WG.c (E := env) rfl rfl (h2) rfl rfl ?_ | refine WD.c (E := env) rfl rfl (h2) rfl rfl ?_ | refine WG.co (E := env) rfl rfl (h2) rfl rfl rfl rfl ?_ | refine WG.cx (E := env) rfl (h2) rfl ?_ | ((first | refine WG.sp' (fun h => ?_) fun h => ?_ | refine W.cond' (fun h => ?_) fun h => ?_ | refine WD.sp' (fun h => ?_) fun h => ?_) <;> (try simp only [decide_eq_true_eq, decide_eq_false_iff_not, Bool.not_eq_true', Bool.not_eq_false', Bool.and_eq_true, Bool.or_eq_true, Bool.and_eq_false_iff, Bool.or_eq_false_iff, Bool.not_eq_true, Bool.not_eq_false, Int.not_lt, Int.not_le, List.length_map, beq_self_eq_true, Bool.true_eq_false, Bool.false_eq_true] at h) <;> (try (exfalso; first | contradiction | omega))))
    all_goals first | (exfalso; omega) | skip
    all_goals (refine W.ret ?_; (first | refine RetQ.b' ?_ | refine RetQ.i' ?_ | refine RetQ.d' ?_ | refine RetQ.t2' ?_ ?_ | refine RetQ.t3' ?_ ?_ ?_))
    all_goals simp
  clear h1 h2
  have h0 : (valOfM a).2 = 0 := Classical.byContradiction fun h => h (by rw [← hc, oneCode, if_neg h])
  have hk : (valOfM a).1.kind = 5 := Classical.byContradiction fun h => by rw [oneCode, if_pos h0, sortO, if_neg h] at hc; exact absurd hc (by decide)
  clear hc
  obtain ⟨hf, ea⟩ := valOfM_fine h0
  generalize (valOfM a).1 = v at *
  subst ea
  have hfz := arrV_sort_fine hf
  have h1 := sortM_fn hf hk
  have h3 := eachM_fn hf hk
  have hkf := fun k hk => (V.fine_kids hf k hk).1
  have p := sortV_perm v.kids
  have hpl := p.length_eq
  have hsr := sortV_srt v.kids
  have hsf : ∀ w ∈ sortV v.kids, w.fine := fun w hw => hkf w (p.mem_iff.2 hw)
  have hwk : (arrV (sortV v.kids)).kind = 5 := rfl
  have h4 := eachM_fn hfz hwk
  have h5 := faulM_fn hfz
  have h6 := sortM_fn hfz hwk
  have h7 := samM_fn hfz hfz
  rw [show (arrV (sortV v.kids)).kids = sortV v.kids from rfl] at h4 h6
  rw [← sortV_eq (List.Perm.refl (sortV v.kids)) hsr] at h6
  rw [V.cmp_self] at h7
  have hlc := V.length_counts v.kids
  have hce := V.count_eq v
  have hv200 := hf.2.1
  generalize hS : sortV v.kids = sv at *
  generalize hK : v.kids = kv at *
  generalize (arrV sv).cells = wc at *
  have hml : (kv.map partR).length = kv.length := by simp
  have hms : (sv.map partR).length = sv.length := by simp
  repeat' (first | refine W.seq ?_ | refine W.rg ?_ | refine W.dra' ?_ | refine W.block ?_ | refine W.skip ?_ | refine W.exit ?_ | refine W.cond_true' ?_ | refine W.cond_false' ?_ | refine WG.nil ?_ | refine WG.run' (E := env) ?_ | refine WG.gt' ?_ | refine WG.gf' ?_ | refine WG.ixm' (E := env) ?_ | refine WG.ixo' (E := env) ?_ | refine WG.legm' (E := env) ?_ | refine WG.slS' (E := env) ?_ | refine WG.slD' (E := env) ?_ | refine WG.ap' (E := env) ?_ | refine WD.nil ?_ | refine WD.bs' (E := env) ?_ | refine WD.s' (E := env) (t := .d _) ?_ | refine WD.p' ?_ | refine WD.px' ?_ | refine WD.s' (E := env) (t := .ea _ _) ?_ | refine WD.s' (E := env) (t := .lp _ _) ?_ | refine WD.s' (E := env) (t := .og _ _) ?_ | refine WD.s' (E := env) (t := .agg _) ?_ | refine WD.s' (E := env) (t := .tup _) ?_ | refine WD.s' (E := env) (t := .clo _ _) ?_ | refine WD.ixm' (E := env) ?_ | refine WD.ixo' (E := env) ?_ | refine WD.legm' (E := env) ?_ | refine WD.slS' (E := env) ?_ | refine WD.slD' (E := env) ?_ | refine WG.c (E := env) rfl rfl (h1) rfl rfl ?_ | refine WD.c (E := env) rfl rfl (h1) rfl rfl ?_ | refine WG.co (E := env) rfl rfl (h1) rfl rfl rfl rfl ?_ | refine WG.cx (E := env) rfl (h1) rfl ?_ | refine WG.c (E := env) rfl rfl (h3) rfl rfl ?_ | refine WD.c (E := env) rfl rfl (h3) rfl rfl ?_ | refine WG.co (E := env) rfl rfl (h3) rfl rfl rfl rfl ?_ | refine WG.cx (E := env) rfl (h3) rfl ?_ | refine WG.c (E := env) rfl rfl (h4) rfl rfl ?_ | refine WD.c (E := env) rfl rfl (h4) rfl rfl ?_ | refine WG.co (E := env) rfl rfl (h4) rfl rfl rfl rfl ?_ | refine WG.cx (E := env) rfl (h4) rfl ?_ | refine WG.c (E := env) rfl rfl (h5) rfl rfl ?_ | refine WD.c (E := env) rfl rfl (h5) rfl rfl ?_ | refine WG.co (E := env) rfl rfl (h5) rfl rfl rfl rfl ?_ | refine WG.cx (E := env) rfl (h5) rfl ?_ | ((first | refine WG.sp' (fun h => ?_) fun h => ?_ | refine W.cond' (fun h => ?_) fun h => ?_ | refine WD.sp' (fun h => ?_) fun h => ?_) <;> (try simp only [decide_eq_true_eq, decide_eq_false_iff_not, Bool.not_eq_true', Bool.not_eq_false', Bool.and_eq_true, Bool.or_eq_true, Bool.and_eq_false_iff, Bool.or_eq_false_iff, Bool.not_eq_true, Bool.not_eq_false, Int.not_lt, Int.not_le, List.length_map, beq_self_eq_true, Bool.true_eq_false, Bool.false_eq_true] at h) <;> (try (exfalso; first | contradiction | omega))))
  all_goals first | (exfalso; simp at *; omega) | skip
  refine W.loopI (fun m S => ∃ i : Nat, m = sv.length - i ∧ i ≤ sv.length ∧ S = ⟨ofL [(4, .lp 0 0), (5, .d (.sl 1 (sv.map partR))), (6, .d (.sl 1 (kv.map partR))), (7, vI .i64 i)], [.pv [.d (dI 0), .d (cellsD wc)]]⟩) _ _ ⟨0, rfl, by omega, rfl⟩ (St.imp.of_le (by (refine le_ofL rfl ?_ ?_ <;> (repeat (first | exact trivial | refine ⟨⟨rfl, rfl⟩, ?_⟩ | refine ⟨rfl, .inl rfl, ?_⟩ | refine ⟨rfl, .inr rfl, ?_⟩))))) ?_
  rintro m S ⟨i, rfl, hi, rfl⟩
  by_cases hlt : i < sv.length
  · have e0 : Int.toNat (i : Int) = i := Int.toNat_natCast i
    have hxf : (sv.getD (Int.toNat (i : Int)) default).fine := hsf _ (getD_mem' (by omega))
    have hle : V.cmp (sv.getD (Int.toNat ((i : Int) - 1)) default) (sv.getD (Int.toNat (i : Int)) default) ≤ 0 :=
      hsr.at (i := Int.toNat ((i : Int) - 1)) (j := Int.toNat (i : Int)) (by omega) (getD_some (by omega)) (getD_some (by omega))
    have hc := cmpM_fn (v := sv.getD (Int.toNat ((i : Int) - 1)) default) (w := sv.getD (Int.toNat (i : Int)) default) (hsf _ (getD_mem' (by omega))) hxf
    generalize V.cmp (sv.getD (Int.toNat ((i : Int) - 1)) default) (sv.getD (Int.toNat (i : Int)) default) = c at hc hle
    have hcnt : cntV (sv.getD (Int.toNat (i : Int)) default) sv = cntV (sv.getD (Int.toNat (i : Int)) default) kv := p.symm.countP_eq _
    repeat' (first | refine W.seq ?_ | refine W.rg ?_ | refine W.dra' ?_ | refine W.block ?_ | refine W.skip ?_ | refine W.exit ?_ | refine W.cond_true' ?_ | refine W.cond_false' ?_ | refine WG.nil ?_ | refine WG.run' (E := env) ?_ | refine WG.gt' ?_ | refine WG.gf' ?_ | refine WG.ixm' (E := env) ?_ | refine WG.ixo' (E := env) ?_ | refine WG.legm' (E := env) ?_ | refine WG.slS' (E := env) ?_ | refine WG.slD' (E := env) ?_ | refine WG.ap' (E := env) ?_ | refine WD.nil ?_ | refine WD.bs' (E := env) ?_ | refine WD.s' (E := env) (t := .d _) ?_ | refine WD.p' ?_ | refine WD.px' ?_ | refine WD.s' (E := env) (t := .ea _ _) ?_ | refine WD.s' (E := env) (t := .lp _ _) ?_ | refine WD.s' (E := env) (t := .og _ _) ?_ | refine WD.s' (E := env) (t := .agg _) ?_ | refine WD.s' (E := env) (t := .tup _) ?_ | refine WD.s' (E := env) (t := .clo _ _) ?_ | refine WD.ixm' (E := env) ?_ | refine WD.ixo' (E := env) ?_ | refine WD.legm' (E := env) ?_ | refine WD.slS' (E := env) ?_ | refine WD.slD' (E := env) ?_ | refine WG.c (E := env) rfl rfl (hc) rfl rfl ?_ | refine WD.c (E := env) rfl rfl (hc) rfl rfl ?_ | refine WG.co (E := env) rfl rfl (hc) rfl rfl rfl rfl ?_ | refine WG.cx (E := env) rfl (hc) rfl ?_ | ((first | refine WG.sp' (fun h => ?_) fun h => ?_ | refine W.cond' (fun h => ?_) fun h => ?_ | refine WD.sp' (fun h => ?_) fun h => ?_) <;> (try simp only [decide_eq_true_eq, decide_eq_false_iff_not, Bool.not_eq_true', Bool.not_eq_false', Bool.and_eq_true, Bool.or_eq_true, Bool.and_eq_false_iff, Bool.or_eq_false_iff, Bool.not_eq_true, Bool.not_eq_false, Int.not_lt, Int.not_le, List.length_map, beq_self_eq_true, Bool.true_eq_false, Bool.false_eq_true] at h) <;> (try (exfalso; first | contradiction | omega))))
    all_goals first | (exfalso; omega) | skip
    all_goals (
      refine W.loopI (fun m S => ∃ (k : Nat) (a b : Int), m = sv.length - k ∧ (k ≤ sv.length ∧ a = cntV (sv.getD (Int.toNat (i : Int)) default) (sv.take k) ∧ b = cntV (sv.getD (Int.toNat (i : Int)) default) (kv.take k)) ∧
        S = ⟨ofL [(4, .lp 0 0), (5, .d (.sl 1 (sv.map partR))), (6, .d (.sl 1 (kv.map partR))), (7, vI .i64 i), (8, vI .i64 a), (9, vI .i64 b), (10, vI .i64 k)], [.pv [.d (dI 0), .d (cellsD wc)]]⟩) _ _
        ⟨0, 0, 0, rfl, ⟨by omega, rfl, rfl⟩, rfl⟩ (St.imp.of_le (by (refine le_ofL rfl ?_ ?_ <;> (repeat (first | exact trivial | refine ⟨⟨rfl, rfl⟩, ?_⟩ | refine ⟨rfl, .inl rfl, ?_⟩ | refine ⟨rfl, .inr rfl, ?_⟩))))) ?_
      rintro m S ⟨k, a, b, rfl, ⟨hk, ha, hb⟩, rfl⟩
      have la := cntV_le (sv.getD (Int.toNat (i : Int)) default) sv k
      have lb := cntV_le (sv.getD (Int.toNat (i : Int)) default) kv k
      by_cases hlt2 : k < sv.length
      · have ek : Int.toNat (k : Int) = k := Int.toNat_natCast k
        have s1 := samM_fn (v := sv.getD (Int.toNat (i : Int)) default) (w := sv.getD (Int.toNat (k : Int)) default) hxf (hsf _ (getD_mem' (by omega)))
        have s2 := samM_fn (v := sv.getD (Int.toNat (i : Int)) default) (w := kv.getD (Int.toNat (k : Int)) default) hxf (hkf _ (getD_mem' (by omega)))
        have t1 := cntV_step (sv.getD (Int.toNat (i : Int)) default) (l := sv) (k := k) hlt2
        have t2 := cntV_step (sv.getD (Int.toNat (i : Int)) default) (l := kv) (k := k) (by omega)
        rw [show sv.getD k default = sv.getD (Int.toNat (k : Int)) default by rw [ek]] at t1
        rw [show kv.getD k default = kv.getD (Int.toNat (k : Int)) default by rw [ek]] at t2
        generalize V.cmp (sv.getD (Int.toNat (i : Int)) default) (sv.getD (Int.toNat (k : Int)) default) = c1 at s1 t1
        generalize V.cmp (sv.getD (Int.toNat (i : Int)) default) (kv.getD (Int.toNat (k : Int)) default) = c2 at s2 t2
        repeat' (first | refine W.seq ?_ | refine W.rg ?_ | refine W.dra' ?_ | refine W.block ?_ | refine W.skip ?_ | refine W.exit ?_ | refine W.cond_true' ?_ | refine W.cond_false' ?_ | refine WG.nil ?_ | refine WG.run' (E := env) ?_ | refine WG.gt' ?_ | refine WG.gf' ?_ | refine WG.ixm' (E := env) ?_ | refine WG.ixo' (E := env) ?_ | refine WG.legm' (E := env) ?_ | refine WG.slS' (E := env) ?_ | refine WG.slD' (E := env) ?_ | refine WG.ap' (E := env) ?_ | refine WD.nil ?_ | refine WD.bs' (E := env) ?_ | refine WD.s' (E := env) (t := .d _) ?_ | refine WD.p' ?_ | refine WD.px' ?_ | refine WD.s' (E := env) (t := .ea _ _) ?_ | refine WD.s' (E := env) (t := .lp _ _) ?_ | refine WD.s' (E := env) (t := .og _ _) ?_ | refine WD.s' (E := env) (t := .agg _) ?_ | refine WD.s' (E := env) (t := .tup _) ?_ | refine WD.s' (E := env) (t := .clo _ _) ?_ | refine WD.ixm' (E := env) ?_ | refine WD.ixo' (E := env) ?_ | refine WD.legm' (E := env) ?_ | refine WD.slS' (E := env) ?_ | refine WD.slD' (E := env) ?_ | refine WG.c (E := env) rfl rfl (s1) rfl rfl ?_ | refine WD.c (E := env) rfl rfl (s1) rfl rfl ?_ | refine WG.co (E := env) rfl rfl (s1) rfl rfl rfl rfl ?_ | refine WG.cx (E := env) rfl (s1) rfl ?_ | refine WG.c (E := env) rfl rfl (s2) rfl rfl ?_ | refine WD.c (E := env) rfl rfl (s2) rfl rfl ?_ | refine WG.co (E := env) rfl rfl (s2) rfl rfl rfl rfl ?_ | refine WG.cx (E := env) rfl (s2) rfl ?_ | ((first | refine WG.sp' (fun h => ?_) fun h => ?_ | refine W.cond' (fun h => ?_) fun h => ?_ | refine WD.sp' (fun h => ?_) fun h => ?_) <;> (try simp only [decide_eq_true_eq, decide_eq_false_iff_not, Bool.not_eq_true', Bool.not_eq_false', Bool.and_eq_true, Bool.or_eq_true, Bool.and_eq_false_iff, Bool.or_eq_false_iff, Bool.not_eq_true, Bool.not_eq_false, Int.not_lt, Int.not_le, List.length_map, beq_self_eq_true, Bool.true_eq_false, Bool.false_eq_true] at h) <;> (try (exfalso; first | contradiction | omega))))
        all_goals first | (exfalso; omega) | skip
        all_goals (
          refine ⟨_, _, ?_, ⟨k + 1, _, _, rfl, ⟨by omega, ?_, ?_⟩, rfl⟩, (St.imp.of_le (by (refine le_ofL rfl ?_ ?_ <;> (repeat (first | exact trivial | refine ⟨⟨rfl, rfl⟩, ?_⟩ | refine ⟨rfl, .inl rfl, ?_⟩ | refine ⟨rfl, .inr rfl, ?_⟩)))))⟩
          · omega
          · rw [t1]
            first
              | (rw [if_pos (by assumption)]; omega)
              | (rw [if_neg (by assumption)]; omega)
          · rw [t2]
            first
              | (rw [if_pos (by assumption)]; omega)
              | (rw [if_neg (by assumption)]; omega))
      · obtain rfl : k = sv.length := by omega
        rw [List.take_length] at ha
        rw [← hpl, List.take_length] at hb
        repeat' (first | refine W.seq ?_ | refine W.rg ?_ | refine W.dra' ?_ | refine W.block ?_ | refine W.skip ?_ | refine W.exit ?_ | refine W.cond_true' ?_ | refine W.cond_false' ?_ | refine WG.nil ?_ | refine WG.run' (E := env) ?_ | refine WG.gt' ?_ | refine WG.gf' ?_ | refine WG.ixm' (E := env) ?_ | refine WG.ixo' (E := env) ?_ | refine WG.legm' (E := env) ?_ | refine WG.slS' (E := env) ?_ | refine WG.slD' (E := env) ?_ | refine WG.ap' (E := env) ?_ | refine WD.nil ?_ | refine WD.bs' (E := env) ?_ | refine WD.s' (E := env) (t := .d _) ?_ | refine WD.p' ?_ | refine WD.px' ?_ | refine WD.s' (E := env) (t := .ea _ _) ?_ | refine WD.s' (E := env) (t := .lp _ _) ?_ | refine WD.s' (E := env) (t := .og _ _) ?_ | refine WD.s' (E := env) (t := .agg _) ?_ | refine WD.s' (E := env) (t := .tup _) ?_ | refine WD.s' (E := env) (t := .clo _ _) ?_ | refine WD.ixm' (E := env) ?_ | refine WD.ixo' (E := env) ?_ | refine WD.legm' (E := env) ?_ | refine WD.slS' (E := env) ?_ | refine WD.slD' (E := env) ?_ | ((first | refine WG.sp' (fun h => ?_) fun h => ?_ | refine W.cond' (fun h => ?_) fun h => ?_ | refine WD.sp' (fun h => ?_) fun h => ?_) <;> (try simp only [decide_eq_true_eq, decide_eq_false_iff_not, Bool.not_eq_true', Bool.not_eq_false', Bool.and_eq_true, Bool.or_eq_true, Bool.and_eq_false_iff, Bool.or_eq_false_iff, Bool.not_eq_true, Bool.not_eq_false, Int.not_lt, Int.not_le, List.length_map, beq_self_eq_true, Bool.true_eq_false, Bool.false_eq_true] at h) <;> (try (exfalso; first | contradiction | omega))))
        all_goals first | (exfalso; omega) | skip
        refine ⟨_, _, ?_, ⟨i + 1, rfl, by omega, rfl⟩, (St.imp.of_le (by (refine le_ofL rfl ?_ ?_ <;> (repeat (first | exact trivial | refine ⟨⟨rfl, rfl⟩, ?_⟩ | refine ⟨rfl, .inl rfl, ?_⟩ | refine ⟨rfl, .inr rfl, ?_⟩)))))⟩
        omega)
  · obtain rfl : i = sv.length := by omega
    repeat' (first | refine W.seq ?_ | refine W.rg ?_ | refine W.dra' ?_ | refine W.block ?_ | refine W.skip ?_ | refine W.exit ?_ | refine W.cond_true' ?_ | refine W.cond_false' ?_ | refine WG.nil ?_ | refine WG.run' (E := env) ?_ | refine WG.gt' ?_ | refine WG.gf' ?_ | refine WG.ixm' (E := env) ?_ | refine WG.ixo' (E := env) ?_ | refine WG.legm' (E := env) ?_ | refine WG.slS' (E := env) ?_ | refine WG.slD' (E := env) ?_ | refine WG.ap' (E := env) ?_ | refine WD.nil ?_ | refine WD.bs' (E := env) ?_ | refine WD.s' (E := env) (t := .d _) ?_ | refine WD.p' ?_ | refine WD.px' ?_ | refine WD.s' (E := env) (t := .ea _ _) ?_ | refine WD.s' (E := env) (t := .lp _ _) ?_ | refine WD.s' (E := env) (t := .og _ _) ?_ | refine WD.s' (E := env) (t := .agg _) ?_ | refine WD.s' (E := env) (t := .tup _) ?_ | refine WD.s' (E := env) (t := .clo _ _) ?_ | refine WD.ixm' (E := env) ?_ | refine WD.ixo' (E := env) ?_ | refine WD.legm' (E := env) ?_ | refine WD.slS' (E := env) ?_ | refine WD.slD' (E := env) ?_ | refine WG.c (E := env) rfl rfl (h6) rfl rfl ?_ | refine WD.c (E := env) rfl rfl (h6) rfl rfl ?_ | refine WG.co (E := env) rfl rfl (h6) rfl rfl rfl rfl ?_ | refine WG.cx (E := env) rfl (h6) rfl ?_ | refine WG.c (E := env) rfl rfl (h7) rfl rfl ?_ | refine WD.c (E := env) rfl rfl (h7) rfl rfl ?_ | refine WG.co (E := env) rfl rfl (h7) rfl rfl rfl rfl ?_ | refine WG.cx (E := env) rfl (h7) rfl ?_ | ((first | refine WG.sp' (fun h => ?_) fun h => ?_ | refine W.cond' (fun h => ?_) fun h => ?_ | refine WD.sp' (fun h => ?_) fun h => ?_) <;> (try simp only [decide_eq_true_eq, decide_eq_false_iff_not, Bool.not_eq_true', Bool.not_eq_false', Bool.and_eq_true, Bool.or_eq_true, Bool.and_eq_false_iff, Bool.or_eq_false_iff, Bool.not_eq_true, Bool.not_eq_false, Int.not_lt, Int.not_le, List.length_map, beq_self_eq_true, Bool.true_eq_false, Bool.false_eq_true] at h) <;> (try (exfalso; first | contradiction | omega))))
    all_goals first | (exfalso; simp at *; omega) | skip
    all_goals (refine W.ret ?_; (first | refine RetQ.b' ?_ | refine RetQ.i' ?_ | refine RetQ.d' ?_ | refine RetQ.t2' ?_ ?_ | refine RetQ.t3' ?_ ?_ ?_))
    all_goals simp

theorem lawSorts (xs : List D) (h : wfAs env.P [22] xs) : Fun env.P 16 xs (.d (dB true)) [] := by
  match xs, h with
  | [x], ⟨h, _⟩ =>
    obtain ⟨rows, rfl, hm, n, hr⟩ := wfA_sl (e := 5) (by kernel_rfl) h
    obtain ⟨bs, rfl, hbs⟩ := rows_map (f := fun b : Int => [dY b]) (p := fun b => 0 ≤ b ∧ b ≤ 255) fun r hmem => by
      obtain ⟨hl, hw⟩ := hr r hmem
      rw [show env.P.cellsOf 5 = 1 by kernel_rfl] at hl
      match r, hl, hw with
      | [y], _, hw =>
        obtain ⟨i, hi, rfl⟩ := wfD_int (k := .u8) (by kernel_rfl) hw
        refine ⟨i, ?_, rfl⟩
        simp only [Lit.wf, Bool.and_eq_true, decide_eq_true_eq] at hi
        have e1 : IntKind.min .u8 = 0 := by decide
        have e2 : IntKind.max .u8 = 255 := by decide
        omega
    rw [show env.P.cellsOf 5 = 1 by kernel_rfl]
    exact lawSorts_fn bs (by simpa using hm) hbs

end Go.Proofs.Ytlegadpbjccelaa
