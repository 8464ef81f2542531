/-
  SortOf by the program. Conditions: cells of at most 2^20 bytes.
-/
import Derived.Test.YtlegadpbjccelaaQSortsSt9
import Derived.Test.YtlegadpbjccelaaQSortsG12
set_option linter.unusedVariables false
set_option linter.unusedSimpArgs false
set_option maxRecDepth 100000
namespace Go.Proofs.Ytlegadpbjccelaa
open Go.RowKit

/-- The values in order. -/
def insV (x : V) : List V → List V
  | [] => [x]
  | y :: r => if V.cmp x y ≤ 0 then x :: y :: r else y :: insV x r
def sortV : List V → List V
  | [] => []
  | x :: r => insV x (sortV r)

theorem insV_perm (x : V) : ∀ l : List V, (x :: l).Perm (insV x l)
  | [] => List.Perm.refl _
  | y :: r => by
    unfold insV
    split
    · exact List.Perm.refl _
    · exact (List.Perm.swap y x r).trans ((insV_perm x r).cons y)
theorem sortV_perm : ∀ l : List V, l.Perm (sortV l)
  | [] => List.Perm.refl _
  | x :: r => ((sortV_perm r).cons x).trans (insV_perm x (sortV r))
theorem insV_srt (x : V) : ∀ {l : List V}, Srt l → Srt (insV x l)
  | [], _ => Srt.one x
  | y :: r, h => by
    obtain ⟨h1, h2⟩ := List.pairwise_cons.1 h
    unfold insV
    split
    · rename_i hxy
      exact List.pairwise_cons.2 ⟨fun z hz => by
        rcases List.mem_cons.1 hz with rfl | hz
        · exact hxy
        · exact V.le_trans hxy (h1 z hz), h⟩
    · rename_i hxy
      refine List.pairwise_cons.2 ⟨fun z hz => ?_, insV_srt x h2⟩
      rcases List.mem_cons.1 ((insV_perm x r).mem_iff.2 hz) with rfl | hz
      · exact V.le_total (by omega)
      · exact h1 z hz
theorem sortV_srt : ∀ l : List V, Srt (sortV l)
  | [] => Srt.nil
  | x :: r => insV_srt x (sortV_srt r)
theorem sortV_eq {l m : List V} (p : l.Perm m) (h : Srt m) : m = sortV l := Srt.uniq (p.symm.trans (sortV_perm l)) h (sortV_srt l)

theorem V.counts_perm {l m : List V} (p : l.Perm m) : V.counts l = V.counts m := by
  induction p with
  | nil => rfl
  | cons x _ ih => simp only [V.counts, ih]
  | swap x y l => simp only [V.counts]; omega
  | trans _ _ h1 h2 => exact h1.trans h2
theorem V.depths_perm {l m : List V} (p : l.Perm m) : V.depths l = V.depths m := by
  induction p with
  | nil => rfl
  | cons x _ ih => simp only [V.depths, ih]
  | swap x y l => simp only [V.depths]; omega
  | trans _ _ h1 h2 => exact h1.trans h2

theorem arrV_sort_fine {v : V} (h : v.fine) : (arrV (sortV v.kids)).fine := by
  have p := sortV_perm v.kids
  have hk := fun k hk => (V.fine_kids h k hk).1
  refine ⟨arrV_good fun w hw => (hk w (p.mem_iff.2 hw)).1, ?_, ?_⟩
  · rw [arrV_count, ← V.counts_perm p]
    have := V.count_eq v
    have := h.2.1
    omega
  · have h3 := h.2.2
    obtain ⟨k, n, t, ks, kids⟩ := v
    show V.depths (sortV kids) + 1 ≤ 20
    have p : kids.Perm (sortV kids) := p
    rw [← V.depths_perm p]
    exact h3

theorem faultV_fine {v : V} (h : v.fine) : faultV v = 0 := by
  unfold faultV
  rw [if_neg (by have := h.2.1; omega), if_neg (by have := h.2.2; omega)]

/-- What a value in order is: the code, and the value. -/
def sortO (v : V) : Int × V := if v.kind = 5 then (0, arrV (sortV v.kids)) else (6, V.zero)

theorem sortO_fine {v : V} (h : v.fine) : (sortO v).2.fine := by
  unfold sortO
  split
  · exact arrV_sort_fine h
  · exact V.zero_fine

theorem rwV_row (l : List V) : l.map V.row = rwV l := List.map_congr_left fun x _ => V.row_eq x

set_option maxHeartbeats 1000000 in
theorem cloneR_fn (sl : List V) (hl : sl.length ≤ 4096) : Fun env.P 193 [.sl 5 (sl.map V.row)] (.og 0 0) [grV sl] := by
  have h : Fun env.P 193 [.sl 5 (sl.map V.row)] (.og 0 0) [.gr 5 112 (sl.map V.row) 0 false] := by
    refine Fun.intro Try.func193 rfl (by kernel_rfl) rfl ?_
    repeat (first | refine W.seq ?_ | refine W.rg ?_ | refine W.dra' ?_ | refine W.block ?_ | refine W.skip ?_ | refine W.exit ?_ | refine W.cond_true' ?_ | refine W.cond_false' ?_ | refine WG.nil ?_ | refine WG.run' (E := env) ?_ | refine WG.gt' ?_ | refine WG.gf' ?_ | refine WG.ixm' (E := env) ?_ | refine WG.ixo' (E := env) ?_ | refine WG.legm' (E := env) ?_ | refine WG.slS' (E := env) ?_ | refine WG.slD' (E := env) ?_ | refine WG.ap' (E := env) ?_ | refine WD.nil ?_ | refine WD.bs' (E := env) ?_ | refine WD.s' (E := env) (t := .d _) ?_ | refine WD.p' ?_ | refine WD.px' ?_ | refine WD.s' (E := env) (t := .ea _ _) ?_ | refine WD.s' (E := env) (t := .lp _ _) ?_ | refine WD.s' (E := env) (t := .og _ _) ?_ | refine WD.s' (E := env) (t := .agg _) ?_ | refine WD.s' (E := env) (t := .tup _) ?_ | refine WD.s' (E := env) (t := .clo _ _) ?_ | refine WD.ixm' (E := env) ?_ | refine WD.ixo' (E := env) ?_ | refine WD.legm' (E := env) ?_ | refine WD.slS' (E := env) ?_ | refine WD.slD' (E := env) ?_)
    refine WG.nilB (E := env) rfl rfl rfl rfl ?_
    intro b hb
    cases b with
    | true =>
      have h0 := hb rfl
      rw [h0]
      repeat' (first | refine W.seq ?_ | refine W.rg ?_ | refine W.dra' ?_ | refine W.block ?_ | refine W.skip ?_ | refine W.exit ?_ | refine W.cond_true' ?_ | refine W.cond_false' ?_ | refine WG.nil ?_ | refine WG.run' (E := env) ?_ | refine WG.gt' ?_ | refine WG.gf' ?_ | refine WG.ixm' (E := env) ?_ | refine WG.ixo' (E := env) ?_ | refine WG.legm' (E := env) ?_ | refine WG.slS' (E := env) ?_ | refine WG.slD' (E := env) ?_ | refine WG.ap' (E := env) ?_ | refine WD.nil ?_ | refine WD.bs' (E := env) ?_ | refine WD.s' (E := env) (t := .d _) ?_ | refine WD.p' ?_ | refine WD.px' ?_ | refine WD.s' (E := env) (t := .ea _ _) ?_ | refine WD.s' (E := env) (t := .lp _ _) ?_ | refine WD.s' (E := env) (t := .og _ _) ?_ | refine WD.s' (E := env) (t := .agg _) ?_ | refine WD.s' (E := env) (t := .tup _) ?_ | refine WD.s' (E := env) (t := .clo _ _) ?_ | refine WD.ixm' (E := env) ?_ | refine WD.ixo' (E := env) ?_ | refine WD.legm' (E := env) ?_ | refine WD.slS' (E := env) ?_ | refine WD.slD' (E := env) ?_ | ((first | refine WG.sp' (fun h => ?_) fun h => ?_ | refine W.cond' (fun h => ?_) fun h => ?_ | refine WD.sp' (fun h => ?_) fun h => ?_) <;> (try simp only [decide_eq_true_eq, decide_eq_false_iff_not, Bool.not_eq_true', Bool.not_eq_false', Bool.and_eq_true, Bool.or_eq_true, Bool.and_eq_false_iff, Bool.or_eq_false_iff, Bool.not_eq_true, Bool.not_eq_false, Int.not_lt, Int.not_le, List.length_map, beq_self_eq_true, Bool.true_eq_false, Bool.false_eq_true] at h) <;> (try (exfalso; first | contradiction | omega))))
      refine W.ret ?_
      exact RetR.gn'
    | false =>
      repeat' (first | refine W.seq ?_ | refine W.rg ?_ | refine W.dra' ?_ | refine W.block ?_ | refine W.skip ?_ | refine W.exit ?_ | refine W.cond_true' ?_ | refine W.cond_false' ?_ | refine WG.nil ?_ | refine WG.run' (E := env) ?_ | refine WG.gt' ?_ | refine WG.gf' ?_ | refine WG.ixm' (E := env) ?_ | refine WG.ixo' (E := env) ?_ | refine WG.legm' (E := env) ?_ | refine WG.slS' (E := env) ?_ | refine WG.slD' (E := env) ?_ | refine WG.ap' (E := env) ?_ | refine WD.nil ?_ | refine WD.bs' (E := env) ?_ | refine WD.s' (E := env) (t := .d _) ?_ | refine WD.p' ?_ | refine WD.px' ?_ | refine WD.s' (E := env) (t := .ea _ _) ?_ | refine WD.s' (E := env) (t := .lp _ _) ?_ | refine WD.s' (E := env) (t := .og _ _) ?_ | refine WD.s' (E := env) (t := .agg _) ?_ | refine WD.s' (E := env) (t := .tup _) ?_ | refine WD.s' (E := env) (t := .clo _ _) ?_ | refine WD.ixm' (E := env) ?_ | refine WD.ixo' (E := env) ?_ | refine WD.legm' (E := env) ?_ | refine WD.slS' (E := env) ?_ | refine WD.slD' (E := env) ?_ | ((first | refine WG.sp' (fun h => ?_) fun h => ?_ | refine W.cond' (fun h => ?_) fun h => ?_ | refine WD.sp' (fun h => ?_) fun h => ?_) <;> (try simp only [decide_eq_true_eq, decide_eq_false_iff_not, Bool.not_eq_true', Bool.not_eq_false', Bool.and_eq_true, Bool.or_eq_true, Bool.and_eq_false_iff, Bool.or_eq_false_iff, Bool.not_eq_true, Bool.not_eq_false, Int.not_lt, Int.not_le, List.length_map, beq_self_eq_true, Bool.true_eq_false, Bool.false_eq_true] at h) <;> (try (exfalso; first | contradiction | omega))))
      refine W.ret ?_
      exact RetQ.own (tt := .og 0 1) 0 1 (.inl rfl) rfl (by first | trivial | exact resOK_of (E := env) rfl) rfl rfl rfl rfl rfl
  have e : [Ob.gr 5 112 (sl.map V.row) 0 false] = [grV sl] := by rw [rwV_row]
  exact e ▸ h

set_option maxHeartbeats 2000000 in
theorem sortOfP_fn (v : V) (h : v.fine) : Fun env.P 160 [.agg v.rowP] (.d (outD (sortO v).1 (sortO v).2)) [] := by
  have h4 := refusesP_fn 6
  have hlc := V.length_counts v.kids
  have hce := V.count_eq v
  have hv2 := h.2.1
  have hkf := fun k hk => (V.fine_kids h k hk).1
  have hcl := cloneR_fn v.kids (by omega)
  have hso := sortStable_fn v.kids (by omega) hkf
  have hso2 : FunQ env.P 232 [.og 0 0, cmpT] [grV v.kids] (just (.tup []) [grV (sortV v.kids)]) := hso.mono fun t ob ⟨e1, Z, p1, p2, e2⟩ => by
    obtain rfl := sortV_eq p1 p2
    exact ⟨e1, by rw [e2]; simp⟩
  have hfz := arrV_sort_fine h
  have h2 : Fun env.P 107 [.sl 5 (rwV (sortV v.kids))] (.d (.agg (arrV (sortV v.kids)).rowP)) [] := by
    rw [← rwV_row]
    exact arrayP_fn (sortV v.kids)
  have h3 := given_fn (arrV (sortV v.kids)) hfz.1 (by have := hfz.2.1; omega)
  rw [faultV_fine hfz, if_pos rfl] at h3
  unfold sortO
  generalize hw : arrV (sortV v.kids) = w at h2 h3 ⊢
  refine Fun.intro Try.func160 rfl (by kernel_rfl) rfl ?_
  repeat' (first | refine W.seq ?_ | refine W.rg ?_ | refine W.dra' ?_ | refine W.block ?_ | refine W.skip ?_ | refine W.exit ?_ | refine W.cond_true' ?_ | refine W.cond_false' ?_ | refine WG.nil ?_ | refine WG.run' (E := env) ?_ | refine WG.gt' ?_ | refine WG.gf' ?_ | refine WG.ixm' (E := env) ?_ | refine WG.ixo' (E := env) ?_ | refine WG.legm' (E := env) ?_ | refine WG.slS' (E := env) ?_ | refine WG.slD' (E := env) ?_ | refine WG.ap' (E := env) ?_ | refine WD.nil ?_ | refine WD.bs' (E := env) ?_ | refine WD.s' (E := env) (t := .d _) ?_ | refine WD.p' ?_ | refine WD.px' ?_ | refine WD.s' (E := env) (t := .ea _ _) ?_ | refine WD.s' (E := env) (t := .lp _ _) ?_ | refine WD.s' (E := env) (t := .og _ _) ?_ | refine WD.s' (E := env) (t := .agg _) ?_ | refine WD.s' (E := env) (t := .tup _) ?_ | refine WD.s' (E := env) (t := .clo _ _) ?_ | refine WD.ixm' (E := env) ?_ | refine WD.ixo' (E := env) ?_ | refine WD.legm' (E := env) ?_ | refine WD.slS' (E := env) ?_ | refine WD.slD' (E := env) ?_ | refine WG.c (E := env) rfl rfl (h4) rfl rfl ?_ | refine WD.c (E := env) rfl rfl (h4) rfl rfl ?_ | refine WG.co (E := env) rfl rfl (h4) rfl rfl rfl rfl ?_ | refine WG.cx (E := env) rfl (h4) rfl ?_ | refine WG.coG' (E := env) rfl rfl (hcl) rfl ?_ | refine WG.coA' (E := env) rfl rfl (hcl) rfl ?_ | refine WG.coA3' (E := env) rfl rfl (hcl) rfl ?_ | refine WG.cq (E := env) [2] [0] false rfl rfl (hso2) rfl rfl rfl rfl rfl rfl rfl (by first | exact trivial | exact ⟨rfl, trivial⟩ | exact ⟨rfl, rfl, trivial⟩) (.inl rfl) rfl (fun h => nomatch h) rfl rfl ?_ | refine WG.cqx (E := env) [2] [0] false rfl (hso2) rfl rfl rfl rfl rfl rfl rfl (by first | exact trivial | exact ⟨rfl, trivial⟩ | exact ⟨rfl, rfl, trivial⟩) (.inl rfl) rfl (fun h => nomatch h) rfl ?_ | ((first | refine WG.sp' (fun h => ?_) fun h => ?_ | refine W.cond' (fun h => ?_) fun h => ?_ | refine WD.sp' (fun h => ?_) fun h => ?_) <;> (try simp only [decide_eq_true_eq, decide_eq_false_iff_not, Bool.not_eq_true', Bool.not_eq_false', Bool.and_eq_true, Bool.or_eq_true, Bool.and_eq_false_iff, Bool.or_eq_false_iff, Bool.not_eq_true, Bool.not_eq_false, Int.not_lt, Int.not_le, List.length_map, beq_self_eq_true, Bool.true_eq_false, Bool.false_eq_true] at h) <;> (try (exfalso; first | contradiction | omega))))
  · rw [if_neg (by assumption)]
    (refine W.ret ?_; (first | refine RetQ.b' ?_ | refine RetQ.i' ?_ | refine RetQ.d' ?_ | refine RetQ.t2' ?_ ?_ | refine RetQ.t3' ?_ ?_ ?_))
    rfl
  · rw [if_pos (by assumption)]
    refine WG.pub 2 rfl ?_
    repeat' (first | refine W.seq ?_ | refine W.rg ?_ | refine W.dra' ?_ | refine W.block ?_ | refine W.skip ?_ | refine W.exit ?_ | refine W.cond_true' ?_ | refine W.cond_false' ?_ | refine WG.nil ?_ | refine WG.run' (E := env) ?_ | refine WG.gt' ?_ | refine WG.gf' ?_ | refine WG.ixm' (E := env) ?_ | refine WG.ixo' (E := env) ?_ | refine WG.legm' (E := env) ?_ | refine WG.slS' (E := env) ?_ | refine WG.slD' (E := env) ?_ | refine WG.ap' (E := env) ?_ | refine WD.nil ?_ | refine WD.bs' (E := env) ?_ | refine WD.s' (E := env) (t := .d _) ?_ | refine WD.p' ?_ | refine WD.px' ?_ | refine WD.s' (E := env) (t := .ea _ _) ?_ | refine WD.s' (E := env) (t := .lp _ _) ?_ | refine WD.s' (E := env) (t := .og _ _) ?_ | refine WD.s' (E := env) (t := .agg _) ?_ | refine WD.s' (E := env) (t := .tup _) ?_ | refine WD.s' (E := env) (t := .clo _ _) ?_ | refine WD.ixm' (E := env) ?_ | refine WD.ixo' (E := env) ?_ | refine WD.legm' (E := env) ?_ | refine WD.slS' (E := env) ?_ | refine WD.slD' (E := env) ?_ | refine WG.c (E := env) rfl rfl (h2) rfl rfl ?_ | refine WD.c (E := env) rfl rfl (h2) rfl rfl ?_ | refine WG.co (E := env) rfl rfl (h2) rfl rfl rfl rfl ?_ | refine WG.cx (E := env) rfl (h2) rfl ?_ | refine WG.c (E := env) rfl rfl (h3) rfl rfl ?_ | refine WD.c (E := env) rfl rfl (h3) rfl rfl ?_ | refine WG.co (E := env) rfl rfl (h3) rfl rfl rfl rfl ?_ | refine WG.cx (E := env) rfl (h3) rfl ?_ | ((first | refine WG.sp' (fun h => ?_) fun h => ?_ | refine W.cond' (fun h => ?_) fun h => ?_ | refine WD.sp' (fun h => ?_) fun h => ?_) <;> (try simp only [decide_eq_true_eq, decide_eq_false_iff_not, Bool.not_eq_true', Bool.not_eq_false', Bool.and_eq_true, Bool.or_eq_true, Bool.and_eq_false_iff, Bool.or_eq_false_iff, Bool.not_eq_true, Bool.not_eq_false, Int.not_lt, Int.not_le, List.length_map, beq_self_eq_true, Bool.true_eq_false, Bool.false_eq_true] at h) <;> (try (exfalso; first | contradiction | omega))))
    (refine W.ret ?_; (first | refine RetQ.b' ?_ | refine RetQ.i' ?_ | refine RetQ.d' ?_ | refine RetQ.t2' ?_ ?_ | refine RetQ.t3' ?_ ?_ ?_))
    rfl

set_option maxHeartbeats 1000000 in
theorem SortOf_fn (cs : List Cell) (hf : fitsC cs) : Fun env.P 85 [cellsD cs] (.agg [vI .i64 (oneCode cs (sortO (valOfM cs).1).1), .og 0 0]) [.gr 5 91 ((oneCells cs (sortO (valOfM cs).1).1 (sortO (valOfM cs).1).2).map Cell.row) 0 false] := by
  have h1 := ofOneD_fn (f := 160) cs hf (sortO (valOfM cs).1).1 (sortO (valOfM cs).1).2 (fun h0 => sortOfP_fn _ (valOfM_fine h0).1) (oneOK fun h0 => sortO_fine (valOfM_fine h0).1)
  generalize oneCode cs (sortO (valOfM cs).1).1 = code at h1 ⊢
  generalize oneCells cs (sortO (valOfM cs).1).1 (sortO (valOfM cs).1).2 = rs at h1 ⊢
  refine Fun.intro Try.func85 rfl (by kernel_rfl) rfl ?_
  repeat' (first | refine W.seq ?_ | refine W.rg ?_ | refine W.dra' ?_ | refine W.block ?_ | refine W.skip ?_ | refine W.exit ?_ | refine W.cond_true' ?_ | refine W.cond_false' ?_ | refine WG.nil ?_ | refine WG.run' (E := env) ?_ | refine WG.gt' ?_ | refine WG.gf' ?_ | refine WG.ixm' (E := env) ?_ | refine WG.ixo' (E := env) ?_ | refine WG.legm' (E := env) ?_ | refine WG.slS' (E := env) ?_ | refine WG.slD' (E := env) ?_ | refine WG.ap' (E := env) ?_ | refine WD.nil ?_ | refine WD.bs' (E := env) ?_ | refine WD.s' (E := env) (t := .d _) ?_ | refine WD.p' ?_ | refine WD.px' ?_ | refine WD.s' (E := env) (t := .ea _ _) ?_ | refine WD.s' (E := env) (t := .lp _ _) ?_ | refine WD.s' (E := env) (t := .og _ _) ?_ | refine WD.s' (E := env) (t := .agg _) ?_ | refine WD.s' (E := env) (t := .tup _) ?_ | refine WD.s' (E := env) (t := .clo _ _) ?_ | refine WD.ixm' (E := env) ?_ | refine WD.ixo' (E := env) ?_ | refine WD.legm' (E := env) ?_ | refine WD.slS' (E := env) ?_ | refine WD.slD' (E := env) ?_ | refine WG.coG' (E := env) rfl rfl (h1) rfl ?_ | refine WG.coA' (E := env) rfl rfl (h1) rfl ?_ | refine WG.coA3' (E := env) rfl rfl (h1) rfl ?_ | ((first | refine WG.sp' (fun h => ?_) fun h => ?_ | refine W.cond' (fun h => ?_) fun h => ?_ | refine WD.sp' (fun h => ?_) fun h => ?_) <;> (try simp only [decide_eq_true_eq, decide_eq_false_iff_not, Bool.not_eq_true', Bool.not_eq_false', Bool.and_eq_true, Bool.or_eq_true, Bool.and_eq_false_iff, Bool.or_eq_false_iff, Bool.not_eq_true, Bool.not_eq_false, Int.not_lt, Int.not_le, List.length_map, beq_self_eq_true, Bool.true_eq_false, Bool.false_eq_true] at h) <;> (try (exfalso; first | contradiction | omega))))
  (refine W.ret ?_; first | refine RetR.g' ?_ | refine RetR.ag' ?_ ?_ | refine RetR.agn' ?_ | exact RetR.gn' | refine RetR.ag3' ?_ ?_ ?_ | refine RetR.agn3' ?_ ?_)
  all_goals rfl

end Go.Proofs.Ytlegadpbjccelaa
