/-
  The sum of a value's parts, by the reference. Conditions: none.
-/
import Derived.Test.YtlegadpbjccelaaQAddAllAd3
import Derived.Test.YtlegadpbjccelaaQAddAllSk3
set_option linter.unusedVariables false
set_option linter.unusedSimpArgs false
set_option maxRecDepth 100000
namespace Go.Proofs.Ytlegadpbjccelaa
open Go.RowKit

/-- What l1Told says of any cells. -/
theorem toldLeaf_fn (k n : Int) (t : ByteArray) (h6 : k ≠ 6) (ht : t.size ≤ 1048576) : Fun env.P 103 [cellsD (leafC k n t)] (.d (resD (leafO k n t).1 (outC (leafO k n t).1 (leafO k n t).2))) [] := by
  have h1 := ValueFaultS_fn (leafC k n t) (fun c hc => by simp at hc; subst hc; exact ⟨ht, Nat.zero_le _⟩) (by simp)
  have e : outC (leafO k n t).1 (leafO k n t).2 = if (leafO k n t).1 = 0 then leafC k n t else [] := by
    unfold outC leafO
    split
    · simp only [*, if_true]
      rfl
    · rfl
  rw [e]
  change Fun env.P _ _ (.d (dI (leafO k n t).1)) [] at h1
  generalize (leafO k n t).1 = c at h1 ⊢
  refine Fun.intro Try.func103 rfl (by kernel_rfl) rfl ?_
  repeat' (first | refine W.seq ?_ | refine W.rg ?_ | refine W.dra' ?_ | refine W.block ?_ | refine W.skip ?_ | refine W.exit ?_ | refine W.cond_true' ?_ | refine W.cond_false' ?_ | refine WG.nil ?_ | refine WG.run' (E := env) ?_ | refine WG.gt' ?_ | refine WG.gf' ?_ | refine WG.ixm' (E := env) ?_ | refine WG.ixo' (E := env) ?_ | refine WG.legm' (E := env) ?_ | refine WG.slS' (E := env) ?_ | refine WG.slD' (E := env) ?_ | refine WG.ap' (E := env) ?_ | refine WD.nil ?_ | refine WD.bs' (E := env) ?_ | refine WD.s' (E := env) (t := .d _) ?_ | refine WD.p' ?_ | refine WD.px' ?_ | refine WD.s' (E := env) (t := .ea _ _) ?_ | refine WD.s' (E := env) (t := .lp _ _) ?_ | refine WD.s' (E := env) (t := .og _ _) ?_ | refine WD.s' (E := env) (t := .agg _) ?_ | refine WD.s' (E := env) (t := .tup _) ?_ | refine WD.s' (E := env) (t := .clo _ _) ?_ | refine WD.ixm' (E := env) ?_ | refine WD.ixo' (E := env) ?_ | refine WD.legm' (E := env) ?_ | refine WD.slS' (E := env) ?_ | refine WD.slD' (E := env) ?_ | refine WG.c (E := env) rfl rfl (h1) rfl rfl ?_ | refine WD.c (E := env) rfl rfl (h1) rfl rfl ?_ | refine WG.co (E := env) rfl rfl (h1) rfl rfl rfl rfl ?_ | refine WG.cx (E := env) rfl (h1) rfl ?_ | ((first | refine WG.sp' (fun h => ?_) fun h => ?_ | refine W.cond' (fun h => ?_) fun h => ?_ | refine WD.sp' (fun h => ?_) fun h => ?_) <;> (try simp only [decide_eq_true_eq, decide_eq_false_iff_not, Bool.not_eq_true', Bool.not_eq_false', Bool.and_eq_true, Bool.or_eq_true, Bool.and_eq_false_iff, Bool.or_eq_false_iff, Bool.not_eq_true, Bool.not_eq_false, Int.not_lt, Int.not_le, List.length_map, beq_self_eq_true, Bool.true_eq_false, Bool.false_eq_true] at h) <;> (try (exfalso; first | contradiction | omega))))
  · rw [if_neg (by assumption)]
    (refine W.ret ?_; (first | refine RetQ.b' ?_ | refine RetQ.i' ?_ | refine RetQ.d' ?_ | refine RetQ.t2' ?_ ?_ | refine RetQ.t3' ?_ ?_ ?_))
    rfl
  · rw [if_pos (by assumption)]
    (refine W.ret ?_; (first | refine RetQ.b' ?_ | refine RetQ.i' ?_ | refine RetQ.d' ?_ | refine RetQ.t2' ?_ ?_ | refine RetQ.t3' ?_ ?_ ?_))
    simp [*]
    exact ⟨rfl, rfl⟩

theorem l1ObjectW_fn (ks : List ByteArray) (vs : List V) (hl : ks.length = vs.length) (h1 : ks.length ≤ 1000) (hc : ∀ v ∈ vs, v.count ≤ 1000) :
    Fun env.P 120 [.sl 1 (ks.map keyRow), .sl 1 (vs.map partR)] (.og 0 0) [.gr 5 91 ((objS ks vs).cells.map Cell.row) 0 false] := by
  have h2 := l1ObjectS_fn ks (vs.map V.cells) 1000 (by rw [List.length_map]; exact hl) (by omega) (by omega) (by omega) fun x hx => by
    obtain ⟨v, hv, rfl⟩ := List.mem_map.1 hx
    refine ⟨fun e => ?_, ?_⟩
    · obtain ⟨r, hr⟩ := V.cells_cons v
      rw [hr] at e; cases e
    · rw [show v.cells.length = v.count from V.cellsK_length v noS]; exact hc v hv
  have hxl := objX_length ks vs ks.length
  rw [objX_map ks vs hl _ (Nat.le_refl _), pcs_cells _ _ hxl _ (Nat.le_refl _), List.take_length, List.take_of_length_le (by omega)] at h2
  refine h2.cast (by simp [cellssD, partR, cellsR, Function.comp_def]) rfl ?_
  rw [show (objS ks vs).cells = ⟨6, 0, noS, noS, ((objX ks vs ks.length).length : Int)⟩ :: V.kidsC (objX ks vs ks.length) (objK ks ks.length) from rfl, hxl]

set_option maxHeartbeats 8000000 in
theorem l3Add_fn (a b : V) (ha : a.fine) (hb : b.fine) : Fun env.P 206 [cellsD a.cells, cellsD b.cells] (.d (resD (addO a b).1 (outC (addO a b).1 (addO a b).2))) [] := by
  have b6 := l3Bad_fn 6
  have na := okNumV2 ha.1
  have nb := okNumV2 hb.1
  have ta := okTxtV ha.1
  have tb := okTxtV hb.1
  have n1 := FunQ.pubG (l1Number_fn (a.num + b.num))
  have n2 := toldLeaf_fn 3 (a.num + b.num) noS (by decide) (Nat.zero_le _)
  have t1 := FunQ.pubG (l1String_fn (a.text ++ b.text))
  have t2 := toldLeaf_fn 4 0 (a.text ++ b.text) (by decide) (by rw [ByteArray.size_append]; omega)
  have pa := l1Parts_fn a ha
  have pb := FunQ.pubG (l1Parts_fn b hb)
  have ka := l1Keys_fn a ha
  have kb := FunQ.pubG (l1Keys_fn b hb)
  obtain ⟨hl, hf, hc⟩ := cat_kids ha hb
  have hla : a.cells.length ≤ 200 := by rw [show a.cells.length = a.count from V.cellsK_length a noS]; exact ha.2.1
  have hlb : b.cells.length ≤ 200 := by rw [show b.cells.length = b.count from V.cellsK_length b noS]; exact hb.2.1
  have ar := (FunQ.pubG ((l1Array_fn (a.kids ++ b.kids) (by omega)).cast (args' := [.sl 1 (a.kids.map partR ++ b.kids.map partR)]) (by simp) rfl rfl))
  change Fun env.P _ _ (.d (cellsD (catA a b).cells)) [] at ar
  have tA := l1Told_fn _ (catA_good ha hb).1 (catA_good ha hb).2
  have gcA := givenC (catA a b)
  have gO := fun (k6 : a.kind = 6 ∧ b.kind = 6) => givenC (catO a b)
  have oO := fun (k6 : a.kind = 6 ∧ b.kind = 6) => FunQ.pubG ((l1ObjectW_fn (a.keys ++ b.keys) (a.kids ++ b.kids) (cat_keys ha hb k6.1 k6.2).1 (by have := (cat_keys ha hb k6.1 k6.2).1; omega) (fun w hw => by have := (hf w hw).2.1; omega)).cast (args' := [.sl 1 (a.keys.map keyRow ++ b.keys.map keyRow), .sl 1 (a.kids.map partR ++ b.kids.map partR)]) (by simp) rfl rfl)
  change (a.kind = 6 ∧ b.kind = 6) → Fun env.P _ _ (.d (cellsD (catO a b).cells)) [] at oO
  have tO := fun (k6 : a.kind = 6 ∧ b.kind = 6) => l1Told_fn _ (catO_good ha hb k6.1 k6.2).1 (catO_good ha hb k6.1 k6.2).2
  have kla : a.kind = 6 → a.keysL a.kids.length = a.keys := fun hk => V.keysL_obj ha.1 hk
  have klb : b.kind = 6 → b.keysL b.kids.length = b.keys := fun hk => V.keysL_obj hb.1 hk
  have hkl := fun (k6 : a.kind = 6 ∧ b.kind = 6) => (cat_keys ha hb k6.1 k6.2).1
  simp only [List.length_append] at hl hkl
  obtain ⟨ra, ea⟩ := V.cells_cons a
  obtain ⟨rb, eb⟩ := V.cells_cons b
  unfold addO
  generalize catA a b = oA at *
  generalize catO a b = oB at *
  generalize hqa : a.cells = ca at *
  generalize hqb : b.cells = cb at *
  generalize leafO 3 (a.num + b.num) noS = pn at *
  generalize leafO 4 0 (a.text ++ b.text) = pt at *
  by_cases k0 : a.kind = 0
  · rw [if_pos k0]
    subst ea
    rw [show outC 0 b = cb from by rw [outC, if_pos rfl, hqb]]
    have hl1 : 1 ≤ ((⟨a.kind, a.num, a.text, noS, (a.kids.length : Int)⟩ :: ra : List Cell)).length := by simp
    have hg : ((⟨a.kind, a.num, a.text, noS, (a.kids.length : Int)⟩ :: ra : List Cell).getD (Int.toNat 0) default) = ⟨a.kind, a.num, a.text, noS, (a.kids.length : Int)⟩ := rfl
    refine Fun.intro Try.func206 rfl (by kernel_rfl) rfl ?_
    repeat' (first | refine W.seq ?_ | refine W.rg ?_ | refine W.dra' ?_ | refine W.block ?_ | refine W.skip ?_ | refine W.exit ?_ | refine W.cond_true' ?_ | refine W.cond_false' ?_ | refine WG.nil ?_ | refine WG.run' (E := env) ?_ | refine WG.gt' ?_ | refine WG.gf' ?_ | refine WG.ixm' (E := env) ?_ | refine WG.ixo' (E := env) ?_ | refine WG.legm' (E := env) ?_ | refine WG.slS' (E := env) ?_ | refine WG.slD' (E := env) ?_ | refine WG.ap' (E := env) ?_ | refine WD.nil ?_ | refine WD.bs' (E := env) ?_ | refine WD.s' (E := env) (t := .d _) ?_ | refine WD.p' ?_ | refine WD.px' ?_ | refine WD.s' (E := env) (t := .ea _ _) ?_ | refine WD.s' (E := env) (t := .lp _ _) ?_ | refine WD.s' (E := env) (t := .og _ _) ?_ | refine WD.s' (E := env) (t := .agg _) ?_ | refine WD.s' (E := env) (t := .tup _) ?_ | refine WD.s' (E := env) (t := .clo _ _) ?_ | refine WD.ixm' (E := env) ?_ | refine WD.ixo' (E := env) ?_ | refine WD.legm' (E := env) ?_ | refine WD.slS' (E := env) ?_ | refine WD.slD' (E := env) ?_ | ((first | refine WG.sp' (fun h => ?_) fun h => ?_ | refine W.cond' (fun h => ?_) fun h => ?_ | refine WD.sp' (fun h => ?_) fun h => ?_) <;> (try simp only [decide_eq_true_eq, decide_eq_false_iff_not, Bool.not_eq_true', Bool.not_eq_false', Bool.and_eq_true, Bool.or_eq_true, Bool.and_eq_false_iff, Bool.or_eq_false_iff, Bool.not_eq_true, Bool.not_eq_false, Int.not_lt, Int.not_le, List.length_map, beq_self_eq_true, Bool.true_eq_false, Bool.false_eq_true] at h) <;> (try (exfalso; first | contradiction | omega))))
    all_goals (simp only [hg] at *)
    all_goals first | (exfalso; omega) | skip
    (refine W.ret ?_; first | refine RetR.agp' ?_ ?_ | refine RetR.gp' ?_ | (first | refine RetQ.b' ?_ | refine RetQ.i' ?_ | refine RetQ.d' ?_ | refine RetQ.t2' ?_ ?_ | refine RetQ.t3' ?_ ?_ ?_))
    all_goals rfl
  rw [if_neg k0]
  subst ea eb
  have hl1 : 1 ≤ ((⟨a.kind, a.num, a.text, noS, (a.kids.length : Int)⟩ :: ra : List Cell)).length := by simp
  have hg : ((⟨a.kind, a.num, a.text, noS, (a.kids.length : Int)⟩ :: ra : List Cell).getD (Int.toNat 0) default) = ⟨a.kind, a.num, a.text, noS, (a.kids.length : Int)⟩ := rfl
  have hl2 : 1 ≤ ((⟨b.kind, b.num, b.text, noS, (b.kids.length : Int)⟩ :: rb : List Cell)).length := by simp
  have hg2 : ((⟨b.kind, b.num, b.text, noS, (b.kids.length : Int)⟩ :: rb : List Cell).getD (Int.toNat 0) default) = ⟨b.kind, b.num, b.text, noS, (b.kids.length : Int)⟩ := rfl
  have hra : ra.length ≤ 199 := by simpa using hla
  have hrb : rb.length ≤ 199 := by simpa using hlb
  have na2 : -1000000000000000 ≤ ((⟨a.kind, a.num, a.text, noS, (a.kids.length : Int)⟩ :: ra : List Cell).getD (Int.toNat 0) default).num ∧ ((⟨a.kind, a.num, a.text, noS, (a.kids.length : Int)⟩ :: ra : List Cell).getD (Int.toNat 0) default).num ≤ 1000000000000000 := na
  have nb2 : -1000000000000000 ≤ ((⟨b.kind, b.num, b.text, noS, (b.kids.length : Int)⟩ :: rb : List Cell).getD (Int.toNat 0) default).num ∧ ((⟨b.kind, b.num, b.text, noS, (b.kids.length : Int)⟩ :: rb : List Cell).getD (Int.toNat 0) default).num ≤ 1000000000000000 := nb
  have ta2 : ((⟨a.kind, a.num, a.text, noS, (a.kids.length : Int)⟩ :: ra : List Cell).getD (Int.toNat 0) default).text.size ≤ 60 := ta
  have tb2 : ((⟨b.kind, b.num, b.text, noS, (b.kids.length : Int)⟩ :: rb : List Cell).getD (Int.toNat 0) default).text.size ≤ 60 := tb
  by_cases k1 : b.kind = 0
  · rw [if_pos k1]
    rw [show outC 0 a = ⟨a.kind, a.num, a.text, noS, (a.kids.length : Int)⟩ :: ra from by rw [outC, if_pos rfl, hqa]]
    refine Fun.intro Try.func206 rfl (by kernel_rfl) rfl ?_
    repeat' (first | refine W.seq ?_ | refine W.rg ?_ | refine W.dra' ?_ | refine W.block ?_ | refine W.skip ?_ | refine W.exit ?_ | refine W.cond_true' ?_ | refine W.cond_false' ?_ | refine WG.nil ?_ | refine WG.run' (E := env) ?_ | refine WG.gt' ?_ | refine WG.gf' ?_ | refine WG.ixm' (E := env) ?_ | refine WG.ixo' (E := env) ?_ | refine WG.legm' (E := env) ?_ | refine WG.slS' (E := env) ?_ | refine WG.slD' (E := env) ?_ | refine WG.ap' (E := env) ?_ | refine WD.nil ?_ | refine WD.bs' (E := env) ?_ | refine WD.s' (E := env) (t := .d _) ?_ | refine WD.p' ?_ | refine WD.px' ?_ | refine WD.s' (E := env) (t := .ea _ _) ?_ | refine WD.s' (E := env) (t := .lp _ _) ?_ | refine WD.s' (E := env) (t := .og _ _) ?_ | refine WD.s' (E := env) (t := .agg _) ?_ | refine WD.s' (E := env) (t := .tup _) ?_ | refine WD.s' (E := env) (t := .clo _ _) ?_ | refine WD.ixm' (E := env) ?_ | refine WD.ixo' (E := env) ?_ | refine WD.legm' (E := env) ?_ | refine WD.slS' (E := env) ?_ | refine WD.slD' (E := env) ?_ | ((first | refine WG.sp' (fun h => ?_) fun h => ?_ | refine W.cond' (fun h => ?_) fun h => ?_ | refine WD.sp' (fun h => ?_) fun h => ?_) <;> (try simp only [decide_eq_true_eq, decide_eq_false_iff_not, Bool.not_eq_true', Bool.not_eq_false', Bool.and_eq_true, Bool.or_eq_true, Bool.and_eq_false_iff, Bool.or_eq_false_iff, Bool.not_eq_true, Bool.not_eq_false, Int.not_lt, Int.not_le, List.length_map, beq_self_eq_true, Bool.true_eq_false, Bool.false_eq_true] at h) <;> (try (exfalso; first | contradiction | omega))))
    all_goals (simp only [hg, hg2] at *)
    all_goals first | (exfalso; omega) | skip
    (refine W.ret ?_; first | refine RetR.agp' ?_ ?_ | refine RetR.gp' ?_ | (first | refine RetQ.b' ?_ | refine RetQ.i' ?_ | refine RetQ.d' ?_ | refine RetQ.t2' ?_ ?_ | refine RetQ.t3' ?_ ?_ ?_))
    all_goals rfl
  rw [if_neg k1]
  by_cases k3 : a.kind = 3 ∧ b.kind = 3
  · rw [if_pos k3]
    refine Fun.intro Try.func206 rfl (by kernel_rfl) rfl ?_
    repeat' (first | (refine W.dre' (id := 9) [11] (fun f => [.pv (bif bt f 1 then [.d (dI pn.1), .d (.sl 5 ((outC pn.1 pn.2).map Cell.row))] else [.d (dI 0), .d (.nl 5)])]) [(0, [0]), (0, [0]), (0, [0]), (0, [0]), (0, [0]), (0, [0]), (0, [0]), (0, [0]), (0, [0]), (0, [0]), (0, [0]), (1, [0])] [.pv [.d (dI pn.1), .d (.sl 5 ((outC pn.1 pn.2).map Cell.row))]] ?_) | refine WE.mkd (.d (cellsD (leafC 3 (a.num + b.num) noS))) ?_ (.c (OpS1.c rfl rfl n1 rfl rfl) .n) | refine WE.mkd (.d (resD pn.1 (outC pn.1 pn.2))) ?_ (.c (OpS1.c rfl rfl n2 rfl rfl) .n) | refine WE.nil ?_ | refine WE.ixP' ?_ | refine WE.s' (E := env) (t := .d _) ?_ | refine WE.p' ?_ | refine WE.px' ?_ | refine WE.s' (E := env) (t := .lp _ _) ?_ | refine WE.s' (E := env) (t := .og _ _) ?_ | refine WE.s' (E := env) (t := .ea _ _) ?_ | refine WE.s' (E := env) (t := .agg _) ?_ | refine WE.s' (E := env) (t := .tup _) ?_ | refine WE.ixm' (E := env) ?_ | refine WE.ixo' (E := env) ?_ | refine WE.leg' (E := env) ?_ | refine WE.slS' (E := env) ?_ | refine WE.slD' (E := env) ?_ | refine WE.ap' (E := env) ?_ | refine WE.st' (E := env) ?_ | refine WE.seg' (E := env) ?_ | refine WE.bs' (E := env) ?_ | refine W.seq ?_ | refine W.rg ?_ | refine W.dra' ?_ | refine W.block ?_ | refine W.skip ?_ | refine W.exit ?_ | refine W.cond_true' ?_ | refine W.cond_false' ?_ | refine WG.nil ?_ | refine WG.run' (E := env) ?_ | refine WG.gt' ?_ | refine WG.gf' ?_ | refine WG.ixm' (E := env) ?_ | refine WG.ixo' (E := env) ?_ | refine WG.legm' (E := env) ?_ | refine WG.slS' (E := env) ?_ | refine WG.slD' (E := env) ?_ | refine WG.ap' (E := env) ?_ | refine WD.nil ?_ | refine WD.bs' (E := env) ?_ | refine WD.s' (E := env) (t := .d _) ?_ | refine WD.p' ?_ | refine WD.px' ?_ | refine WD.s' (E := env) (t := .ea _ _) ?_ | refine WD.s' (E := env) (t := .lp _ _) ?_ | refine WD.s' (E := env) (t := .og _ _) ?_ | refine WD.s' (E := env) (t := .agg _) ?_ | refine WD.s' (E := env) (t := .tup _) ?_ | refine WD.s' (E := env) (t := .clo _ _) ?_ | refine WD.ixm' (E := env) ?_ | refine WD.ixo' (E := env) ?_ | refine WD.legm' (E := env) ?_ | refine WD.slS' (E := env) ?_ | refine WD.slD' (E := env) ?_ | refine WG.c (E := env) rfl rfl (b6) rfl rfl ?_ | refine WD.c (E := env) rfl rfl (b6) rfl rfl ?_ | refine WG.co (E := env) rfl rfl (b6) rfl rfl rfl rfl ?_ | refine WG.cx (E := env) rfl (b6) rfl ?_ | ((first | refine WG.sp' (fun h => ?_) fun h => ?_ | refine W.cond' (fun h => ?_) fun h => ?_ | refine WD.sp' (fun h => ?_) fun h => ?_) <;> (try simp only [decide_eq_true_eq, decide_eq_false_iff_not, Bool.not_eq_true', Bool.not_eq_false', Bool.and_eq_true, Bool.or_eq_true, Bool.and_eq_false_iff, Bool.or_eq_false_iff, Bool.not_eq_true, Bool.not_eq_false, Int.not_lt, Int.not_le, List.length_map, beq_self_eq_true, Bool.true_eq_false, Bool.false_eq_true] at h) <;> (try (exfalso; first | contradiction | omega))))
    all_goals (simp only [hg, hg2] at *)
    all_goals first | (exfalso; omega) | skip
    all_goals (refine W.ret ?_; (first | refine RetQ.b' ?_ | refine RetQ.i' ?_ | refine RetQ.d' ?_ | refine RetQ.t2' ?_ ?_ | refine RetQ.t3' ?_ ?_ ?_))
    all_goals rfl
  rw [if_neg k3]
  by_cases k4 : a.kind = 4 ∧ b.kind = 4
  · rw [if_pos k4]
    refine Fun.intro Try.func206 rfl (by kernel_rfl) rfl ?_
    repeat' (first | (refine W.dre' (id := 11) [11] (fun f => [.pv (bif bt f 1 then [.d (dI pt.1), .d (.sl 5 ((outC pt.1 pt.2).map Cell.row))] else [.d (dI 0), .d (.nl 5)])]) [(0, [0]), (0, [0]), (0, [0]), (0, [0]), (0, [0]), (0, [0]), (0, [0]), (0, [0]), (0, [0]), (0, [0]), (0, [0]), (1, [0])] [.pv [.d (dI pt.1), .d (.sl 5 ((outC pt.1 pt.2).map Cell.row))]] ?_) | refine WE.mkd (.d (cellsD (leafC 4 0 (a.text ++ b.text)))) ?_ (.c (OpS1.c rfl rfl t1 rfl rfl) .n) | refine WE.mkd (.d (resD pt.1 (outC pt.1 pt.2))) ?_ (.c (OpS1.c rfl rfl t2 rfl rfl) .n) | refine WE.nil ?_ | refine WE.ixP' ?_ | refine WE.s' (E := env) (t := .d _) ?_ | refine WE.p' ?_ | refine WE.px' ?_ | refine WE.s' (E := env) (t := .lp _ _) ?_ | refine WE.s' (E := env) (t := .og _ _) ?_ | refine WE.s' (E := env) (t := .ea _ _) ?_ | refine WE.s' (E := env) (t := .agg _) ?_ | refine WE.s' (E := env) (t := .tup _) ?_ | refine WE.ixm' (E := env) ?_ | refine WE.ixo' (E := env) ?_ | refine WE.leg' (E := env) ?_ | refine WE.slS' (E := env) ?_ | refine WE.slD' (E := env) ?_ | refine WE.ap' (E := env) ?_ | refine WE.st' (E := env) ?_ | refine WE.seg' (E := env) ?_ | refine WE.bs' (E := env) ?_ | refine W.seq ?_ | refine W.rg ?_ | refine W.dra' ?_ | refine W.block ?_ | refine W.skip ?_ | refine W.exit ?_ | refine W.cond_true' ?_ | refine W.cond_false' ?_ | refine WG.nil ?_ | refine WG.run' (E := env) ?_ | refine WG.gt' ?_ | refine WG.gf' ?_ | refine WG.ixm' (E := env) ?_ | refine WG.ixo' (E := env) ?_ | refine WG.legm' (E := env) ?_ | refine WG.slS' (E := env) ?_ | refine WG.slD' (E := env) ?_ | refine WG.ap' (E := env) ?_ | refine WD.nil ?_ | refine WD.bs' (E := env) ?_ | refine WD.s' (E := env) (t := .d _) ?_ | refine WD.p' ?_ | refine WD.px' ?_ | refine WD.s' (E := env) (t := .ea _ _) ?_ | refine WD.s' (E := env) (t := .lp _ _) ?_ | refine WD.s' (E := env) (t := .og _ _) ?_ | refine WD.s' (E := env) (t := .agg _) ?_ | refine WD.s' (E := env) (t := .tup _) ?_ | refine WD.s' (E := env) (t := .clo _ _) ?_ | refine WD.ixm' (E := env) ?_ | refine WD.ixo' (E := env) ?_ | refine WD.legm' (E := env) ?_ | refine WD.slS' (E := env) ?_ | refine WD.slD' (E := env) ?_ | refine WG.c (E := env) rfl rfl (b6) rfl rfl ?_ | refine WD.c (E := env) rfl rfl (b6) rfl rfl ?_ | refine WG.co (E := env) rfl rfl (b6) rfl rfl rfl rfl ?_ | refine WG.cx (E := env) rfl (b6) rfl ?_ | ((first | refine WG.sp' (fun h => ?_) fun h => ?_ | refine W.cond' (fun h => ?_) fun h => ?_ | refine WD.sp' (fun h => ?_) fun h => ?_) <;> (try simp only [decide_eq_true_eq, decide_eq_false_iff_not, Bool.not_eq_true', Bool.not_eq_false', Bool.and_eq_true, Bool.or_eq_true, Bool.and_eq_false_iff, Bool.or_eq_false_iff, Bool.not_eq_true, Bool.not_eq_false, Int.not_lt, Int.not_le, List.length_map, beq_self_eq_true, Bool.true_eq_false, Bool.false_eq_true] at h) <;> (try (exfalso; first | contradiction | omega))))
    all_goals (simp only [hg, hg2] at *)
    all_goals first | (exfalso; omega) | skip
    all_goals (refine W.ret ?_; (first | refine RetQ.b' ?_ | refine RetQ.i' ?_ | refine RetQ.d' ?_ | refine RetQ.t2' ?_ ?_ | refine RetQ.t3' ?_ ?_ ?_))
    all_goals rfl
  rw [if_neg k4]
  by_cases k5 : a.kind = 5 ∧ b.kind = 5
  · rw [if_pos k5]
    refine Fun.intro Try.func206 rfl (by kernel_rfl) rfl ?_
    repeat' (first | refine W.seq ?_ | refine W.rg ?_ | refine W.dra' ?_ | refine W.block ?_ | refine W.skip ?_ | refine W.exit ?_ | refine W.cond_true' ?_ | refine W.cond_false' ?_ | refine WG.nil ?_ | refine WG.run' (E := env) ?_ | refine WG.gt' ?_ | refine WG.gf' ?_ | refine WG.ixm' (E := env) ?_ | refine WG.ixo' (E := env) ?_ | refine WG.legm' (E := env) ?_ | refine WG.slS' (E := env) ?_ | refine WG.slD' (E := env) ?_ | refine WG.ap' (E := env) ?_ | refine WD.nil ?_ | refine WD.bs' (E := env) ?_ | refine WD.s' (E := env) (t := .d _) ?_ | refine WD.p' ?_ | refine WD.px' ?_ | refine WD.s' (E := env) (t := .ea _ _) ?_ | refine WD.s' (E := env) (t := .lp _ _) ?_ | refine WD.s' (E := env) (t := .og _ _) ?_ | refine WD.s' (E := env) (t := .agg _) ?_ | refine WD.s' (E := env) (t := .tup _) ?_ | refine WD.s' (E := env) (t := .clo _ _) ?_ | refine WD.ixm' (E := env) ?_ | refine WD.ixo' (E := env) ?_ | refine WD.legm' (E := env) ?_ | refine WD.slS' (E := env) ?_ | refine WD.slD' (E := env) ?_ | refine WG.coG' (E := env) rfl rfl (pa) rfl ?_ | refine WG.c (E := env) rfl rfl (pb) rfl rfl ?_ | refine WG.pubw 1 ?_ | refine WG.c (E := env) rfl rfl (b6) rfl rfl ?_ | refine WD.c (E := env) rfl rfl (b6) rfl rfl ?_ | refine WG.co (E := env) rfl rfl (b6) rfl rfl rfl rfl ?_ | refine WG.cx (E := env) rfl (b6) rfl ?_ | refine WG.c (E := env) rfl rfl (ar) rfl rfl ?_ | refine WD.c (E := env) rfl rfl (ar) rfl rfl ?_ | refine WG.co (E := env) rfl rfl (ar) rfl rfl rfl rfl ?_ | refine WG.cx (E := env) rfl (ar) rfl ?_ | refine WG.c (E := env) rfl rfl (tA) rfl rfl ?_ | refine WD.c (E := env) rfl rfl (tA) rfl rfl ?_ | refine WG.co (E := env) rfl rfl (tA) rfl rfl rfl rfl ?_ | refine WG.cx (E := env) rfl (tA) rfl ?_ | ((first | refine WG.sp' (fun h => ?_) fun h => ?_ | refine W.cond' (fun h => ?_) fun h => ?_ | refine WD.sp' (fun h => ?_) fun h => ?_) <;> (try simp only [decide_eq_true_eq, decide_eq_false_iff_not, Bool.not_eq_true', Bool.not_eq_false', Bool.and_eq_true, Bool.or_eq_true, Bool.and_eq_false_iff, Bool.or_eq_false_iff, Bool.not_eq_true, Bool.not_eq_false, Int.not_lt, Int.not_le, List.length_map, beq_self_eq_true, Bool.true_eq_false, Bool.false_eq_true] at h) <;> (try (exfalso; first | contradiction | omega))))
    all_goals (simp only [hg, hg2] at *)
    all_goals first | (exfalso; omega) | skip
    all_goals (refine W.ret ?_; (first | refine RetQ.b' ?_ | refine RetQ.i' ?_ | refine RetQ.d' ?_ | refine RetQ.t2' ?_ ?_ | refine RetQ.t3' ?_ ?_ ?_))
    all_goals first | rfl | (rw [gcA]; rfl)
  rw [if_neg k5]
  by_cases k6 : a.kind = 6 ∧ b.kind = 6
  · rw [if_pos k6]
    rw [kla k6.1] at ka
    rw [klb k6.2] at kb
    have o1 := oO k6
    have o2 := tO k6
    have o3 := hkl k6
    have o4 := gO k6
    refine Fun.intro Try.func206 rfl (by kernel_rfl) rfl ?_
    repeat' (first | refine W.seq ?_ | refine W.rg ?_ | refine W.dra' ?_ | refine W.block ?_ | refine W.skip ?_ | refine W.exit ?_ | refine W.cond_true' ?_ | refine W.cond_false' ?_ | refine WG.nil ?_ | refine WG.run' (E := env) ?_ | refine WG.gt' ?_ | refine WG.gf' ?_ | refine WG.ixm' (E := env) ?_ | refine WG.ixo' (E := env) ?_ | refine WG.legm' (E := env) ?_ | refine WG.slS' (E := env) ?_ | refine WG.slD' (E := env) ?_ | refine WG.ap' (E := env) ?_ | refine WD.nil ?_ | refine WD.bs' (E := env) ?_ | refine WD.s' (E := env) (t := .d _) ?_ | refine WD.p' ?_ | refine WD.px' ?_ | refine WD.s' (E := env) (t := .ea _ _) ?_ | refine WD.s' (E := env) (t := .lp _ _) ?_ | refine WD.s' (E := env) (t := .og _ _) ?_ | refine WD.s' (E := env) (t := .agg _) ?_ | refine WD.s' (E := env) (t := .tup _) ?_ | refine WD.s' (E := env) (t := .clo _ _) ?_ | refine WD.ixm' (E := env) ?_ | refine WD.ixo' (E := env) ?_ | refine WD.legm' (E := env) ?_ | refine WD.slS' (E := env) ?_ | refine WD.slD' (E := env) ?_ | refine WG.coG' (E := env) rfl rfl (ka) rfl ?_ | refine WG.c (E := env) rfl rfl (kb) rfl rfl ?_ | refine WG.coG' (E := env) rfl rfl (pa) rfl ?_ | refine WG.c (E := env) rfl rfl (pb) rfl rfl ?_ | refine WG.pubw 1 ?_ | refine WG.pubw 2 ?_ | refine WG.c (E := env) rfl rfl (b6) rfl rfl ?_ | refine WD.c (E := env) rfl rfl (b6) rfl rfl ?_ | refine WG.co (E := env) rfl rfl (b6) rfl rfl rfl rfl ?_ | refine WG.cx (E := env) rfl (b6) rfl ?_ | refine WG.c (E := env) rfl rfl (o1) rfl rfl ?_ | refine WD.c (E := env) rfl rfl (o1) rfl rfl ?_ | refine WG.co (E := env) rfl rfl (o1) rfl rfl rfl rfl ?_ | refine WG.cx (E := env) rfl (o1) rfl ?_ | refine WG.c (E := env) rfl rfl (o2) rfl rfl ?_ | refine WD.c (E := env) rfl rfl (o2) rfl rfl ?_ | refine WG.co (E := env) rfl rfl (o2) rfl rfl rfl rfl ?_ | refine WG.cx (E := env) rfl (o2) rfl ?_ | ((first | refine WG.sp' (fun h => ?_) fun h => ?_ | refine W.cond' (fun h => ?_) fun h => ?_ | refine WD.sp' (fun h => ?_) fun h => ?_) <;> (try simp only [decide_eq_true_eq, decide_eq_false_iff_not, Bool.not_eq_true', Bool.not_eq_false', Bool.and_eq_true, Bool.or_eq_true, Bool.and_eq_false_iff, Bool.or_eq_false_iff, Bool.not_eq_true, Bool.not_eq_false, Int.not_lt, Int.not_le, List.length_map, beq_self_eq_true, Bool.true_eq_false, Bool.false_eq_true] at h) <;> (try (exfalso; first | contradiction | omega))))
    all_goals (simp only [hg, hg2] at *)
    all_goals first | (exfalso; omega) | skip
    all_goals (refine W.ret ?_; (first | refine RetQ.b' ?_ | refine RetQ.i' ?_ | refine RetQ.d' ?_ | refine RetQ.t2' ?_ ?_ | refine RetQ.t3' ?_ ?_ ?_))
    all_goals first | rfl | (rw [o4]; rfl)
  · rw [if_neg k6]
    refine Fun.intro Try.func206 rfl (by kernel_rfl) rfl ?_
    repeat' (first | refine W.seq ?_ | refine W.rg ?_ | refine W.dra' ?_ | refine W.block ?_ | refine W.skip ?_ | refine W.exit ?_ | refine W.cond_true' ?_ | refine W.cond_false' ?_ | refine WG.nil ?_ | refine WG.run' (E := env) ?_ | refine WG.gt' ?_ | refine WG.gf' ?_ | refine WG.ixm' (E := env) ?_ | refine WG.ixo' (E := env) ?_ | refine WG.legm' (E := env) ?_ | refine WG.slS' (E := env) ?_ | refine WG.slD' (E := env) ?_ | refine WG.ap' (E := env) ?_ | refine WD.nil ?_ | refine WD.bs' (E := env) ?_ | refine WD.s' (E := env) (t := .d _) ?_ | refine WD.p' ?_ | refine WD.px' ?_ | refine WD.s' (E := env) (t := .ea _ _) ?_ | refine WD.s' (E := env) (t := .lp _ _) ?_ | refine WD.s' (E := env) (t := .og _ _) ?_ | refine WD.s' (E := env) (t := .agg _) ?_ | refine WD.s' (E := env) (t := .tup _) ?_ | refine WD.s' (E := env) (t := .clo _ _) ?_ | refine WD.ixm' (E := env) ?_ | refine WD.ixo' (E := env) ?_ | refine WD.legm' (E := env) ?_ | refine WD.slS' (E := env) ?_ | refine WD.slD' (E := env) ?_ | refine WG.c (E := env) rfl rfl (b6) rfl rfl ?_ | refine WD.c (E := env) rfl rfl (b6) rfl rfl ?_ | refine WG.co (E := env) rfl rfl (b6) rfl rfl rfl rfl ?_ | refine WG.cx (E := env) rfl (b6) rfl ?_ | ((first | refine WG.sp' (fun h => ?_) fun h => ?_ | refine W.cond' (fun h => ?_) fun h => ?_ | refine WD.sp' (fun h => ?_) fun h => ?_) <;> (try simp only [decide_eq_true_eq, decide_eq_false_iff_not, Bool.not_eq_true', Bool.not_eq_false', Bool.and_eq_true, Bool.or_eq_true, Bool.and_eq_false_iff, Bool.or_eq_false_iff, Bool.not_eq_true, Bool.not_eq_false, Int.not_lt, Int.not_le, List.length_map, beq_self_eq_true, Bool.true_eq_false, Bool.false_eq_true] at h) <;> (try (exfalso; first | contradiction | omega))))
    all_goals (simp only [hg, hg2] at *)
    all_goals first | (exfalso; omega) | skip
    all_goals (refine W.ret ?_; (first | refine RetQ.b' ?_ | refine RetQ.i' ?_ | refine RetQ.d' ?_ | refine RetQ.t2' ?_ ?_ | refine RetQ.t3' ?_ ?_ ?_))
    all_goals rfl

end Go.Proofs.Ytlegadpbjccelaa
