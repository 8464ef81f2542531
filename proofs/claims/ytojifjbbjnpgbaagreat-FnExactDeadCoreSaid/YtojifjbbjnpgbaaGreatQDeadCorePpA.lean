/-
  Passes over a core by the program and by the reference: TryCore; the laws' look at what a pass returns. Conditions: texts of at most 2^20 bytes, values of at most 2^20 cells.
-/
import Derived.Test.YtojifjbbjnpgbaaGreatQDeadCorePp9
set_option linter.unusedVariables false
set_option linter.unusedSimpArgs false
set_option maxRecDepth 100000
namespace Go.Proofs.YtojifjbbjnpgbaaGreat
open Go.RowKit

section
variable {E : Env} {N : Nm} {Q : Exit → St → Prop} {tm : Nat → T} {ob : List Ob} {ops l : List Oper} {ty : TypeId} {pos : String} {after : Array Edge} {gd : Option (Nat × Bool)} {d : Nat} {G : List Nat}
/-- A callee's own object of any kind, in a struct of three. -/
theorem WG.coX3 {f : FuncId} {xs : List Operand} {tys : List TypeId} {args : List D} {K : Nat} {X : ObX} {x y : D} (hw : St.want ⟨tm, ob⟩ ops ⟨some d, .call ⟨.value (.func f), xs.toArray, tys.toArray⟩, ty, pos, after, gd⟩ = some true) (hd : Nat.blt d N.n = true)
    (hc : Fun E.P f args (.agg [.d x, .d y, .og 0 0]) [.x X 0]) (ha : argsOf E ⟨tm, ob⟩ xs tys = some args) (hK : ob.length = K)
    (k : WG G E.P N ops l Q ⟨upd tm d (.agg [.d x, .d y, .og K 0]), ob ++ [.x X 0]⟩) : WG G E.P N ops (⟨some d, .call ⟨.value (.func f), xs.toArray, tys.toArray⟩, ty, pos, after, gd⟩ :: l) Q ⟨tm, ob⟩ :=
  WG.co hw hd hc ha hK (by simp [pushT, T.ren, T.renL, Rn.ix, Rn.of]) (by simp [pushO, renFrom, Ob.ren, Rn.of]) k
end

set_option maxHeartbeats 2000000 in
theorem l10Pass_fn {pass : Int} {fit : Pt → Option Pt} (hfit : FitOK fit) (hS : SFit pass fit) (cs : List Co) (hf : fitsK cs) :
    Fun env.P 27 [coresD cs, dI pass] (.d (.agg [dI (coreM cs), dI (passD fit cs), coresD (passR fit cs)])) [] := by
  have hcf := CoreFaultS_fn cs hf.2 hf.1
  unfold passR passD
  by_cases h0 : coreM cs = 0
  · obtain ⟨g1, g2, hg⟩ := good_of hf.1 h0
    have hcn := cnt_last g1 h0
    have hrf := readP_facts hfit hg cs.length (cs.length - 1) (by omega) (by omega)
    have hrd := l10Go_fn hfit hS hg g2 cs.length (cs.length - 1) 0 (by omega) (by omega) (by omega) (by omega) (by omega)
    rw [if_pos h0, if_pos h0, h0]
    rw [h0] at hcf
    rw [show ((cs.length - 1 : Nat) : Int) = ((cs.map Co.row).length : Int) - 1 by rw [List.length_map]; omega] at hrd
    generalize readP fit cs cs.length (cs.length - 1) = r at *
    have hcp := l10Copy_fn (r.1.flat 0) (by rw [Pt.flat_length]; omega) (Pt.flat_fine r.1 0 hrf.1)
    have e0 : (0 : Int) + (r.2 : Nat) = (r.2 : Nat) := by omega
    rw [e0] at hrd
    refine Fun.intro Tryz.func27 rfl (by kernel_rfl) rfl ?_
    repeat' (first | refine W.dre' (id := 6) [5] (fun f => bif bt f 1 then [.pv [.d (dI 0), .d (dI (r.2 : Nat)), .d (coresD (r.1.flat 0))], .pv [.d (coresD cs), .d (.nl 6), .d (dI pass), .d (dI (r.2 : Nat))]] else [.pv [.d (dI 0), .d (dI 0), .d (.nl 6)], .pv [.d (coresD cs), .d (.nl 6), .d (dI pass), .d (dI (r.2 : Nat))]]) [(0, [0]), (0, [0]), (0, [0]), (0, [0]), (0, [0]), (1, [0])] [.pv [.d (dI 0), .d (dI (r.2 : Nat)), .d (coresD (r.1.flat 0))], .pv [.d (coresD cs), .d (.nl 6), .d (dI pass), .d (dI (r.2 : Nat))]] ?_ | refine WE.c' hcp ?_ | refine WE.bd' ?_ | refine WE.nil ?_ | refine WE.ixP' ?_ | refine WE.s' (E := env) (t := .d _) ?_ | refine WE.p' ?_ | refine WE.px' ?_ | refine WE.s' (E := env) (t := .lp _ _) ?_ | refine WE.s' (E := env) (t := .og _ _) ?_ | refine WE.s' (E := env) (t := .ea _ _) ?_ | refine WE.s' (E := env) (t := .agg _) ?_ | refine WE.s' (E := env) (t := .tup _) ?_ | refine WE.ixm' (E := env) ?_ | refine WE.ixo' (E := env) ?_ | refine WE.leg' (E := env) ?_ | refine WE.slS' (E := env) ?_ | refine WE.slD' (E := env) ?_ | refine WE.ap' (E := env) ?_ | refine WE.st' (E := env) ?_ | refine WE.seg' (E := env) ?_ | refine WE.bs' (E := env) ?_ | refine W.seq ?_ | refine W.rg ?_ | refine W.dra' ?_ | refine W.block ?_ | refine W.skip ?_ | refine W.exit ?_ | refine W.cond_true' ?_ | refine W.cond_false' ?_ | refine WG.nil ?_ | refine WG.run' (E := env) ?_ | refine WG.gt' ?_ | refine WG.gf' ?_ | refine WG.ixm' (E := env) ?_ | refine WG.ixo' (E := env) ?_ | refine WG.legm' (E := env) ?_ | refine WG.slS' (E := env) ?_ | refine WG.slD' (E := env) ?_ | refine WG.ap' (E := env) ?_ | refine WD.nil ?_ | refine WD.bs' (E := env) ?_ | refine WD.s' (E := env) (t := .d _) ?_ | refine WD.p' ?_ | refine WD.px' ?_ | refine WD.s' (E := env) (t := .ea _ _) ?_ | refine WD.s' (E := env) (t := .lp _ _) ?_ | refine WD.s' (E := env) (t := .og _ _) ?_ | refine WD.s' (E := env) (t := .agg _) ?_ | refine WD.s' (E := env) (t := .tup _) ?_ | refine WD.s' (E := env) (t := .clo _ _) ?_ | refine WD.ixm' (E := env) ?_ | refine WD.ixo' (E := env) ?_ | refine WD.legm' (E := env) ?_ | refine WD.slS' (E := env) ?_ | refine WD.slD' (E := env) ?_ | refine WG.c (E := env) rfl rfl (hcf) rfl rfl ?_ | refine WD.c (E := env) rfl rfl (hcf) rfl rfl ?_ | refine WG.co (E := env) rfl rfl (hcf) rfl rfl rfl rfl ?_ | refine WG.cx (E := env) rfl (hcf) rfl ?_ | refine WG.cq (E := env) [1] [0] false rfl rfl (hrd) rfl rfl rfl rfl rfl rfl rfl (by first | exact trivial | exact ⟨rfl, trivial⟩ | exact ⟨rfl, rfl, trivial⟩) (.inl rfl) rfl (fun h => nomatch h) rfl rfl ?_ | refine WG.cqx (E := env) [1] [0] false rfl (hrd) rfl rfl rfl rfl rfl rfl rfl (by first | exact trivial | exact ⟨rfl, trivial⟩ | exact ⟨rfl, rfl, trivial⟩) (.inl rfl) rfl (fun h => nomatch h) rfl ?_ | ((first | refine WG.sp' (fun h => ?_) fun h => ?_ | refine W.cond' (fun h => ?_) fun h => ?_ | refine WD.sp' (fun h => ?_) fun h => ?_) <;> (try simp only [decide_eq_true_eq, decide_eq_false_iff_not, Bool.not_eq_true', Bool.not_eq_false', Bool.and_eq_true, Bool.or_eq_true, Bool.and_eq_false_iff, Bool.or_eq_false_iff, Bool.not_eq_true, Bool.not_eq_false, Int.not_lt, Int.not_le, List.length_map, beq_self_eq_true, Bool.true_eq_false, Bool.false_eq_true] at h) <;> (try (exfalso; first | contradiction | omega))))
    all_goals (refine W.ret ?_; (first | refine RetQ.b' ?_ | refine RetQ.i' ?_ | refine RetQ.d' ?_ | refine RetQ.t2' ?_ ?_ | refine RetQ.t3' ?_ ?_ ?_))
    all_goals rfl
  · rw [if_neg h0, if_neg h0]
    refine Fun.intro Tryz.func27 rfl (by kernel_rfl) rfl ?_
    repeat' (first | refine W.seq ?_ | refine W.rg ?_ | refine W.dra' ?_ | refine W.block ?_ | refine W.skip ?_ | refine W.exit ?_ | refine W.cond_true' ?_ | refine W.cond_false' ?_ | refine WG.nil ?_ | refine WG.run' (E := env) ?_ | refine WG.gt' ?_ | refine WG.gf' ?_ | refine WG.ixm' (E := env) ?_ | refine WG.ixo' (E := env) ?_ | refine WG.legm' (E := env) ?_ | refine WG.slS' (E := env) ?_ | refine WG.slD' (E := env) ?_ | refine WG.ap' (E := env) ?_ | refine WD.nil ?_ | refine WD.bs' (E := env) ?_ | refine WD.s' (E := env) (t := .d _) ?_ | refine WD.p' ?_ | refine WD.px' ?_ | refine WD.s' (E := env) (t := .ea _ _) ?_ | refine WD.s' (E := env) (t := .lp _ _) ?_ | refine WD.s' (E := env) (t := .og _ _) ?_ | refine WD.s' (E := env) (t := .agg _) ?_ | refine WD.s' (E := env) (t := .tup _) ?_ | refine WD.s' (E := env) (t := .clo _ _) ?_ | refine WD.ixm' (E := env) ?_ | refine WD.ixo' (E := env) ?_ | refine WD.legm' (E := env) ?_ | refine WD.slS' (E := env) ?_ | refine WD.slD' (E := env) ?_ | refine WG.c (E := env) rfl rfl (hcf) rfl rfl ?_ | refine WD.c (E := env) rfl rfl (hcf) rfl rfl ?_ | refine WG.co (E := env) rfl rfl (hcf) rfl rfl rfl rfl ?_ | refine WG.cx (E := env) rfl (hcf) rfl ?_ | ((first | refine WG.sp' (fun h => ?_) fun h => ?_ | refine W.cond' (fun h => ?_) fun h => ?_ | refine WD.sp' (fun h => ?_) fun h => ?_) <;> (try simp only [decide_eq_true_eq, decide_eq_false_iff_not, Bool.not_eq_true', Bool.not_eq_false', Bool.and_eq_true, Bool.or_eq_true, Bool.and_eq_false_iff, Bool.or_eq_false_iff, Bool.not_eq_true, Bool.not_eq_false, Int.not_lt, Int.not_le, List.length_map, beq_self_eq_true, Bool.true_eq_false, Bool.false_eq_true] at h) <;> (try (exfalso; first | contradiction | omega))))
    all_goals first | (exfalso; omega) | skip
    all_goals (refine W.ret ?_; (first | refine RetQ.b' ?_ | refine RetQ.i' ?_ | refine RetQ.d' ?_ | refine RetQ.t2' ?_ ?_ | refine RetQ.t3' ?_ ?_ ?_))
    all_goals rfl

theorem sumV_le (xs : List Co) (h : ∀ n ∈ xs, n.fine) : sumV xs ≤ 1048576 * xs.length := by
  induction xs with
  | nil => simp [sumV]
  | cons a r ih =>
    have h1 := (h a (List.mem_cons_self ..)).2
    have h2 := ih fun n hn => h n (List.mem_cons_of_mem _ hn)
    simp only [sumV, List.length_cons]
    omega

theorem passR_fine {fit : Pt → Option Pt} (hfit : FitOK fit) (cs : List Co) (hf : fitsK cs) : (passR fit cs).length ≤ 900 ∧ (∀ n ∈ passR fit cs, n.fine) ∧ sumV (passR fit cs) ≤ 943718400 := by
  unfold passR
  by_cases h0 : coreM cs = 0
  · obtain ⟨g1, g2, hg⟩ := good_of hf.1 h0
    have hcn := cnt_last g1 h0
    have hrf := readP_facts hfit hg cs.length (cs.length - 1) (by omega) (by omega)
    rw [if_pos h0]
    have h1 := Pt.flat_length (readP fit cs cs.length (cs.length - 1)).1 0
    have h2 := Pt.flat_fine (readP fit cs cs.length (cs.length - 1)).1 0 hrf.1
    have h3 := sumV_le _ h2
    exact ⟨by omega, h2, by omega⟩
  · rw [if_neg h0]
    exact ⟨by simp, fun n hn => by simp at hn, by simp [sumV]⟩

/-- A code, a count and a core, as data. -/
def paD (code did : Int) (rs : List Co) : D := .agg [dI code, dI did, coresD rs]

theorem neC_flat (rs : List Co) (dd : Option (List (List D))) (n : Nat) : (Ob.x (neC (rs.map coN) dd) n).flat := by
  refine nestX_flat n (fun r hr => ?_) fun r hr q hq p hp => ?_
  · obtain ⟨x, _, rfl⟩ := List.mem_map.1 hr
    rfl
  · obtain ⟨x, _, rfl⟩ := List.mem_map.1 hr
    cases hq
    obtain ⟨c, _, rfl⟩ := List.mem_map.1 hp
    rfl

theorem eqPassResult_fn (c1 c2 d1 d2 : Int) (xs ys : List Co) (hm : xs.length ≤ 1048576) (hx : ∀ x ∈ xs, x.fine) :
    Fun env.P 10 [paD c1 d1 xs, paD c2 d2 ys] (.d (dB (decide (c1 = c2 ∧ d1 = d2 ∧ xs = ys)))) [] := by
  refine Fun.intro Tryz.func10 rfl (by kernel_rfl) rfl ?_
  have cc := eqCoreS_fn xs ys hm hx
  repeat' (first | refine W.seq ?_ | refine W.rg ?_ | refine W.dra' ?_ | refine W.block ?_ | refine W.skip ?_ | refine W.exit ?_ | refine W.cond_true' ?_ | refine W.cond_false' ?_ | refine WG.nil ?_ | refine WG.run' (E := env) ?_ | refine WG.gt' ?_ | refine WG.gf' ?_ | refine WG.ixm' (E := env) ?_ | refine WG.ixo' (E := env) ?_ | refine WG.legm' (E := env) ?_ | refine WG.slS' (E := env) ?_ | refine WG.slD' (E := env) ?_ | refine WG.ap' (E := env) ?_ | refine WD.nil ?_ | refine WD.bs' (E := env) ?_ | refine WD.s' (E := env) (t := .d _) ?_ | refine WD.p' ?_ | refine WD.px' ?_ | refine WD.s' (E := env) (t := .ea _ _) ?_ | refine WD.s' (E := env) (t := .lp _ _) ?_ | refine WD.s' (E := env) (t := .og _ _) ?_ | refine WD.s' (E := env) (t := .agg _) ?_ | refine WD.s' (E := env) (t := .tup _) ?_ | refine WD.s' (E := env) (t := .clo _ _) ?_ | refine WD.ixm' (E := env) ?_ | refine WD.ixo' (E := env) ?_ | refine WD.legm' (E := env) ?_ | refine WD.slS' (E := env) ?_ | refine WD.slD' (E := env) ?_ | refine WG.c (E := env) rfl rfl (cc) rfl rfl ?_ | refine WD.c (E := env) rfl rfl (cc) rfl rfl ?_ | refine WG.co (E := env) rfl rfl (cc) rfl rfl rfl rfl ?_ | refine WG.cx (E := env) rfl (cc) rfl ?_ | ((first | refine WG.sp' (fun h => ?_) fun h => ?_ | refine W.cond' (fun h => ?_) fun h => ?_ | refine WD.sp' (fun h => ?_) fun h => ?_) <;> (try simp only [decide_eq_true_eq, decide_eq_false_iff_not, Bool.not_eq_true', Bool.not_eq_false', Bool.and_eq_true, Bool.or_eq_true, Bool.and_eq_false_iff, Bool.or_eq_false_iff, Bool.not_eq_true, Bool.not_eq_false, Int.not_lt, Int.not_le, List.length_map, beq_self_eq_true, Bool.true_eq_false, Bool.false_eq_true] at h) <;> (try (exfalso; first | contradiction | omega))))
  all_goals (refine W.ret ?_; (first | refine RetQ.b' ?_ | refine RetQ.i' ?_ | refine RetQ.d' ?_ | refine RetQ.t2' ?_ ?_ | refine RetQ.t3' ?_ ?_ ?_))
  all_goals simp [*]

set_option maxHeartbeats 4000000 in
theorem heldCoreS_fn (ls : List Nat) (k : Nat) (hk : endK k ls ≤ 1099511000000) (hl : ls.length ≤ 1048576) :
    Fun env.P 33 [coresD (marksK k ls), dI k] (.d (dI ((endK k ls : Nat) : Int))) [] := by
  have hml := marksK_length k ls
  refine Fun.intro Tryz.func33 rfl (by kernel_rfl) rfl ?_
  repeat' (first | refine W.seq ?_ | refine W.rg ?_ | refine W.dra' ?_ | refine W.block ?_ | refine W.skip ?_ | refine W.exit ?_ | refine W.cond_true' ?_ | refine W.cond_false' ?_ | refine WG.nil ?_ | refine WG.run' (E := env) ?_ | refine WG.gt' ?_ | refine WG.gf' ?_ | refine WG.ixm' (E := env) ?_ | refine WG.ixo' (E := env) ?_ | refine WG.legm' (E := env) ?_ | refine WG.slS' (E := env) ?_ | refine WG.slD' (E := env) ?_ | refine WG.ap' (E := env) ?_ | refine WD.nil ?_ | refine WD.bs' (E := env) ?_ | refine WD.s' (E := env) (t := .d _) ?_ | refine WD.p' ?_ | refine WD.px' ?_ | refine WD.s' (E := env) (t := .ea _ _) ?_ | refine WD.s' (E := env) (t := .lp _ _) ?_ | refine WD.s' (E := env) (t := .og _ _) ?_ | refine WD.s' (E := env) (t := .agg _) ?_ | refine WD.s' (E := env) (t := .tup _) ?_ | refine WD.s' (E := env) (t := .clo _ _) ?_ | refine WD.ixm' (E := env) ?_ | refine WD.ixo' (E := env) ?_ | refine WD.legm' (E := env) ?_ | refine WD.slS' (E := env) ?_ | refine WD.slD' (E := env) ?_ | ((first | refine WG.sp' (fun h => ?_) fun h => ?_ | refine W.cond' (fun h => ?_) fun h => ?_ | refine WD.sp' (fun h => ?_) fun h => ?_) <;> (try simp only [decide_eq_true_eq, decide_eq_false_iff_not, Bool.not_eq_true', Bool.not_eq_false', Bool.and_eq_true, Bool.or_eq_true, Bool.and_eq_false_iff, Bool.or_eq_false_iff, Bool.not_eq_true, Bool.not_eq_false, Int.not_lt, Int.not_le, List.length_map, beq_self_eq_true, Bool.true_eq_false, Bool.false_eq_true] at h) <;> (try (exfalso; first | contradiction | omega))))
  refine W.loop (fun m S => ∃ (i : Nat) (q : Int), m = ls.length - i ∧ (i ≤ ls.length ∧ q = (endK k (ls.take i) : Nat)) ∧ S = ⟨ofL [(0, .d (coresD (marksK k ls))), (1, vI .i64 q), (5, vI .i64 i)], []⟩) _ _ ⟨0, k, rfl, ⟨by omega, by simp [endK]⟩, rfl⟩ (by (refine le_ofL rfl ?_ ?_ <;> (repeat (first | exact trivial | refine ⟨⟨rfl, rfl⟩, ?_⟩ | refine ⟨rfl, .inl rfl, ?_⟩ | refine ⟨rfl, .inr rfl, ?_⟩)))) ?_
  rintro m S ⟨i, q, rfl, ⟨hi, hq⟩, rfl⟩
  by_cases hlt : i < ls.length
  · have hmo := endK_mono k ls i
    have hmo2 := endK_mono k ls (i + 1)
    have het := endK_take k ls i hlt
    have hma := marksK_at k ls i hlt
    generalize endK k (ls.take i) = p at *
    subst hq
    have hmk := heldCellS_fn (ls.getD i default) (p + 5) (by omega)
    rw [show (i : Nat) = Int.toNat (i : Int) from rfl] at hma
    have f1 := congrArg Co.op hma
    have f2 := congrArg Co.a hma
    have f3 := congrArg Co.b hma
    have f4 := congrArg Co.c hma
    have f5 := congrArg Co.num hma
    have f6 := congrArg Co.val hma
    simp only at f1 f2 f3 f4 f5 f6
    rw [show ls.getD i default = ls.getD (Int.toNat (i : Int)) default from rfl] at hmk het
    rw [← f6, show ((p + 5 : Nat) : Int) = (p : Int) + 1 + 1 + 1 + 1 + 1 by omega, show ((p + 5 + 5 * ls.getD (Int.toNat (i : Int)) default : Nat) : Int) = ((endK k (ls.take (i + 1)) : Nat) : Int) by rw [het]] at hmk
    clear f6 hma
    obtain ⟨x, hx⟩ : ∃ x, (marksK k ls).getD (Int.toNat (i : Int)) default = x := ⟨_, rfl⟩
    rw [hx] at f1 f2 f3 f4 f5 hmk
    have hxw : Co.row ((marksK k ls).getD (Int.toNat (i : Int)) default) = x.row := by rw [hx]
    repeat' (first | refine WG.ixeP (E := env) (r := x.row) rfl rfl rfl rfl rfl rfl rfl hxw (by (first | exact trivial | (simp only [inRange, List.length_map]; omega) | omega | assumption)) ?_ | refine W.seq ?_ | refine W.rg ?_ | refine W.dra' ?_ | refine W.block ?_ | refine W.skip ?_ | refine W.exit ?_ | refine W.cond_true' ?_ | refine W.cond_false' ?_ | refine WG.nil ?_ | refine WG.run' (E := env) ?_ | refine WG.gt' ?_ | refine WG.gf' ?_ | refine WG.ixm' (E := env) ?_ | refine WG.ixo' (E := env) ?_ | refine WG.legm' (E := env) ?_ | refine WG.slS' (E := env) ?_ | refine WG.slD' (E := env) ?_ | refine WG.ap' (E := env) ?_ | refine WD.nil ?_ | refine WD.bs' (E := env) ?_ | refine WD.s' (E := env) (t := .d _) ?_ | refine WD.p' ?_ | refine WD.px' ?_ | refine WD.s' (E := env) (t := .ea _ _) ?_ | refine WD.s' (E := env) (t := .lp _ _) ?_ | refine WD.s' (E := env) (t := .og _ _) ?_ | refine WD.s' (E := env) (t := .agg _) ?_ | refine WD.s' (E := env) (t := .tup _) ?_ | refine WD.s' (E := env) (t := .clo _ _) ?_ | refine WD.ixm' (E := env) ?_ | refine WD.ixo' (E := env) ?_ | refine WD.legm' (E := env) ?_ | refine WD.slS' (E := env) ?_ | refine WD.slD' (E := env) ?_ | refine WG.c (E := env) rfl rfl (hmk) rfl rfl ?_ | refine WD.c (E := env) rfl rfl (hmk) rfl rfl ?_ | refine WG.co (E := env) rfl rfl (hmk) rfl rfl rfl rfl ?_ | refine WG.cx (E := env) rfl (hmk) rfl ?_ | ((first | refine WG.sp' (fun h => ?_) fun h => ?_ | refine W.cond' (fun h => ?_) fun h => ?_ | refine WD.sp' (fun h => ?_) fun h => ?_) <;> (try simp only [decide_eq_true_eq, decide_eq_false_iff_not, Bool.not_eq_true', Bool.not_eq_false', Bool.and_eq_true, Bool.or_eq_true, Bool.and_eq_false_iff, Bool.or_eq_false_iff, Bool.not_eq_true, Bool.not_eq_false, Int.not_lt, Int.not_le, List.length_map, beq_self_eq_true, Bool.true_eq_false, Bool.false_eq_true] at h) <;> (try (exfalso; first | contradiction | omega))))
    all_goals first
      | (exfalso; omega)
      | exact ⟨_, _, by omega, ⟨i + 1, _, rfl, ⟨by omega, rfl⟩, rfl⟩, (by (refine le_ofL rfl ?_ ?_ <;> (repeat (first | exact trivial | refine ⟨⟨rfl, rfl⟩, ?_⟩ | refine ⟨rfl, .inl rfl, ?_⟩ | refine ⟨rfl, .inr rfl, ?_⟩))))⟩
  · obtain rfl : i = ls.length := by omega
    rw [List.take_length] at hq
    subst hq
    repeat' (first | refine W.seq ?_ | refine W.rg ?_ | refine W.dra' ?_ | refine W.block ?_ | refine W.skip ?_ | refine W.exit ?_ | refine W.cond_true' ?_ | refine W.cond_false' ?_ | refine WG.nil ?_ | refine WG.run' (E := env) ?_ | refine WG.gt' ?_ | refine WG.gf' ?_ | refine WG.ixm' (E := env) ?_ | refine WG.ixo' (E := env) ?_ | refine WG.legm' (E := env) ?_ | refine WG.slS' (E := env) ?_ | refine WG.slD' (E := env) ?_ | refine WG.ap' (E := env) ?_ | refine WD.nil ?_ | refine WD.bs' (E := env) ?_ | refine WD.s' (E := env) (t := .d _) ?_ | refine WD.p' ?_ | refine WD.px' ?_ | refine WD.s' (E := env) (t := .ea _ _) ?_ | refine WD.s' (E := env) (t := .lp _ _) ?_ | refine WD.s' (E := env) (t := .og _ _) ?_ | refine WD.s' (E := env) (t := .agg _) ?_ | refine WD.s' (E := env) (t := .tup _) ?_ | refine WD.s' (E := env) (t := .clo _ _) ?_ | refine WD.ixm' (E := env) ?_ | refine WD.ixo' (E := env) ?_ | refine WD.legm' (E := env) ?_ | refine WD.slS' (E := env) ?_ | refine WD.slD' (E := env) ?_ | ((first | refine WG.sp' (fun h => ?_) fun h => ?_ | refine W.cond' (fun h => ?_) fun h => ?_ | refine WD.sp' (fun h => ?_) fun h => ?_) <;> (try simp only [decide_eq_true_eq, decide_eq_false_iff_not, Bool.not_eq_true', Bool.not_eq_false', Bool.and_eq_true, Bool.or_eq_true, Bool.and_eq_false_iff, Bool.or_eq_false_iff, Bool.not_eq_true, Bool.not_eq_false, Int.not_lt, Int.not_le, List.length_map, beq_self_eq_true, Bool.true_eq_false, Bool.false_eq_true] at h) <;> (try (exfalso; first | contradiction | omega))))
    (refine W.ret ?_; (first | refine RetQ.b' ?_ | refine RetQ.i' ?_ | refine RetQ.d' ?_ | refine RetQ.t2' ?_ ?_ | refine RetQ.t3' ?_ ?_ ?_))
    rfl

theorem heldPassResult_fn (code did : Int) (ls : List Nat) (k : Nat) (hk : endK k ls ≤ 1099511000000) (hl : ls.length ≤ 1048576) :
    Fun env.P 14 [paD code did (marksK k ls), dI k] (.d (dI ((endK k ls : Nat) : Int))) [] := by
  refine Fun.intro Tryz.func14 rfl (by kernel_rfl) rfl ?_
  have c1 := heldCoreS_fn ls k hk hl
  repeat' (first | refine W.seq ?_ | refine W.rg ?_ | refine W.dra' ?_ | refine W.block ?_ | refine W.skip ?_ | refine W.exit ?_ | refine W.cond_true' ?_ | refine W.cond_false' ?_ | refine WG.nil ?_ | refine WG.run' (E := env) ?_ | refine WG.gt' ?_ | refine WG.gf' ?_ | refine WG.ixm' (E := env) ?_ | refine WG.ixo' (E := env) ?_ | refine WG.legm' (E := env) ?_ | refine WG.slS' (E := env) ?_ | refine WG.slD' (E := env) ?_ | refine WG.ap' (E := env) ?_ | refine WD.nil ?_ | refine WD.bs' (E := env) ?_ | refine WD.s' (E := env) (t := .d _) ?_ | refine WD.p' ?_ | refine WD.px' ?_ | refine WD.s' (E := env) (t := .ea _ _) ?_ | refine WD.s' (E := env) (t := .lp _ _) ?_ | refine WD.s' (E := env) (t := .og _ _) ?_ | refine WD.s' (E := env) (t := .agg _) ?_ | refine WD.s' (E := env) (t := .tup _) ?_ | refine WD.s' (E := env) (t := .clo _ _) ?_ | refine WD.ixm' (E := env) ?_ | refine WD.ixo' (E := env) ?_ | refine WD.legm' (E := env) ?_ | refine WD.slS' (E := env) ?_ | refine WD.slD' (E := env) ?_ | refine WG.c (E := env) rfl rfl (c1) rfl rfl ?_ | refine WD.c (E := env) rfl rfl (c1) rfl rfl ?_ | refine WG.co (E := env) rfl rfl (c1) rfl rfl rfl rfl ?_ | refine WG.cx (E := env) rfl (c1) rfl ?_ | ((first | refine WG.sp' (fun h => ?_) fun h => ?_ | refine W.cond' (fun h => ?_) fun h => ?_ | refine WD.sp' (fun h => ?_) fun h => ?_) <;> (try simp only [decide_eq_true_eq, decide_eq_false_iff_not, Bool.not_eq_true', Bool.not_eq_false', Bool.and_eq_true, Bool.or_eq_true, Bool.and_eq_false_iff, Bool.or_eq_false_iff, Bool.not_eq_true, Bool.not_eq_false, Int.not_lt, Int.not_le, List.length_map, beq_self_eq_true, Bool.true_eq_false, Bool.false_eq_true] at h) <;> (try (exfalso; first | contradiction | omega))))
  all_goals first | (exfalso; omega) | skip
  all_goals (refine W.ret ?_; (first | refine RetQ.b' ?_ | refine RetQ.i' ?_ | refine RetQ.d' ?_ | refine RetQ.t2' ?_ ?_ | refine RetQ.t3' ?_ ?_ ?_))
  all_goals rfl

set_option maxHeartbeats 2000000 in
theorem markPassResult_fn (code did : Int) (xs : List Co) (dd : Option (List (List D))) (k : Nat) (hk : k + 5 * xs.length + 5 * sumV xs ≤ 1099511000000) :
    FunQ env.P 13 [.agg [vI .i64 code, vI .i64 did, .og 0 0], vI .i64 k] [.x (neC (xs.map coN) dd) 0]
      (just (vI .i64 ((k + 5 * xs.length + 5 * sumV xs : Nat) : Int)) [.x (neC ((marksK k (xs.map fun n => n.val.length)).map coN) (some ((marksK k (xs.map fun n => n.val.length)).map Co.row))) 0]) := by
  refine FunQ.intro Tryz.func13 rfl (by kernel_rfl) rfl ?_
  have c1 := markCoreS_fn xs dd k hk
  repeat' (first | refine W.seq ?_ | refine W.rg ?_ | refine W.dra' ?_ | refine W.block ?_ | refine W.skip ?_ | refine W.exit ?_ | refine W.cond_true' ?_ | refine W.cond_false' ?_ | refine WG.nil ?_ | refine WG.run' (E := env) ?_ | refine WG.gt' ?_ | refine WG.gf' ?_ | refine WG.ixm' (E := env) ?_ | refine WG.ixo' (E := env) ?_ | refine WG.legm' (E := env) ?_ | refine WG.slS' (E := env) ?_ | refine WG.slD' (E := env) ?_ | refine WG.ap' (E := env) ?_ | refine WD.nil ?_ | refine WD.bs' (E := env) ?_ | refine WD.s' (E := env) (t := .d _) ?_ | refine WD.p' ?_ | refine WD.px' ?_ | refine WD.s' (E := env) (t := .ea _ _) ?_ | refine WD.s' (E := env) (t := .lp _ _) ?_ | refine WD.s' (E := env) (t := .og _ _) ?_ | refine WD.s' (E := env) (t := .agg _) ?_ | refine WD.s' (E := env) (t := .tup _) ?_ | refine WD.s' (E := env) (t := .clo _ _) ?_ | refine WD.ixm' (E := env) ?_ | refine WD.ixo' (E := env) ?_ | refine WD.legm' (E := env) ?_ | refine WD.slS' (E := env) ?_ | refine WD.slD' (E := env) ?_ | refine WG.cq (E := env) [0] [0] false rfl rfl (c1) rfl rfl rfl rfl rfl rfl rfl (by first | exact trivial | exact ⟨rfl, trivial⟩ | exact ⟨rfl, rfl, trivial⟩) (.inl rfl) rfl (fun h => nomatch h) rfl rfl ?_ | refine WG.cqx (E := env) [0] [0] false rfl (c1) rfl rfl rfl rfl rfl rfl rfl (by first | exact trivial | exact ⟨rfl, trivial⟩ | exact ⟨rfl, rfl, trivial⟩) (.inl rfl) rfl (fun h => nomatch h) rfl ?_ | ((first | refine WG.sp' (fun h => ?_) fun h => ?_ | refine W.cond' (fun h => ?_) fun h => ?_ | refine WD.sp' (fun h => ?_) fun h => ?_) <;> (try simp only [decide_eq_true_eq, decide_eq_false_iff_not, Bool.not_eq_true', Bool.not_eq_false', Bool.and_eq_true, Bool.or_eq_true, Bool.and_eq_false_iff, Bool.or_eq_false_iff, Bool.not_eq_true, Bool.not_eq_false, Int.not_lt, Int.not_le, List.length_map, beq_self_eq_true, Bool.true_eq_false, Bool.false_eq_true] at h) <;> (try (exfalso; first | contradiction | omega))))
  refine W.ret ?_
  exact RetR.own (ob' := [.x (neC ((marksK k (xs.map fun n => n.val.length)).map coN) (some ((marksK k (xs.map fun n => n.val.length)).map Co.row))) 0]) ⟨[0], [0], 2⟩ (.inl rfl) rfl (by first | trivial | exact resOK_of (E := env) rfl) rfl rfl rfl rfl rfl rfl ⟨rfl, trivial⟩ rfl ⟨rfl, rfl⟩

end Go.Proofs.YtojifjbbjnpgbaaGreat
