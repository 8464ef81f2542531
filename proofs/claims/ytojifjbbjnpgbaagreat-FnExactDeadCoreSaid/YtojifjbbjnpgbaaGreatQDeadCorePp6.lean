/-
  A pass over a core, by the program: the tries that are left out. Conditions: texts of at most 2^20 bytes, values of at most 2^20 cells.
-/
import Derived.Test.YtojifjbbjnpgbaaGreatQDeadCorePp5
set_option linter.unusedVariables false
set_option linter.unusedSimpArgs false
set_option maxRecDepth 100000
namespace Go.Proofs.YtojifjbbjnpgbaaGreat
open Go.RowKit

section
variable {P : Program} {E : Env} {N : Nm} {tm : Nat → T} {ob ob2 : List Ob} {ops : List Oper} {ty : TypeId} {pos : String} {after : Array Edge} {gd : Option (Nat × Bool)} {d : Nat}

/-- A call with a datum and a nil slice that hands back an own object of any kind, in a drawn region. -/
theorem OpS1.coXn {f : FuncId} {x0 x1 : Operand} {tys : List TypeId} {a0 : D} {z K : Nat} {X : ObX}
    (hw : St.want ⟨tm, ob⟩ ops ⟨some d, .call ⟨.value (.func f), [x0, x1].toArray, tys.toArray⟩, ty, pos, after, gd⟩ = some true) (hd : Nat.blt d N.n = true) (hc : FunQ E.P f [.d a0, .d (.nl z)] [] (just (.og 0 0) [.x X 0])) (h0 : St.ev ⟨tm, ob⟩ x0 = .d a0) (h1 : St.ev ⟨tm, ob⟩ x1 = .d (.v (.slice none 0 0))) (hK : ob.length = K) (ho : ob ++ [.x X 0] = ob2) :
    OpS1 E.P N ops ⟨some d, .call ⟨.value (.func f), [x0, x1].toArray, tys.toArray⟩, ty, pos, after, gd⟩ tm (.og K 0) ob ob2 := fun tm' hag l Q k' => by
  subst hK; subst ho
  have e0 : St.ev ⟨tm', ob⟩ x0 = .d a0 := by rw [← h0]; exact ev_agree hag (by simp [Op.operands, Call.operands])
  have e1 : St.ev ⟨tm', ob⟩ x1 = .d (.v (.slice none 0 0)) := by rw [← h1]; exact ev_agree hag (by simp [Op.operands, Call.operands])
  refine WL.oper (S := ⟨tm', ob⟩) (by rw [want_agree hag]; exact hw) fun w0 σ0 a w g R => ?_
  refine R.callG (E := E) (xs := [x0, x1]) (tys := tys) (cap := []) (fop := .func f) [.d a0, .d (.nl z)] ⟨[], [], ob.length⟩ hc rfl rfl (fun i x u hx hu => ?_) rfl rfl rfl rfl rfl rfl trivial (fun t2 o2 h => rfl) _ _ fun t2 o2 hR v w' g2 hle2 I' hv => ?_
  · match i with
    | 0 =>
      simp at hx hu
      subst hx; subst hu
      have := R.ev x0
      rw [e0] at this
      exact this
    | 1 =>
      simp at hx hu
      subst hx; subst hu
      have := R.ev x1
      rw [e1] at this
      rw [this.inv_v]
      exact .d _ _ (.nl _)
    | i + 2 => simp at hx
  · obtain ⟨rfl, rfl⟩ := hR
    have em : mergeO ⟨[], [], ob.length⟩ 0 ob [] [.x X 0] = ob ++ [.x X 0] := by simp [mergeO, renFrom, Ob.ren, Rn.of]
    rw [em] at I'
    have hv' : RT g2 (.og ob.length 0) v := by simpa [T.ren, Rn.ix, Rn.of] using hv
    have r' : Rel N w0 σ0 ⟨tm', ob ++ [.x X 0]⟩ a w' g2 := ⟨I', R.defers, R.size, R.hm, Nat.le_trans R.hl (by simp), fun i => (R.tm i).mono hle2⟩
    exact k' w0 σ0 _ w' g2 (r'.set (by simpa using hd) hv')
end

/-- A part that is nothing. -/
def Pt.none0 : Pt := .mk ⟨0, 0, 0, 0, 0, []⟩ []
/-- A node of a kind by itself. -/
def Pt.leaf (op : Int) : Pt := .mk ⟨op, 0, 0, 0, 0, []⟩ []

theorem is_fn (p : Pt) (op : Int) : Fun env.P 53 [.agg p.rowP, dI op] (.d (dB (decide (p.n.op = op)))) [] := by
  refine Fun.intro Tryz.func53 rfl (by kernel_rfl) rfl ?_
  repeat' (first | refine W.seq ?_ | refine W.rg ?_ | refine W.dra' ?_ | refine W.block ?_ | refine W.skip ?_ | refine W.exit ?_ | refine W.cond_true' ?_ | refine W.cond_false' ?_ | refine WG.nil ?_ | refine WG.run' (E := env) ?_ | refine WG.gt' ?_ | refine WG.gf' ?_ | refine WG.ixm' (E := env) ?_ | refine WG.ixo' (E := env) ?_ | refine WG.legm' (E := env) ?_ | refine WG.slS' (E := env) ?_ | refine WG.slD' (E := env) ?_ | refine WG.ap' (E := env) ?_ | refine WD.nil ?_ | refine WD.bs' (E := env) ?_ | refine WD.s' (E := env) (t := .d _) ?_ | refine WD.p' ?_ | refine WD.px' ?_ | refine WD.s' (E := env) (t := .ea _ _) ?_ | refine WD.s' (E := env) (t := .lp _ _) ?_ | refine WD.s' (E := env) (t := .og _ _) ?_ | refine WD.s' (E := env) (t := .agg _) ?_ | refine WD.s' (E := env) (t := .tup _) ?_ | refine WD.s' (E := env) (t := .clo _ _) ?_ | refine WD.ixm' (E := env) ?_ | refine WD.ixo' (E := env) ?_ | refine WD.legm' (E := env) ?_ | refine WD.slS' (E := env) ?_ | refine WD.slD' (E := env) ?_ | ((first | refine WG.sp' (fun h => ?_) fun h => ?_ | refine W.cond' (fun h => ?_) fun h => ?_ | refine WD.sp' (fun h => ?_) fun h => ?_) <;> (try simp only [decide_eq_true_eq, decide_eq_false_iff_not, Bool.not_eq_true', Bool.not_eq_false', Bool.and_eq_true, Bool.or_eq_true, Bool.and_eq_false_iff, Bool.or_eq_false_iff, Bool.not_eq_true, Bool.not_eq_false, Int.not_lt, Int.not_le, List.length_map, beq_self_eq_true, Bool.true_eq_false, Bool.false_eq_true] at h) <;> (try (exfalso; first | contradiction | omega))))
  (refine W.ret ?_; (first | refine RetQ.b' ?_ | refine RetQ.i' ?_ | refine RetQ.d' ?_ | refine RetQ.t2' ?_ ?_ | refine RetQ.t3' ?_ ?_ ?_))
  rfl

/-- The core that a pass makes, and how often it did something. -/
noncomputable def passR (fit : Pt → Option Pt) (cs : List Co) : List Co := if coreM cs = 0 then (readP fit cs cs.length (cs.length - 1)).1.flat 0 else []
noncomputable def passD (fit : Pt → Option Pt) (cs : List Co) : Int := if coreM cs = 0 then ((readP fit cs cs.length (cs.length - 1)).2 : Nat) else 0

set_option maxHeartbeats 4000000 in
theorem pass_fn {F : FuncId} {fit : Pt → Option Pt} (hfit : FitOK fit) (hF : FitFn F fit) (cs : List Co) (hf : fitsK cs) :
    Fun env.P 29 [coresD cs, fnD F] (.agg [.d (dI (coreM cs)), .d (dI (passD fit cs)), .og 0 0]) [.x (neC ((passR fit cs).map coN) (some ((passR fit cs).map Co.row))) 0] := by
  have hcf := CoreFault_fn cs hf.2 hf.1
  have hsz := sizeC_fn cs
  unfold passR passD
  by_cases h0 : coreM cs = 0
  · obtain ⟨g1, g2, hg⟩ := good_of hf.1 h0
    have hcn := cnt_last g1 h0
    have hrf := readP_facts hfit hg cs.length (cs.length - 1) (by omega) (by omega)
    have hrd := readI_fn hfit hF hg g2 cs.length (cs.length - 1) 0 (by omega) (by omega) (by omega) (by omega) (by omega)
    rw [if_pos h0, if_pos h0, h0]
    rw [h0] at hcf
    rw [show ((cs.length - 1 : Nat) : Int) = ((cs.map Co.row).length : Int) - 1 by rw [List.length_map]; omega] at hrd
    generalize readP fit cs cs.length (cs.length - 1) = r at *
    have hnd := nodesN_fn r.1 (Pt.good_ok _ hrf.1) (by omega)
    have e0 : (0 : Int) + (r.2 : Nat) = (r.2 : Nat) := by omega
    rw [e0] at hrd
    refine Fun.intro Tryz.func29 rfl (by kernel_rfl) rfl ?_
    repeat' (first | refine W.dre' (id := 6) [5, 7] (fun f => bif bt f 2 then [.pv [.d (dI 0), .d (dI (r.2 : Nat)), .og 3 0], .pv [.d (coresD cs), .d (dI (r.2 : Nat)), .d (fnD F)], .pv (r.1.rowP.map .d), .x (neC ((r.1.flat 0).map coN) none) 0] else bif bt f 1 then [.pv [.d (dI 0), .d (dI 0), .d (.nl 6)], .pv [.d (coresD cs), .d (dI (r.2 : Nat)), .d (fnD F)], .pv (r.1.rowP.map .d), .x (neC ((r.1.flat 0).map coN) none) 0] else [.pv [.d (dI 0), .d (dI 0), .d (.nl 6)], .pv [.d (coresD cs), .d (dI (r.2 : Nat)), .d (fnD F)], .pv (r.1.rowP.map .d)]) [(0, [0, 1]), (0, [0, 1]), (0, [0, 1]), (0, [0, 1]), (0, [0]), (1, [0]), (0, [1]), (2, [1])] [.pv [.d (dI 0), .d (dI (r.2 : Nat)), .og 3 0], .pv [.d (coresD cs), .d (dI (r.2 : Nat)), .d (fnD F)], .pv (r.1.rowP.map .d), .x (neC ((r.1.flat 0).map coN) none) 0] ?_ | refine WE.mkd (.og 3 0) ?_ (.c (OpS1.coXn (E := env) rfl rfl hnd rfl rfl rfl rfl) .n) | refine WE.bd' ?_ | refine WE.nil ?_ | refine WE.ixP' ?_ | refine WE.s' (E := env) (t := .d _) ?_ | refine WE.p' ?_ | refine WE.px' ?_ | refine WE.s' (E := env) (t := .lp _ _) ?_ | refine WE.s' (E := env) (t := .og _ _) ?_ | refine WE.s' (E := env) (t := .ea _ _) ?_ | refine WE.s' (E := env) (t := .agg _) ?_ | refine WE.s' (E := env) (t := .tup _) ?_ | refine WE.ixm' (E := env) ?_ | refine WE.ixo' (E := env) ?_ | refine WE.leg' (E := env) ?_ | refine WE.slS' (E := env) ?_ | refine WE.slD' (E := env) ?_ | refine WE.ap' (E := env) ?_ | refine WE.st' (E := env) ?_ | refine WE.seg' (E := env) ?_ | refine WE.bs' (E := env) ?_ | refine W.seq ?_ | refine W.rg ?_ | refine W.dra' ?_ | refine W.block ?_ | refine W.skip ?_ | refine W.exit ?_ | refine W.cond_true' ?_ | refine W.cond_false' ?_ | refine WG.nil ?_ | refine WG.run' (E := env) ?_ | refine WG.gt' ?_ | refine WG.gf' ?_ | refine WG.ixm' (E := env) ?_ | refine WG.ixo' (E := env) ?_ | refine WG.legm' (E := env) ?_ | refine WG.slS' (E := env) ?_ | refine WG.slD' (E := env) ?_ | refine WG.ap' (E := env) ?_ | refine WD.nil ?_ | refine WD.bs' (E := env) ?_ | refine WD.s' (E := env) (t := .d _) ?_ | refine WD.p' ?_ | refine WD.px' ?_ | refine WD.s' (E := env) (t := .ea _ _) ?_ | refine WD.s' (E := env) (t := .lp _ _) ?_ | refine WD.s' (E := env) (t := .og _ _) ?_ | refine WD.s' (E := env) (t := .agg _) ?_ | refine WD.s' (E := env) (t := .tup _) ?_ | refine WD.s' (E := env) (t := .clo _ _) ?_ | refine WD.ixm' (E := env) ?_ | refine WD.ixo' (E := env) ?_ | refine WD.legm' (E := env) ?_ | refine WD.slS' (E := env) ?_ | refine WD.slD' (E := env) ?_ | refine WG.c (E := env) rfl rfl (hcf) rfl rfl ?_ | refine WD.c (E := env) rfl rfl (hcf) rfl rfl ?_ | refine WG.co (E := env) rfl rfl (hcf) rfl rfl rfl rfl ?_ | refine WG.cx (E := env) rfl (hcf) rfl ?_ | refine WG.c (E := env) rfl rfl (hsz) rfl rfl ?_ | refine WD.c (E := env) rfl rfl (hsz) rfl rfl ?_ | refine WG.co (E := env) rfl rfl (hsz) rfl rfl rfl rfl ?_ | refine WG.cx (E := env) rfl (hsz) rfl ?_ | refine WG.cq (E := env) [1] [0] false rfl rfl (hrd) rfl rfl rfl rfl rfl rfl rfl (by first | exact trivial | exact ⟨rfl, trivial⟩ | exact ⟨rfl, rfl, trivial⟩) (.inl rfl) rfl (fun h => nomatch h) rfl rfl ?_ | refine WG.cqx (E := env) [1] [0] false rfl (hrd) rfl rfl rfl rfl rfl rfl rfl (by first | exact trivial | exact ⟨rfl, trivial⟩ | exact ⟨rfl, rfl, trivial⟩) (.inl rfl) rfl (fun h => nomatch h) rfl ?_ | ((first | refine WG.sp' (fun h => ?_) fun h => ?_ | refine W.cond' (fun h => ?_) fun h => ?_ | refine WD.sp' (fun h => ?_) fun h => ?_) <;> (try simp only [decide_eq_true_eq, decide_eq_false_iff_not, Bool.not_eq_true', Bool.not_eq_false', Bool.and_eq_true, Bool.or_eq_true, Bool.and_eq_false_iff, Bool.or_eq_false_iff, Bool.not_eq_true, Bool.not_eq_false, Int.not_lt, Int.not_le, List.length_map, beq_self_eq_true, Bool.true_eq_false, Bool.false_eq_true] at h) <;> (try (exfalso; first | contradiction | omega))))
    refine W.imp (St.imp.note 3 rfl ((r.1.flat 0).map Co.row) (coN_dat _)) ?_
    refine W.ret ?_
    exact RetR.agx3 (.inl rfl) rfl (by first | trivial | exact resOK_of (E := env) rfl) rfl rfl rfl rfl
  · rw [if_neg h0, if_neg h0]
    refine FunQ.fin (t := .agg [.d (dI (coreM cs)), .d (dI 0), .og 0 0]) (ob1 := [.gr 6 53 [] 0 false]) ?_ ?_
    · show Fun _ _ _ _ _
      refine Fun.intro Tryz.func29 rfl (by kernel_rfl) rfl ?_
      repeat' (first | refine W.seq ?_ | refine W.rg ?_ | refine W.dra' ?_ | refine W.block ?_ | refine W.skip ?_ | refine W.exit ?_ | refine W.cond_true' ?_ | refine W.cond_false' ?_ | refine WG.nil ?_ | refine WG.run' (E := env) ?_ | refine WG.gt' ?_ | refine WG.gf' ?_ | refine WG.ixm' (E := env) ?_ | refine WG.ixo' (E := env) ?_ | refine WG.legm' (E := env) ?_ | refine WG.slS' (E := env) ?_ | refine WG.slD' (E := env) ?_ | refine WG.ap' (E := env) ?_ | refine WD.nil ?_ | refine WD.bs' (E := env) ?_ | refine WD.s' (E := env) (t := .d _) ?_ | refine WD.p' ?_ | refine WD.px' ?_ | refine WD.s' (E := env) (t := .ea _ _) ?_ | refine WD.s' (E := env) (t := .lp _ _) ?_ | refine WD.s' (E := env) (t := .og _ _) ?_ | refine WD.s' (E := env) (t := .agg _) ?_ | refine WD.s' (E := env) (t := .tup _) ?_ | refine WD.s' (E := env) (t := .clo _ _) ?_ | refine WD.ixm' (E := env) ?_ | refine WD.ixo' (E := env) ?_ | refine WD.legm' (E := env) ?_ | refine WD.slS' (E := env) ?_ | refine WD.slD' (E := env) ?_ | refine WG.c (E := env) rfl rfl (hcf) rfl rfl ?_ | refine WD.c (E := env) rfl rfl (hcf) rfl rfl ?_ | refine WG.co (E := env) rfl rfl (hcf) rfl rfl rfl rfl ?_ | refine WG.cx (E := env) rfl (hcf) rfl ?_ | ((first | refine WG.sp' (fun h => ?_) fun h => ?_ | refine W.cond' (fun h => ?_) fun h => ?_ | refine WD.sp' (fun h => ?_) fun h => ?_) <;> (try simp only [decide_eq_true_eq, decide_eq_false_iff_not, Bool.not_eq_true', Bool.not_eq_false', Bool.and_eq_true, Bool.or_eq_true, Bool.and_eq_false_iff, Bool.or_eq_false_iff, Bool.not_eq_true, Bool.not_eq_false, Int.not_lt, Int.not_le, List.length_map, beq_self_eq_true, Bool.true_eq_false, Bool.false_eq_true] at h) <;> (try (exfalso; first | contradiction | omega))))
      all_goals first | (exfalso; omega) | skip
      refine W.ret ?_
      exact RetR.agn3' rfl rfl
    · exact fun w0 σ0 w g v I hv => Fin.nest0 (by omega) w0 σ0 w g v I hv

end Go.Proofs.YtojifjbbjnpgbaaGreat
