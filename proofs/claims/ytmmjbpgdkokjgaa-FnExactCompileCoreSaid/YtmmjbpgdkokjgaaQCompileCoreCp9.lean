/-
  CompileCore, by the program. Conditions: texts of at most 2^20 bytes, values of at most 2^20 cells.
-/
import Derived.Test.YtmmjbpgdkokjgaaQCompileCoreCp8
set_option linter.unusedVariables false
set_option linter.unusedSimpArgs false
set_option maxRecDepth 100000
namespace Go.Proofs.Ytmmjbpgdkokjgaa
open Go.RowKit

set_option maxHeartbeats 8000000 in
theorem CompileCore_fn (cs : List Co) (hf : fitsK cs) : Fun env.P 7 [coresD cs] (.agg [vI .i64 (insC cs), vI .i64 0, .og 0 0, vI .i64 (insRg cs)]) [.x (neI ((insL cs).map insN) (some ((insL cs).map Ins.row))) 0] := by
  have hcf := CoreFault_fn cs hf.2 hf.1
  by_cases h0 : coreM cs = 0
  · obtain ⟨g1, g2, hok, hbd, hcnt⟩ := coK_all hf.1 h0
    have hnode := fun bb : Nat => cNode_fn bb hok cs.length (cs.length - 1) [] (by omega) (by omega) hbd (List.replicate 60 0) cst0 0 (fun _ => none) (by simp) (fun x hx => by cases hx) (by rw [hcnt]; show 0 + _ ≤ _; omega) (by decide) (by rw [hcnt]; show (0 : Int) + _ ≤ _; omega) (by rw [hcnt]; omega)
    have hsz := sizeC_fn cs
    have hnear := cmpM_near hok cs.length (cs.length - 1) (List.replicate 60 0) cst0 (by omega) (by omega)
    rw [hcnt] at hnear
    obtain ⟨_, n2, n3, n4⟩ := hnear
    have n2 : (cmpM cs cs.length (cs.length - 1) (List.replicate 60 0) cst0).L.length ≤ 0 + 20 * cs.length := n2
    have n3 : 0 ≤ (cmpM cs cs.length (cs.length - 1) (List.replicate 60 0) cst0).many := n3
    have n4 : (cmpM cs cs.length (cs.length - 1) (List.replicate 60 0) cst0).many ≤ 0 + (2 * cs.length : Nat) := n4
    have hC : insC cs = if 6000 < (insS cs).L.length ∨ 1000 < (insS cs).many then 2 else 0 := by unfold insC; rw [if_pos h0]
    have hbad := fun c h => ins_bad (cs := cs) (c := c) h
    have hgood := ins_ok (cs := cs)
    have hput := fun bb : Nat => cPut_fn bb cs (cmpM cs cs.length (cs.length - 1) (List.replicate 60 0) cst0) 19 0 (by omega)
    have hs2 : insS cs = (cmpM cs cs.length (cs.length - 1) (List.replicate 60 0) cst0).put 19 0 := rfl
    have hl2 := Cst.put_len (cmpM cs cs.length (cs.length - 1) (List.replicate 60 0) cst0) 19 0
    have hm2 := Cst.put_many (cmpM cs cs.length (cs.length - 1) (List.replicate 60 0) cst0) 19 0
    rw [← hs2] at hput hl2 hm2
    clear hs2
    rw [h0] at hcf
    rw [show (((cs.length - 1 : Nat)) : Int) = ((cs.map Co.row).length : Int) - 1 by rw [List.length_map]; omega] at hnode
    have hnode : ∀ bb : Nat, FunQ env.P 19 [.lp 0 0, .d (dI (((cs.map Co.row).length : Int) - 1))] (mi3 cs cst0 bb 0 0 (fun _ => none)) (outN cs bb cst0 (cmpM cs cs.length (cs.length - 1) (List.replicate 60 0) cst0) 0 (2 * cs.length) (fun _ => none) True) := fun bb => by
      have e : cmpM cs cs.length (Int.toNat (((cs.map Co.row).length : Int) - 1)) (List.replicate 60 0) cst0 = cmpM cs cs.length (cs.length - 1) (List.replicate 60 0) cst0 := by
        congr 1
        rw [List.length_map]; omega
      have h1 : FunQ env.P 19 [.lp 0 0, .d (dI (((cs.map Co.row).length : Int) - 1))] (mi3 cs cst0 bb 0 0 (fun _ => none)) (outN cs bb cst0 (cmpM cs cs.length (Int.toNat (((cs.map Co.row).length : Int) - 1)) (List.replicate 60 0) cst0) 0 (2 * cntK cs (cs.length - 1)) (fun _ => none) _) := hnode bb
      rw [e, hcnt] at h1
      exact h1.mono fun t ob ⟨⟨q1, _⟩, q2⟩ => ⟨⟨q1, trivial⟩, q2⟩
    generalize cmpM cs cs.length (cs.length - 1) (List.replicate 60 0) cst0 = s1 at *
    generalize insS cs = s2 at *
    have hlen := rwI_len s2
    have hrw : rwI s2 = s2.L.map insN := rfl
    generalize insC cs = C at *
    generalize insL cs = L at *
    generalize insRg cs = Rg at *
    have hlc : 1 ≤ (cs.map Co.row).length ∧ (cs.map Co.row).length ≤ 900 := by rw [List.length_map]; omega
    refine Fun.intro Try.func7 rfl (by kernel_rfl) rfl ?_
    repeat' (first | refine W.stopAt 5 ?_ | refine WG.mkI' 2 (fun bb => ?_) | refine W.seq ?_ | refine W.rg ?_ | refine W.dra' ?_ | refine W.block ?_ | refine W.skip ?_ | refine W.exit ?_ | refine W.cond_true' ?_ | refine W.cond_false' ?_ | refine WG.nil ?_ | refine WG.run' (E := env) ?_ | refine WG.gt' ?_ | refine WG.gf' ?_ | refine WG.ixm' (E := env) ?_ | refine WG.ixo' (E := env) ?_ | refine WG.legm' (E := env) ?_ | refine WG.slS' (E := env) ?_ | refine WG.slD' (E := env) ?_ | refine WG.ap' (E := env) ?_ | refine WD.nil ?_ | refine WD.bs' (E := env) ?_ | refine WD.s' (E := env) (t := .d _) ?_ | refine WD.p' ?_ | refine WD.px' ?_ | refine WD.s' (E := env) (t := .ea _ _) ?_ | refine WD.s' (E := env) (t := .lp _ _) ?_ | refine WD.s' (E := env) (t := .og _ _) ?_ | refine WD.s' (E := env) (t := .agg _) ?_ | refine WD.s' (E := env) (t := .tup _) ?_ | refine WD.s' (E := env) (t := .clo _ _) ?_ | refine WD.ixm' (E := env) ?_ | refine WD.ixo' (E := env) ?_ | refine WD.legm' (E := env) ?_ | refine WD.slS' (E := env) ?_ | refine WD.slD' (E := env) ?_ | refine WG.c (E := env) rfl rfl (hcf) rfl rfl ?_ | refine WD.c (E := env) rfl rfl (hcf) rfl rfl ?_ | refine WG.co (E := env) rfl rfl (hcf) rfl rfl rfl rfl ?_ | refine WG.cx (E := env) rfl (hcf) rfl ?_ | ((first | refine WG.sp' (fun h => ?_) fun h => ?_ | refine W.cond' (fun h => ?_) fun h => ?_ | refine WD.sp' (fun h => ?_) fun h => ?_) <;> (try simp only [atS, List.length_map, beq_self_eq_true] at h) <;> (try (exfalso; first | contradiction | omega))))
    all_goals first | (exfalso; omega) | skip
    refine ⟨?_⟩
    refine W.adoptPv 2 1 73 rfl rfl ?_
    refine W.imp (St.imp.nest 3 2 81 5 rfl (by decide)) ?_
    repeat' (first | refine WG.lenN' (E := env) ?_ | refine W.stopAt 9 ?_ | refine W.seq ?_ | refine W.rg ?_ | refine W.dra' ?_ | refine W.block ?_ | refine W.skip ?_ | refine W.exit ?_ | refine W.cond_true' ?_ | refine W.cond_false' ?_ | refine WG.nil ?_ | refine WG.run' (E := env) ?_ | refine WG.gt' ?_ | refine WG.gf' ?_ | refine WG.ixm' (E := env) ?_ | refine WG.ixo' (E := env) ?_ | refine WG.legm' (E := env) ?_ | refine WG.slS' (E := env) ?_ | refine WG.slD' (E := env) ?_ | refine WG.ap' (E := env) ?_ | refine WD.nil ?_ | refine WD.bs' (E := env) ?_ | refine WD.s' (E := env) (t := .d _) ?_ | refine WD.p' ?_ | refine WD.px' ?_ | refine WD.s' (E := env) (t := .ea _ _) ?_ | refine WD.s' (E := env) (t := .lp _ _) ?_ | refine WD.s' (E := env) (t := .og _ _) ?_ | refine WD.s' (E := env) (t := .agg _) ?_ | refine WD.s' (E := env) (t := .tup _) ?_ | refine WD.s' (E := env) (t := .clo _ _) ?_ | refine WD.ixm' (E := env) ?_ | refine WD.ixo' (E := env) ?_ | refine WD.legm' (E := env) ?_ | refine WD.slS' (E := env) ?_ | refine WD.slD' (E := env) ?_ | (refine WG.cQ (E := env) [2, 3, 1] [0, 0, 0] false rfl rfl (hnode _) rfl rfl rfl rfl rfl rfl rfl ⟨rfl, rfl, rfl, trivial⟩ (.inl rfl) (fun t ob ⟨_, v, _, _, _, _, _, e⟩ => ⟨by subst e; rfl, fun h => nomatch h⟩) ?_; rintro _ _ ⟨⟨rfl, _⟩, v, nn, mm, hv, hnn, hmm, rfl⟩; refine (show WG _ _ _ _ _ _ ⟨upd _ _ (.tup []), [_, .x (imX env.P 2 bb nn mm) 0, .pv [.d (coresD cs), .og 3 (0 + v), .d (dI s1.many), imT bb], .x (neI (rwI s1) none) (0 + v)]⟩ from ?_)) | (refine WG.cq (E := env) (t' := .d (dI s1.L.length)) (ob2 := [_, _, .pv [.d (coresD cs), .og 3 (0 + v + 1), .d (dI s2.many), imT bb], .x (neI (rwI s2) none) (0 + v + 1)]) [2, 3] [0, 0 + v] false rfl rfl (hput bb) rfl rfl rfl rfl rfl rfl rfl ⟨rfl, rfl, trivial⟩ (.inl rfl) rfl (fun h => nomatch h) rfl rfl ?_) | refine WG.c (E := env) rfl rfl (hsz) rfl rfl ?_ | refine WD.c (E := env) rfl rfl (hsz) rfl rfl ?_ | refine WG.co (E := env) rfl rfl (hsz) rfl rfl rfl rfl ?_ | refine WG.cx (E := env) rfl (hsz) rfl ?_ | ((first | refine WG.sp' (fun h => ?_) fun h => ?_ | refine W.cond' (fun h => ?_) fun h => ?_ | refine WD.sp' (fun h => ?_) fun h => ?_) <;> (try simp only [atS, List.length_map, beq_self_eq_true] at h) <;> (try (exfalso; first | contradiction | omega))))
    all_goals first | (exfalso; omega) | skip
    · obtain ⟨e1, e2⟩ := hbad 2 (by rw [hC, if_pos (.inl (by omega))]) (by decide)
      have e3 : C = 2 := by rw [hC, if_pos (.inl (by omega))]
      subst e1 e2 e3
      refine W.adoptPv 0 2 73 rfl rfl ?_
      refine W.imp (St.imp.nest 4 2 81 5 rfl (by decide)) ?_
      refine W.imp (St.imp.note 4 rfl [] rfl) ?_
      refine W.ret ?_
      exact RetR.agx4 (.inl rfl) rfl (by first | trivial | exact resOK_of (E := env) rfl) rfl rfl rfl rfl rfl
    · obtain ⟨e1, e2⟩ := hbad 2 (by rw [hC, if_pos (.inr (by omega))]) (by decide)
      have e3 : C = 2 := by rw [hC, if_pos (.inr (by omega))]
      subst e1 e2 e3
      refine W.adoptPv 0 2 73 rfl rfl ?_
      refine W.imp (St.imp.nest 4 2 81 5 rfl (by decide)) ?_
      refine W.imp (St.imp.note 4 rfl [] rfl) ?_
      refine W.ret ?_
      exact RetR.agx4 (.inl rfl) rfl (by first | trivial | exact resOK_of (E := env) rfl) rfl rfl rfl rfl rfl
    · have e3 : C = 0 := by rw [hC, if_neg (by omega)]
      obtain ⟨e1, e2⟩ := hgood e3
      subst e1 e2 e3
      refine ⟨?_⟩
      refine W.dre' (id := 9) [9] (fun f => bif bt f 1 then [.pv [.d (dI 0), .d (dI 0), .og 3 (0 + v + 1), .d (dI s2.many)], .x (imX env.P 2 bb nn mm) 0, .pv [.d (coresD cs), .og 3 (0 + v + 1), .d (dI s2.many), imT bb], .x (neI (rwI s2) none) (0 + v + 1)] else [.pv [.d (dI 0), .d (dI 0), .d (.nl 3), .d (dI 0)], .x (imX env.P 2 bb nn mm) 0, .pv [.d (coresD cs), .og 3 (0 + v + 1), .d (dI s2.many), imT bb], .x (neI (rwI s2) none) (0 + v + 1)]) [(0, [0]), (0, [0]), (0, [0]), (0, [0]), (0, [0]), (0, [0]), (0, [0]), (0, [0]), (0, [0]), (1, [0])] [.pv [.d (dI 0), .d (dI 0), .og 3 (0 + v + 1), .d (dI s2.many)], .x (imX env.P 2 bb nn mm) 0, .pv [.d (coresD cs), .og 3 (0 + v + 1), .d (dI s2.many), imT bb], .x (neI (rwI s2) none) (0 + v + 1)] ?_
      repeat' (first | refine WE.mkd (.agg [.d (dI 0), .d (dI 0), .og 3 (0 + v + 1), .d (dI s2.many)]) ?_ (.c (OpS1.bd (E := env) rfl rfl rfl (fill_og rfl rfl rfl rfl) rfl) .n) | refine WE.mkx .any ?_ (.c (OpS1.st (E := env) rfl rfl rfl rfl rfl rfl rfl rfl (curs4 rfl) rfl) .n) | refine WE.nil ?_ | refine WE.ixP' ?_ | refine WE.s' (E := env) (t := .d _) ?_ | refine WE.p' ?_ | refine WE.px' ?_ | refine WE.s' (E := env) (t := .lp _ _) ?_ | refine WE.s' (E := env) (t := .og _ _) ?_ | refine WE.s' (E := env) (t := .ea _ _) ?_ | refine WE.s' (E := env) (t := .agg _) ?_ | refine WE.s' (E := env) (t := .tup _) ?_ | refine WE.ixm' (E := env) ?_ | refine WE.ixo' (E := env) ?_ | refine WE.leg' (E := env) ?_ | refine WE.slS' (E := env) ?_ | refine WE.slD' (E := env) ?_ | refine WE.ap' (E := env) ?_ | refine WE.st' (E := env) ?_ | refine WE.seg' (E := env) ?_ | refine WE.bs' (E := env) ?_ | refine W.seq ?_ | refine W.rg ?_ | refine W.dra' ?_ | refine W.block ?_ | refine W.skip ?_ | refine W.exit ?_ | refine W.cond_true' ?_ | refine W.cond_false' ?_ | refine WG.nil ?_ | refine WG.run' (E := env) ?_ | refine WG.gt' ?_ | refine WG.gf' ?_ | refine WG.ixm' (E := env) ?_ | refine WG.ixo' (E := env) ?_ | refine WG.legm' (E := env) ?_ | refine WG.slS' (E := env) ?_ | refine WG.slD' (E := env) ?_ | refine WG.ap' (E := env) ?_ | refine WD.nil ?_ | refine WD.bs' (E := env) ?_ | refine WD.s' (E := env) (t := .d _) ?_ | refine WD.p' ?_ | refine WD.px' ?_ | refine WD.s' (E := env) (t := .ea _ _) ?_ | refine WD.s' (E := env) (t := .lp _ _) ?_ | refine WD.s' (E := env) (t := .og _ _) ?_ | refine WD.s' (E := env) (t := .agg _) ?_ | refine WD.s' (E := env) (t := .tup _) ?_ | refine WD.s' (E := env) (t := .clo _ _) ?_ | refine WD.ixm' (E := env) ?_ | refine WD.ixo' (E := env) ?_ | refine WD.legm' (E := env) ?_ | refine WD.slS' (E := env) ?_ | refine WD.slD' (E := env) ?_ | fail | ((first | refine WG.sp' (fun h => ?_) fun h => ?_ | refine W.cond' (fun h => ?_) fun h => ?_ | refine WD.sp' (fun h => ?_) fun h => ?_) <;> (try simp only [atS, List.length_map, beq_self_eq_true] at h) <;> (try (exfalso; first | contradiction | omega))))
      refine W.imp (St.imp.note 3 rfl (s2.L.map Ins.row) (insN_dat _)) ?_
      refine W.ret ?_
      exact RetR.agx4 (.inl rfl) rfl (by first | trivial | exact resOK_of (E := env) rfl) rfl rfl rfl rfl rfl
  · have hC : insC cs = coreM cs := by unfold insC; rw [if_neg h0]
    obtain ⟨e1, e2⟩ := ins_bad hC h0
    rw [hC, e1, e2]
    refine Fun.intro Try.func7 rfl (by kernel_rfl) rfl ?_
    repeat' (first | refine W.seq ?_ | refine W.rg ?_ | refine W.dra' ?_ | refine W.block ?_ | refine W.skip ?_ | refine W.exit ?_ | refine W.cond_true' ?_ | refine W.cond_false' ?_ | refine WG.nil ?_ | refine WG.run' (E := env) ?_ | refine WG.gt' ?_ | refine WG.gf' ?_ | refine WG.ixm' (E := env) ?_ | refine WG.ixo' (E := env) ?_ | refine WG.legm' (E := env) ?_ | refine WG.slS' (E := env) ?_ | refine WG.slD' (E := env) ?_ | refine WG.ap' (E := env) ?_ | refine WD.nil ?_ | refine WD.bs' (E := env) ?_ | refine WD.s' (E := env) (t := .d _) ?_ | refine WD.p' ?_ | refine WD.px' ?_ | refine WD.s' (E := env) (t := .ea _ _) ?_ | refine WD.s' (E := env) (t := .lp _ _) ?_ | refine WD.s' (E := env) (t := .og _ _) ?_ | refine WD.s' (E := env) (t := .agg _) ?_ | refine WD.s' (E := env) (t := .tup _) ?_ | refine WD.s' (E := env) (t := .clo _ _) ?_ | refine WD.ixm' (E := env) ?_ | refine WD.ixo' (E := env) ?_ | refine WD.legm' (E := env) ?_ | refine WD.slS' (E := env) ?_ | refine WD.slD' (E := env) ?_ | refine WG.c (E := env) rfl rfl (hcf) rfl rfl ?_ | refine WD.c (E := env) rfl rfl (hcf) rfl rfl ?_ | refine WG.co (E := env) rfl rfl (hcf) rfl rfl rfl rfl ?_ | refine WG.cx (E := env) rfl (hcf) rfl ?_ | ((first | refine WG.sp' (fun h => ?_) fun h => ?_ | refine W.cond' (fun h => ?_) fun h => ?_ | refine WD.sp' (fun h => ?_) fun h => ?_) <;> (try simp only [atS, List.length_map, beq_self_eq_true] at h) <;> (try (exfalso; first | contradiction | omega))))
    all_goals first | (exfalso; omega) | skip
    refine W.adoptPv 0 2 73 rfl rfl ?_
    refine W.imp (St.imp.nest 1 2 81 5 rfl (by decide)) ?_
    refine W.imp (St.imp.note 1 rfl [] rfl) ?_
    refine W.ret ?_
    exact RetR.agx4 (.inl rfl) rfl (by first | trivial | exact resOK_of (E := env) rfl) rfl rfl rfl rfl rfl

end Go.Proofs.Ytmmjbpgdkokjgaa
