/-
  CompileCore, by both. Conditions: texts of at most 2^20 bytes, values of at most 2^20 cells.
-/
import Derived.Test.YtmmjbpgdkokjgaaQCompileCoreCp6
import Derived.Test.YtmmjbpgdkokjgaaQCompileCoreCp7
set_option linter.unusedVariables false
set_option linter.unusedSimpArgs false
set_option maxRecDepth 100000
namespace Go.Proofs.Ytmmjbpgdkokjgaa
open Go.RowKit

structure Stop (p : Prop) : Prop where
  out : p
/-- A walk stops ahead of a region. -/
theorem W.stopAt {P : Program} {N : Nm} {l : List Oper} {b : Bool} {Q : Exit → St → Prop} {S : St} (id : Nat) (h : Stop (W P N (.region id l.toArray b) Q S)) : W P N (.region id l.toArray b) Q S := h.out

section
variable {P : Program} {fn : Func} {e : Exit} {S : St} {ts : List T} {k n : Nat} {x x' y y' z z' : D} {X : ObX}
theorem RetR.agx4 (he : e = .ret ∨ e = .normal) (hts : resL S fn.results.toList = some ts) (hok : resOK P S fn.results.toList) (hn : norm S.ob (resT ts) = .agg [.d x, .d y, .og k n, .d z]) (hk : S.ob[k]? = some (.x X n)) (hx : x = x') (hy : y = y') (hz : z = z') :
    RetR P fn 0 (just (.agg [.d x', .d y', .og 0 0, .d z']) [.x X 0]) e S := by
  subst hx; subst hy; subst hz
  exact RetR.own (ob' := [.x X 0]) ⟨[k], [n], S.ob.length⟩ he hts hok (by simp [hn, T.ren, T.renL, Rn.ix, Rn.of]) rfl rfl rfl rfl rfl ⟨by simpa [Rn.ix, Rn.of, Ob.ren] using hk, trivial⟩ rfl ⟨rfl, rfl⟩
end

theorem Fin.pubX4 {X : ObX} {x y z d : D} (hX : X.dat = some d) : Fin [.x X 0] (.agg [.d x, .d y, .og 0 0, .d z]) [] (.d (.agg [x, y, d, z])) := fun w0 σ0 w g v I hv => by
  obtain ⟨g', hle, hγ, hlim, I', hd⟩ := I.pubX (k := 0) rfl hX
  obtain ⟨vs, rfl, hl, hat⟩ := hv.inv_agg
  match vs, hl with
  | [v1, v2, v3, v4], _ =>
    have h1 := (hat 0 _ v1 rfl rfl).inv_d
    have h2 := (hat 1 _ v2 rfl rfl).inv_d
    obtain ⟨_, hv'⟩ := (hat 2 _ v3 rfl rfl).inv_og
    have h4 := (hat 3 _ v4 rfl rfl).inv_d
    subst hv'
    refine ⟨_, I'.trim (ob' := []) trivial, .d _ _ (.agg _ [v1, v2, g.γ 0 0, v4] rfl fun i q u hq hu => ?_)⟩
    match i with
    | 0 =>
      simp only [List.getElem?_cons_zero, Option.some.injEq] at hq hu
      subst hq; subst hu
      exact h1.mono hle.σ
    | 1 =>
      simp only [List.getElem?_cons_succ, List.getElem?_cons_zero, Option.some.injEq] at hq hu
      subst hq; subst hu
      exact h2.mono hle.σ
    | 2 =>
      simp only [List.getElem?_cons_succ, List.getElem?_cons_zero, Option.some.injEq] at hq hu
      subst hq; subst hu
      exact hd
    | 3 =>
      simp only [List.getElem?_cons_succ, List.getElem?_cons_zero, Option.some.injEq] at hq hu
      subst hq; subst hu
      exact h4.mono hle.σ
    | i + 4 => simp at hq

theorem fill_og {ob : List Ob} {k n o i : Nat} {X : ObX} {offs : List (Nat × Nat × Bool)} {b : Bool} {cs : List T} {r : List (Nat × T)} {res : List T} (h : ob[k]? = some (.x X n)) (hi : offs[i]? = some (o, 1, b)) (ho : Nat.ble (o + 1) cs.length = true)
    (hr : fillT ob offs (setAll cs o [.og k n]) r = some res) : fillT ob offs cs ((i, .og k n) :: r) = some res := by
  unfold fillT
  rw [hi, cells_og h]
  show (bif Nat.beq 1 1 && Nat.ble (o + 1) cs.length && onesT [.og k n] && cursT ob [.og k n] then fillT ob offs (setAll cs o [.og k n]) r else none) = some res
  rw [ho, curs_og h]
  exact hr
theorem curs4 {ob : List Ob} {k n : Nat} {X : ObX} {a b c : D} (h : ob[k]? = some (.x X n)) : cursT ob [.d a, .d b, .og k n, .d c] = true := by simp [cursT, curT, h]

abbrev cst0 : Cst := ⟨[], 0⟩
noncomputable def insS (cs : List Co) : Cst := (cmpM cs cs.length (cs.length - 1) (List.replicate 60 0) cst0).put 19 0
noncomputable def insC (cs : List Co) : Int := if coreM cs = 0 then (if 6000 < (insS cs).L.length ∨ 1000 < (insS cs).many then 2 else 0) else coreM cs
noncomputable def insL (cs : List Co) : List Ins := if insC cs = 0 then (insS cs).L else []
noncomputable def insRg (cs : List Co) : Int := if insC cs = 0 then (insS cs).many else 0

/-- Where no instructions are told. -/
theorem ins_bad {cs : List Co} {c : Int} (h : insC cs = c) (hc : c ≠ 0) : insL cs = [] ∧ insRg cs = 0 := by
  unfold insL insRg
  rw [h, if_neg hc, if_neg hc]
  exact ⟨rfl, rfl⟩
theorem ins_ok {cs : List Co} (h : insC cs = 0) : insL cs = (insS cs).L ∧ insRg cs = (insS cs).many := by
  unfold insL insRg
  rw [if_pos h, if_pos h]
  exact ⟨rfl, rfl⟩

set_option maxHeartbeats 8000000 in
theorem CompileCoreS_fn (cs : List Co) (hf : fitsK cs) : Fun env.P 5 [coresD cs] (.agg [vI .i64 (insC cs), vI .i64 0, .og 0 0, vI .i64 (insRg cs)]) [.x (neI ((insL cs).map insN) (some ((insL cs).map Ins.row))) 0] := by
  have hcf := CoreFaultS_fn cs hf.2 hf.1
  by_cases h0 : coreM cs = 0
  · obtain ⟨g1, g2, hok, hbd, hcnt⟩ := coK_all hf.1 h0
    have hnode := l8Node_fn hok cs.length (cs.length - 1) (by omega) (by omega) (List.replicate 60 0) cst0 (by simp) (by rw [hcnt]; show 0 + _ ≤ _; omega) (by decide) (by rw [hcnt]; show (0 : Int) + _ ≤ _; omega)
    have hnear := cmpM_near hok cs.length (cs.length - 1) (List.replicate 60 0) cst0 (by omega) (by omega)
    rw [hcnt] at hnear
    obtain ⟨_, n2, n3, n4⟩ := hnear
    have n2 : (cmpM cs cs.length (cs.length - 1) (List.replicate 60 0) cst0).L.length ≤ 0 + 20 * cs.length := n2
    have n3 : 0 ≤ (cmpM cs cs.length (cs.length - 1) (List.replicate 60 0) cst0).many := n3
    have n4 : (cmpM cs cs.length (cs.length - 1) (List.replicate 60 0) cst0).many ≤ 0 + (2 * cs.length : Nat) := n4
    have hC : insC cs = if 6000 < (insS cs).L.length ∨ 1000 < (insS cs).many then 2 else 0 := by unfold insC; rw [if_pos h0]
    have hbad := fun c h => ins_bad (cs := cs) (c := c) h
    have hgood := ins_ok (cs := cs)
    have hput := l8Put_fn cs (cmpM cs cs.length (cs.length - 1) (List.replicate 60 0) cst0) 19 0 (by omega)
    have hs2 : insS cs = (cmpM cs cs.length (cs.length - 1) (List.replicate 60 0) cst0).put 19 0 := rfl
    have hl2 := Cst.put_len (cmpM cs cs.length (cs.length - 1) (List.replicate 60 0) cst0) 19 0
    have hm2 := Cst.put_many (cmpM cs cs.length (cs.length - 1) (List.replicate 60 0) cst0) 19 0
    rw [← hs2] at hput hl2 hm2
    clear hs2
    rw [h0] at hcf
    rw [show (((cs.length - 1 : Nat)) : Int) = ((cs.map Co.row).length : Int) - 1 by rw [List.length_map]; omega] at hnode
    have hnode : FunQ env.P 15 [.lp 0 0, .d (dI (((cs.map Co.row).length : Int) - 1)), .d (.sl 1 (List.replicate (Int.toNat 60) [dI 0]))] (mkO cs cst0 0) (outS cs cst0 (cmpM cs cs.length (cs.length - 1) (List.replicate 60 0) cst0) (.tup []) True) := by
      have e : cmpM cs cs.length (Int.toNat (((cs.map Co.row).length : Int) - 1)) (List.replicate 60 0) cst0 = cmpM cs cs.length (cs.length - 1) (List.replicate 60 0) cst0 := by
        congr 1
        rw [List.length_map]; omega
      have h1 : FunQ env.P 15 [.lp 0 0, .d (dI (((cs.map Co.row).length : Int) - 1)), .d (.sl 1 (List.replicate (Int.toNat 60) [dI 0]))] (mkO cs cst0 0) (outS cs cst0 (cmpM cs cs.length (Int.toNat (((cs.map Co.row).length : Int) - 1)) (List.replicate 60 0) cst0) (.tup []) _) := hnode
      rw [e] at h1
      exact h1.mono fun t ob ⟨⟨q1, _⟩, q2⟩ => ⟨⟨q1, trivial⟩, q2⟩
    generalize cmpM cs cs.length (cs.length - 1) (List.replicate 60 0) cst0 = s1 at *
    generalize insS cs = s2 at *
    have hlen := rwI_len s2
    have hrw : rwI s2 = s2.L.map insN := rfl
    generalize insC cs = C at *
    generalize insL cs = L at *
    generalize insRg cs = Rg at *
    have hlc : 1 ≤ (cs.map Co.row).length ∧ (cs.map Co.row).length ≤ 900 := by rw [List.length_map]; omega
    refine Fun.intro Try.func5 rfl (by kernel_rfl) rfl ?_
    repeat' (first | refine W.stopAt 5 ?_ | refine W.seq ?_ | refine W.rg ?_ | refine W.dra' ?_ | refine W.block ?_ | refine W.skip ?_ | refine W.exit ?_ | refine W.cond_true' ?_ | refine W.cond_false' ?_ | refine WG.nil ?_ | refine WG.run' (E := env) ?_ | refine WG.gt' ?_ | refine WG.gf' ?_ | refine WG.ixm' (E := env) ?_ | refine WG.ixo' (E := env) ?_ | refine WG.legm' (E := env) ?_ | refine WG.slS' (E := env) ?_ | refine WG.slD' (E := env) ?_ | refine WG.ap' (E := env) ?_ | refine WD.nil ?_ | refine WD.bs' (E := env) ?_ | refine WD.s' (E := env) (t := .d _) ?_ | refine WD.p' ?_ | refine WD.px' ?_ | refine WD.s' (E := env) (t := .ea _ _) ?_ | refine WD.s' (E := env) (t := .lp _ _) ?_ | refine WD.s' (E := env) (t := .og _ _) ?_ | refine WD.s' (E := env) (t := .agg _) ?_ | refine WD.s' (E := env) (t := .tup _) ?_ | refine WD.s' (E := env) (t := .clo _ _) ?_ | refine WD.ixm' (E := env) ?_ | refine WD.ixo' (E := env) ?_ | refine WD.legm' (E := env) ?_ | refine WD.slS' (E := env) ?_ | refine WD.slD' (E := env) ?_ | refine WG.c (E := env) rfl rfl (hcf) rfl rfl ?_ | refine WD.c (E := env) rfl rfl (hcf) rfl rfl ?_ | refine WG.co (E := env) rfl rfl (hcf) rfl rfl rfl rfl ?_ | refine WG.cx (E := env) rfl (hcf) rfl ?_ | ((first | refine WG.sp' (fun h => ?_) fun h => ?_ | refine W.cond' (fun h => ?_) fun h => ?_ | refine WD.sp' (fun h => ?_) fun h => ?_) <;> (try simp only [atS, List.length_map, beq_self_eq_true] at h) <;> (try (exfalso; first | contradiction | omega))))
    all_goals first | (exfalso; omega) | skip
    refine ⟨?_⟩
    refine W.adoptPv 1 1 73 rfl rfl ?_
    refine W.imp (St.imp.nest 2 2 81 5 rfl (by decide)) ?_
    repeat' (first | (refine WG.mk (E := env) (z := 1) (zs := [dI 0]) rfl rfl rfl rfl rfl rfl rfl rfl rfl rfl rfl ⟨by decide, by decide, by decide⟩ ?_) | refine WG.lenN' (E := env) ?_ | refine W.stopAt 9 ?_ | refine W.seq ?_ | refine W.rg ?_ | refine W.dra' ?_ | refine W.block ?_ | refine W.skip ?_ | refine W.exit ?_ | refine W.cond_true' ?_ | refine W.cond_false' ?_ | refine WG.nil ?_ | refine WG.run' (E := env) ?_ | refine WG.gt' ?_ | refine WG.gf' ?_ | refine WG.ixm' (E := env) ?_ | refine WG.ixo' (E := env) ?_ | refine WG.legm' (E := env) ?_ | refine WG.slS' (E := env) ?_ | refine WG.slD' (E := env) ?_ | refine WG.ap' (E := env) ?_ | refine WD.nil ?_ | refine WD.bs' (E := env) ?_ | refine WD.s' (E := env) (t := .d _) ?_ | refine WD.p' ?_ | refine WD.px' ?_ | refine WD.s' (E := env) (t := .ea _ _) ?_ | refine WD.s' (E := env) (t := .lp _ _) ?_ | refine WD.s' (E := env) (t := .og _ _) ?_ | refine WD.s' (E := env) (t := .agg _) ?_ | refine WD.s' (E := env) (t := .tup _) ?_ | refine WD.s' (E := env) (t := .clo _ _) ?_ | refine WD.ixm' (E := env) ?_ | refine WD.ixo' (E := env) ?_ | refine WD.legm' (E := env) ?_ | refine WD.slS' (E := env) ?_ | refine WD.slD' (E := env) ?_ | refine WG.pubK 3 rfl ?_ | (refine WG.cQ (E := env) [1, 2] [0, 0] false rfl rfl hnode rfl rfl rfl rfl rfl rfl rfl ⟨rfl, rfl, trivial⟩ (.inl rfl) (fun t ob ⟨_, v, _, e⟩ => ⟨by subst e; rfl, fun h => nomatch h⟩) ?_; rintro _ _ ⟨⟨rfl, _⟩, v, hv, rfl⟩; refine (show WG _ _ _ _ _ _ ⟨upd _ _ (.tup []), [_, .pv [.d (coresD cs), .og 2 (0 + v), .d (dI s1.many)], .x (neI (rwI s1) none) (0 + v), _]⟩ from ?_)) | (refine WG.cq (E := env) (t' := .d (dI s1.L.length)) (ob2 := [_, .pv [.d (coresD cs), .og 2 (0 + v + 1), .d (dI s2.many)], .x (neI (rwI s2) none) (0 + v + 1), _]) [1, 2] [0, 0 + v] false rfl rfl hput rfl rfl rfl rfl rfl rfl rfl ⟨rfl, rfl, trivial⟩ (.inl rfl) rfl (fun h => nomatch h) rfl rfl ?_) | fail | ((first | refine WG.sp' (fun h => ?_) fun h => ?_ | refine W.cond' (fun h => ?_) fun h => ?_ | refine WD.sp' (fun h => ?_) fun h => ?_) <;> (try simp only [atS, List.length_map, beq_self_eq_true] at h) <;> (try (exfalso; first | contradiction | omega))))
    all_goals first | (exfalso; omega) | skip
    · obtain ⟨e1, e2⟩ := hbad 2 (by rw [hC, if_pos (.inl (by omega))]) (by decide)
      have e3 : C = 2 := by rw [hC, if_pos (.inl (by omega))]
      subst e1 e2 e3
      refine W.adoptPv 0 2 73 rfl rfl ?_
      refine W.imp (St.imp.nest 4 2 81 5 rfl (by decide)) ?_
      refine W.imp (St.imp.note 4 rfl [] rfl) ?_
      refine W.ret ?_
      exact RetR.agx4 (.inl rfl) rfl (by first | trivial | exact resOK_of (E := env) rfl) rfl rfl rfl rfl rfl
    · obtain ⟨e1, e2⟩ := hbad 2 (by rw [hC, if_pos (.inr (by omega))]) (by decide)
      have e3 : C = 2 := by rw [hC, if_pos (.inr (by omega))]
      subst e1 e2 e3
      refine W.adoptPv 0 2 73 rfl rfl ?_
      refine W.imp (St.imp.nest 4 2 81 5 rfl (by decide)) ?_
      refine W.imp (St.imp.note 4 rfl [] rfl) ?_
      refine W.ret ?_
      exact RetR.agx4 (.inl rfl) rfl (by first | trivial | exact resOK_of (E := env) rfl) rfl rfl rfl rfl rfl
    · have e3 : C = 0 := by rw [hC, if_neg (by omega)]
      obtain ⟨e1, e2⟩ := hgood e3
      subst e1 e2 e3
      refine ⟨?_⟩
      refine W.rg ?_
      refine WG.runN (E := env) 4 ?_
      refine WG.bd (E := env) rfl rfl rfl (fill_og rfl rfl rfl rfl) rfl ?_
      refine WG.st (E := env) rfl rfl rfl rfl rfl rfl rfl rfl (curs4 rfl) ?_
      repeat' (first | refine W.seq ?_ | refine W.rg ?_ | refine W.dra' ?_ | refine W.block ?_ | refine W.skip ?_ | refine W.exit ?_ | refine W.cond_true' ?_ | refine W.cond_false' ?_ | refine WG.nil ?_ | refine WG.run' (E := env) ?_ | refine WG.gt' ?_ | refine WG.gf' ?_ | refine WG.ixm' (E := env) ?_ | refine WG.ixo' (E := env) ?_ | refine WG.legm' (E := env) ?_ | refine WG.slS' (E := env) ?_ | refine WG.slD' (E := env) ?_ | refine WG.ap' (E := env) ?_ | refine WD.nil ?_ | refine WD.bs' (E := env) ?_ | refine WD.s' (E := env) (t := .d _) ?_ | refine WD.p' ?_ | refine WD.px' ?_ | refine WD.s' (E := env) (t := .ea _ _) ?_ | refine WD.s' (E := env) (t := .lp _ _) ?_ | refine WD.s' (E := env) (t := .og _ _) ?_ | refine WD.s' (E := env) (t := .agg _) ?_ | refine WD.s' (E := env) (t := .tup _) ?_ | refine WD.s' (E := env) (t := .clo _ _) ?_ | refine WD.ixm' (E := env) ?_ | refine WD.ixo' (E := env) ?_ | refine WD.legm' (E := env) ?_ | refine WD.slS' (E := env) ?_ | refine WD.slD' (E := env) ?_ | ((first | refine WG.sp' (fun h => ?_) fun h => ?_ | refine W.cond' (fun h => ?_) fun h => ?_ | refine WD.sp' (fun h => ?_) fun h => ?_) <;> (try simp only [atS, List.length_map, beq_self_eq_true] at h) <;> (try (exfalso; first | contradiction | omega))))
      refine W.imp (St.imp.note 2 rfl (s2.L.map Ins.row) (insN_dat _)) ?_
      refine W.ret ?_
      exact RetR.agx4 (.inl rfl) rfl (by first | trivial | exact resOK_of (E := env) rfl) rfl rfl rfl rfl rfl
  · have hC : insC cs = coreM cs := by unfold insC; rw [if_neg h0]
    obtain ⟨e1, e2⟩ := ins_bad hC h0
    rw [hC, e1, e2]
    refine Fun.intro Try.func5 rfl (by kernel_rfl) rfl ?_
    repeat' (first | refine W.seq ?_ | refine W.rg ?_ | refine W.dra' ?_ | refine W.block ?_ | refine W.skip ?_ | refine W.exit ?_ | refine W.cond_true' ?_ | refine W.cond_false' ?_ | refine WG.nil ?_ | refine WG.run' (E := env) ?_ | refine WG.gt' ?_ | refine WG.gf' ?_ | refine WG.ixm' (E := env) ?_ | refine WG.ixo' (E := env) ?_ | refine WG.legm' (E := env) ?_ | refine WG.slS' (E := env) ?_ | refine WG.slD' (E := env) ?_ | refine WG.ap' (E := env) ?_ | refine WD.nil ?_ | refine WD.bs' (E := env) ?_ | refine WD.s' (E := env) (t := .d _) ?_ | refine WD.p' ?_ | refine WD.px' ?_ | refine WD.s' (E := env) (t := .ea _ _) ?_ | refine WD.s' (E := env) (t := .lp _ _) ?_ | refine WD.s' (E := env) (t := .og _ _) ?_ | refine WD.s' (E := env) (t := .agg _) ?_ | refine WD.s' (E := env) (t := .tup _) ?_ | refine WD.s' (E := env) (t := .clo _ _) ?_ | refine WD.ixm' (E := env) ?_ | refine WD.ixo' (E := env) ?_ | refine WD.legm' (E := env) ?_ | refine WD.slS' (E := env) ?_ | refine WD.slD' (E := env) ?_ | refine WG.c (E := env) rfl rfl (hcf) rfl rfl ?_ | refine WD.c (E := env) rfl rfl (hcf) rfl rfl ?_ | refine WG.co (E := env) rfl rfl (hcf) rfl rfl rfl rfl ?_ | refine WG.cx (E := env) rfl (hcf) rfl ?_ | ((first | refine WG.sp' (fun h => ?_) fun h => ?_ | refine W.cond' (fun h => ?_) fun h => ?_ | refine WD.sp' (fun h => ?_) fun h => ?_) <;> (try simp only [atS, List.length_map, beq_self_eq_true] at h) <;> (try (exfalso; first | contradiction | omega))))
    all_goals first | (exfalso; omega) | skip
    refine W.adoptPv 0 2 73 rfl rfl ?_
    refine W.imp (St.imp.nest 1 2 81 5 rfl (by decide)) ?_
    refine W.imp (St.imp.note 1 rfl [] rfl) ?_
    refine W.ret ?_
    exact RetR.agx4 (.inl rfl) rfl (by first | trivial | exact resOK_of (E := env) rfl) rfl rfl rfl rfl rfl

end Go.Proofs.Ytmmjbpgdkokjgaa
