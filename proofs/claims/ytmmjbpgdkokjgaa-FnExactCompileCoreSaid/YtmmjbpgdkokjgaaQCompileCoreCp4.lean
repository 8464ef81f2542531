/-
  Making instructions of a core, by the reference. Conditions: at most 50000 instructions.
-/
import Derived.Test.YtmmjbpgdkokjgaaQCompileCoreCpR
import Derived.Test.YtmmjbpgdkokjgaaQCompileCorePgF
set_option linter.unusedVariables false
set_option linter.unusedSimpArgs false
set_option maxRecDepth 100000
namespace Go.Proofs.Ytmmjbpgdkokjgaa
open Go.RowKit

theorem l8With_fn (regs : List Int) (slot r : Int) (hs : 0 ≤ slot ∧ slot < regs.length) (hl : regs.length ≤ 1000) : Fun env.P 42 [slotsD regs, dI slot, dI r] (.d (slotsD (regs.set slot.toNat r))) [] := by
  have hat : (regs.map intRow)[slot.toNat]? = some [dI (regs.getD slot.toNat default)] := by
    have : slot.toNat < regs.length := by omega
    simp [this, intRow]
  have hset : (regs.map intRow).set slot.toNat [dI r] = (regs.set slot.toNat r).map intRow := by rw [List.map_set]
  have hle : ([] ++ List.map intRow regs).length = regs.length := by simp
  refine Fun.intro Try.func42 rfl (by kernel_rfl) rfl ?_
  repeat' (first | refine WG.stE (E := env) rfl rfl rfl rfl hat rfl rfl rfl rfl ?_ | refine W.seq ?_ | refine W.rg ?_ | refine W.dra' ?_ | refine W.block ?_ | refine W.skip ?_ | refine W.exit ?_ | refine W.cond_true' ?_ | refine W.cond_false' ?_ | refine WG.nil ?_ | refine WG.run' (E := env) ?_ | refine WG.gt' ?_ | refine WG.gf' ?_ | refine WG.ixm' (E := env) ?_ | refine WG.ixo' (E := env) ?_ | refine WG.legm' (E := env) ?_ | refine WG.slS' (E := env) ?_ | refine WG.slD' (E := env) ?_ | refine WG.ap' (E := env) ?_ | refine WD.nil ?_ | refine WD.bs' (E := env) ?_ | refine WD.s' (E := env) (t := .d _) ?_ | refine WD.p' ?_ | refine WD.px' ?_ | refine WD.s' (E := env) (t := .ea _ _) ?_ | refine WD.s' (E := env) (t := .lp _ _) ?_ | refine WD.s' (E := env) (t := .og _ _) ?_ | refine WD.s' (E := env) (t := .agg _) ?_ | refine WD.s' (E := env) (t := .tup _) ?_ | refine WD.s' (E := env) (t := .clo _ _) ?_ | refine WD.ixm' (E := env) ?_ | refine WD.ixo' (E := env) ?_ | refine WD.legm' (E := env) ?_ | refine WD.slS' (E := env) ?_ | refine WD.slD' (E := env) ?_ | fail | ((first | refine WG.sp' (fun h => ?_) fun h => ?_ | refine W.cond' (fun h => ?_) fun h => ?_ | refine WD.sp' (fun h => ?_) fun h => ?_) <;> (try simp only [atS, List.length_map, beq_self_eq_true] at h) <;> (try (exfalso; first | contradiction | omega))))
  (refine W.ret ?_; first | refine RetR.agp' ?_ ?_ | refine RetR.gp' ?_ | (first | refine RetQ.b' ?_ | refine RetQ.i' ?_ | refine RetQ.d' ?_ | refine RetQ.t2' ?_ ?_ | refine RetQ.t3' ?_ ?_ ?_))
  exact hset

theorem l3Bool_fn (b : Bool) : Fun env.P 68 [dB b] (.d (cellsD [⟨if b then 2 else 1, 0, noS, noS, 0⟩])) [] := by
  cases b <;>
  · refine Fun.intro Try.func68 rfl (by kernel_rfl) rfl ?_
    repeat' (first | refine W.seq ?_ | refine W.rg ?_ | refine W.dra' ?_ | refine W.block ?_ | refine W.skip ?_ | refine W.exit ?_ | refine W.cond_true' ?_ | refine W.cond_false' ?_ | refine WG.nil ?_ | refine WG.run' (E := env) ?_ | refine WG.gt' ?_ | refine WG.gf' ?_ | refine WG.ixm' (E := env) ?_ | refine WG.ixo' (E := env) ?_ | refine WG.legm' (E := env) ?_ | refine WG.slS' (E := env) ?_ | refine WG.slD' (E := env) ?_ | refine WG.ap' (E := env) ?_ | refine WD.nil ?_ | refine WD.bs' (E := env) ?_ | refine WD.s' (E := env) (t := .d _) ?_ | refine WD.p' ?_ | refine WD.px' ?_ | refine WD.s' (E := env) (t := .ea _ _) ?_ | refine WD.s' (E := env) (t := .lp _ _) ?_ | refine WD.s' (E := env) (t := .og _ _) ?_ | refine WD.s' (E := env) (t := .agg _) ?_ | refine WD.s' (E := env) (t := .tup _) ?_ | refine WD.s' (E := env) (t := .clo _ _) ?_ | refine WD.ixm' (E := env) ?_ | refine WD.ixo' (E := env) ?_ | refine WD.legm' (E := env) ?_ | refine WD.slS' (E := env) ?_ | refine WD.slD' (E := env) ?_ | ((first | refine WG.sp' (fun h => ?_) fun h => ?_ | refine W.cond' (fun h => ?_) fun h => ?_ | refine WD.sp' (fun h => ?_) fun h => ?_) <;> (try simp only [atS, List.length_map, beq_self_eq_true] at h) <;> (try (exfalso; first | contradiction | omega))))
    (refine W.ret ?_; first | refine RetR.agp' ?_ ?_ | refine RetR.gp' ?_ | (first | refine RetQ.b' ?_ | refine RetQ.i' ?_ | refine RetQ.d' ?_ | refine RetQ.t2' ?_ ?_ | refine RetQ.t3' ?_ ?_ ?_))
    rfl
theorem l3False_fn : Fun env.P 68 [dB false] (.d (cellsD falV0)) [] := l3Bool_fn false
theorem l3True_fn : Fun env.P 68 [dB true] (.d (cellsD truV0)) [] := l3Bool_fn true
theorem l3Nul_fn : Fun env.P 67 [] (.d (cellsD nulV0)) [] := l3Null_fn

/-- What the reference makes of the node j. -/
def GoS (cs : List Co) (go : Int → List Int → Cst → Cst) (j : Int) (c : Nat) : Prop := ∀ (regs : List Int) (s : Cst), regs.length = 60 → s.L.length + 20 * c ≤ 50000 → 0 ≤ s.many → s.many + 2 * c ≤ 50000 →
  FunQ env.P 15 [.lp 0 0, .d (dI j), .d (slotsD regs)] (mkO cs s 0) (outS cs s (go j regs s) (.tup []) (s.near (go j regs s) (20 * c) (2 * c)))

theorem RetR.outS {fn : Func} {e : Exit} {S : St} {cs : List Co} {s s' : Cst} {F : Prop} {w : Nat} {rest : List Ob} (he : e = .ret ∨ e = .normal) (hts : resL S fn.results.toList = some []) (hok : resOK env.P S fn.results.toList)
    (hob : S.ob = .pv [.d (coresD cs), .og 1 w, .d (dI s'.many)] :: .x (neI (rwI s') none) w :: rest) (hv : w + s.L.length = s'.L.length) (hF : F) : RetR env.P fn 2 (outS cs s s' (.tup []) F) e S := by
  refine RetR.own (t := .tup []) (ob' := mkO cs s' w) ⟨[0, 1], [0, 0], S.ob.length⟩ he hts hok ?_ rfl rfl rfl rfl ?_ ⟨?_, ?_, trivial⟩ rfl ⟨⟨rfl, hF⟩, w, hv, rfl⟩
  · rfl
  · simp [renOKL, Ob.renOK, Rn.of, T.lpOKL, T.lpOK]
  · rw [hob]; simp [Ob.ren, Rn.of, Rn.ix, T.renL, T.ren]
  · rw [hob]; simp [Ob.ren, Rn.of, Rn.ix]

section
variable {cs : List Co} {go : Int → List Int → Cst → Cst} {n : Co} {regs : List Int} {s : Cst}

set_option maxHeartbeats 8000000 in
theorem l8Both_fn (hr : regs.length = 60) {a b : Int} {ca cb : Nat} (ha : GoS cs go a ca) (hb : GoS cs go b cb) (hl : s.L.length + 20 * ca + 20 * cb + 20 ≤ 50000) (hm0 : 0 ≤ s.many) (hm : s.many + 2 * ca + 2 * cb + 2 ≤ 50000) :
    FunQ env.P 36 [.lp 0 0, .d (dI a), .d (dI b), .d (slotsD regs)] (mkO cs s 0) (outS cs s (cBoth go regs s a b) (.tup []) (s.near (cBoth go regs s a b) (20 * ca + 20 * cb + 20) (2 * ca + 2 * cb + 2))) := by
  refine FunQ.intro Try.func36 rfl (by kernel_rfl) rfl ?_
  unfold mkO
  repeat' (first | refine W.seq ?_ | refine W.rg ?_ | refine W.cond_true' ?_ | refine W.cond_false' ?_ | refine WG.nil ?_ | refine WG.run' (E := env) ?_ | refine W.block ?_ | refine W.skip ?_ | refine W.exit ?_ | (refine WG.mkS rfl rfl (putS _ _ _ _ (by omega)) rfl rfl rfl ?_; intro w hw hF; obtain ⟨hL, hM⟩ := hF) | (refine WG.mkS rfl rfl (ha regs _ hr (by omega) (by omega) (by omega)) rfl rfl rfl ?_; intro w hw hF; obtain ⟨h1, h2, h3, h4⟩ := hF) | (refine WG.mkS rfl rfl (hb regs _ hr (by omega) (by omega) (by omega)) rfl rfl rfl ?_; intro w hw hF; obtain ⟨h1, h2, h3, h4⟩ := hF))
  refine RetR.outS (.inr rfl) rfl (by first | trivial | exact resOK_of (E := env) rfl) rfl (by unfold cBoth; omega) ?_
  unfold cBoth Cst.near
  refine ⟨?_, ?_, ?_, ?_⟩ <;> omega

set_option maxHeartbeats 8000000 in
theorem l8List_fn (hr : regs.length = 60) {ca : Nat} (ha : GoS cs go n.a ca) (hl : s.L.length + 20 * ca + 20 ≤ 50000) (hm0 : 0 ≤ s.many) (hm : s.many + 2 * ca + 2 ≤ 50000) :
    FunQ env.P 38 [.lp 0 0, .d (.agg n.row), .d (slotsD regs)] (mkO cs s 0) (outS cs s (cList go n regs s) (.tup []) (s.near (cList go n regs s) (20 * ca + 20) (2 * ca + 2))) := by
  refine FunQ.intro Try.func38 rfl (by kernel_rfl) rfl ?_
  unfold mkO
  repeat' (first | refine W.seq ?_ | refine W.rg ?_ | refine W.cond_true' ?_ | refine W.cond_false' ?_ | refine WG.nil ?_ | refine WG.run' (E := env) ?_ | refine W.block ?_ | refine W.skip ?_ | refine W.exit ?_ | (refine WG.mkS rfl rfl (putS _ _ _ _ (by omega)) rfl rfl rfl ?_; intro w hw hF; obtain ⟨hL, hM⟩ := hF) | (refine WG.mkS rfl rfl (hereS _ _ _ (by omega) (by omega)) rfl rfl rfl ?_; intro w hw hF; obtain ⟨hL, hM⟩ := hF) | (refine WG.mkS rfl rfl (regS _ _ ⟨by omega, by omega⟩) rfl rfl rfl ?_; intro w hw hF; obtain ⟨hL, hM⟩ := hF) | (refine WG.mkS rfl rfl (valS _ _ _ arrV0 (by omega) (by first | assumption | decide)) rfl rfl rfl ?_; intro w hw hF; obtain ⟨hL, hM⟩ := hF) | (refine WG.mkS rfl rfl (ha regs _ hr (by omega) (by omega) (by omega)) rfl rfl rfl ?_; intro w hw hF; obtain ⟨h1, h2, h3, h4⟩ := hF) | refine WG.pubK 3 rfl ?_)
  refine RetR.outS (.inr rfl) rfl (by first | trivial | exact resOK_of (E := env) rfl) rfl (by unfold cList cList2; omega) ?_
  unfold cList cList2 Cst.near
  refine ⟨?_, ?_, ?_, ?_⟩ <;> omega

set_option maxHeartbeats 8000000 in
theorem l8Choice_fn (hr : regs.length = 60) (hop : n.op = 12) {ca cb cc : Nat} (ha : GoS cs go n.a ca) (hb : GoS cs go n.b cb) (hc : GoS cs go n.c cc) (hl : s.L.length + 20 * ca + 20 * cb + 20 * cc + 20 ≤ 50000) (hm0 : 0 ≤ s.many) (hm : s.many + 2 * ca + 2 * cb + 2 * cc + 2 ≤ 50000) :
    FunQ env.P 35 [.lp 0 0, .d (.agg n.row), .d (slotsD regs)] (mkO cs s 0) (outS cs s (cChoice go n regs s) (.tup []) (s.near (cChoice go n regs s) (20 * ca + 20 * cb + 20 * cc + 20) (2 * ca + 2 * cb + 2 * cc + 2))) := by
  obtain ⟨op, a, b, c, num, val⟩ := n
  obtain rfl : op = 12 := hop
  refine FunQ.intro Try.func35 rfl (by kernel_rfl) rfl ?_
  unfold mkO
  repeat' (first | refine W.seq ?_ | refine W.rg ?_ | refine W.cond_true' ?_ | refine W.cond_false' ?_ | refine WG.nil ?_ | refine WG.run' (E := env) ?_ | refine W.block ?_ | refine W.skip ?_ | refine W.exit ?_ | (refine WG.mkS rfl rfl (putS _ _ _ _ (by omega)) rfl rfl rfl ?_; intro w hw hF; obtain ⟨hL, hM⟩ := hF) | (refine WG.mkS rfl rfl (hereS _ _ _ (by omega) (by omega)) rfl rfl rfl ?_; intro w hw hF; obtain ⟨hL, hM⟩ := hF) | (refine WG.mkS rfl rfl (ha regs _ hr (by omega) (by omega) (by omega)) rfl rfl rfl ?_; intro w hw hF; obtain ⟨h1, h2, h3, h4⟩ := hF) | (refine WG.mkS rfl rfl (hb regs _ hr (by omega) (by omega) (by omega)) rfl rfl rfl ?_; intro w hw hF; obtain ⟨h1, h2, h3, h4⟩ := hF) | (refine WG.mkS rfl rfl (hc regs _ hr (by omega) (by omega) (by omega)) rfl rfl rfl ?_; intro w hw hF; obtain ⟨h1, h2, h3, h4⟩ := hF))
  refine RetR.outS (.inr rfl) rfl (by first | trivial | exact resOK_of (E := env) rfl) rfl (by unfold cChoice cChoice2 cChoice3; omega) ?_
  unfold cChoice cChoice2 cChoice3 Cst.near
  refine ⟨?_, ?_, ?_, ?_⟩ <;> omega

set_option maxHeartbeats 8000000 in
theorem l8Comma_fn (hr : regs.length = 60) (hop : n.op = 4) {ca cb : Nat} (ha : GoS cs go n.a ca) (hb : GoS cs go n.b cb) (hl : s.L.length + 20 * ca + 20 * cb + 20 ≤ 50000) (hm0 : 0 ≤ s.many) (hm : s.many + 2 * ca + 2 * cb + 2 ≤ 50000) :
    FunQ env.P 35 [.lp 0 0, .d (.agg n.row), .d (slotsD regs)] (mkO cs s 0) (outS cs s (cComma go n regs s) (.tup []) (s.near (cComma go n regs s) (20 * ca + 20 * cb + 20) (2 * ca + 2 * cb + 2))) := by
  obtain ⟨op, a, b, c, num, val⟩ := n
  obtain rfl : op = 4 := hop
  refine FunQ.intro Try.func35 rfl (by kernel_rfl) rfl ?_
  unfold mkO
  repeat' (first | refine W.seq ?_ | refine W.rg ?_ | refine W.cond_true' ?_ | refine W.cond_false' ?_ | refine WG.nil ?_ | refine WG.run' (E := env) ?_ | refine W.block ?_ | refine W.skip ?_ | refine W.exit ?_ | (refine WG.mkS rfl rfl (putS _ _ _ _ (by omega)) rfl rfl rfl ?_; intro w hw hF; obtain ⟨hL, hM⟩ := hF) | (refine WG.mkS rfl rfl (hereS _ _ _ (by omega) (by omega)) rfl rfl rfl ?_; intro w hw hF; obtain ⟨hL, hM⟩ := hF) | (refine WG.mkS rfl rfl (ha regs _ hr (by omega) (by omega) (by omega)) rfl rfl rfl ?_; intro w hw hF; obtain ⟨h1, h2, h3, h4⟩ := hF) | (refine WG.mkS rfl rfl (hb regs _ hr (by omega) (by omega) (by omega)) rfl rfl rfl ?_; intro w hw hF; obtain ⟨h1, h2, h3, h4⟩ := hF))
  refine RetR.outS (.inr rfl) rfl (by first | trivial | exact resOK_of (E := env) rfl) rfl (by unfold cComma cComma2; omega) ?_
  unfold cComma cComma2 Cst.near
  refine ⟨?_, ?_, ?_, ?_⟩ <;> omega

set_option maxHeartbeats 8000000 in
theorem l8Reduce_fn (hr : regs.length = 60) (hnum : 0 ≤ n.num ∧ n.num ≤ 59) {cc : Nat} (hnc : ∀ (regs : List Int) (s : Cst), s.near (go n.c regs s) (20 * cc) (2 * cc)) {ca cb : Nat} (ha : GoS cs go n.a ca) (hb : GoS cs go n.b cb) (hc : GoS cs go n.c cc) (hl : s.L.length + 20 * ca + 20 * cb + 20 * cc + 20 ≤ 50000) (hm0 : 0 ≤ s.many) (hm : s.many + 2 * ca + 2 * cb + 2 * cc + 2 ≤ 50000) :
    FunQ env.P 39 [.lp 0 0, .d (.agg n.row), .d (slotsD regs)] (mkO cs s 0) (outS cs s (cRed go n regs s) (.tup []) (s.near (cRed go n regs s) (20 * ca + 20 * cb + 20 * cc + 20) (2 * ca + 2 * cb + 2 * cc + 2))) := by
  have hwi := l8With_fn regs n.num s.reg.many (by omega) (by omega)
  refine FunQ.intro Try.func39 rfl (by kernel_rfl) rfl ?_
  unfold mkO
  repeat' (first | (have hq := hc (regs.set n.num.toNat s.reg.many) (((((go n.a regs (((go n.b regs (s.reg.reg.put 1 0)).put 16 s.many).put 12 0)).put 16 s.reg.many).put 17 s.many).val 3 nulV0).put 16 s.many) (by rw [List.length_set]; exact hr) (by omega) (by omega) (by omega) ; obtain ⟨h1, h2, h3, h4⟩ := hnc (regs.set n.num.toNat s.reg.many) (((((go n.a regs (((go n.b regs (s.reg.reg.put 1 0)).put 16 s.many).put 12 0)).put 16 s.reg.many).put 17 s.many).val 3 nulV0).put 16 s.many) ; refine W.dre' (id := 12) [8] (fun f => bif bt f 1 then [.pv [.d (coresD cs), .og 1 (w + ((go n.c (regs.set n.num.toNat s.reg.many) (((((go n.a regs (((go n.b regs (s.reg.reg.put 1 0)).put 16 s.many).put 12 0)).put 16 s.reg.many).put 17 s.many).val 3 nulV0).put 16 s.many)).L.length - (((((go n.a regs (((go n.b regs (s.reg.reg.put 1 0)).put 16 s.many).put 12 0)).put 16 s.reg.many).put 17 s.many).val 3 nulV0).put 16 s.many).L.length)), .d (dI (go n.c (regs.set n.num.toNat s.reg.many) (((((go n.a regs (((go n.b regs (s.reg.reg.put 1 0)).put 16 s.many).put 12 0)).put 16 s.reg.many).put 17 s.many).val 3 nulV0).put 16 s.many)).many)], .x (neI (rwI (go n.c (regs.set n.num.toNat s.reg.many) (((((go n.a regs (((go n.b regs (s.reg.reg.put 1 0)).put 16 s.many).put 12 0)).put 16 s.reg.many).put 17 s.many).val 3 nulV0).put 16 s.many))) none) (w + ((go n.c (regs.set n.num.toNat s.reg.many) (((((go n.a regs (((go n.b regs (s.reg.reg.put 1 0)).put 16 s.many).put 12 0)).put 16 s.reg.many).put 17 s.many).val 3 nulV0).put 16 s.many)).L.length - (((((go n.a regs (((go n.b regs (s.reg.reg.put 1 0)).put 16 s.many).put 12 0)).put 16 s.reg.many).put 17 s.many).val 3 nulV0).put 16 s.many).L.length)), .pv (n.row.map .d)] else [.pv [.d (coresD cs), .og 1 w, .d (dI (((((go n.a regs (((go n.b regs (s.reg.reg.put 1 0)).put 16 s.many).put 12 0)).put 16 s.reg.many).put 17 s.many).val 3 nulV0).put 16 s.many).many)], .x (neI (rwI (((((go n.a regs (((go n.b regs (s.reg.reg.put 1 0)).put 16 s.many).put 12 0)).put 16 s.reg.many).put 17 s.many).val 3 nulV0).put 16 s.many)) none) w, .pv (n.row.map .d)]) [(0, [0]), (0, [0]), (0, [0]), (0, [0]), (0, [0]), (0, [0]), (0, [0]), (0, [0]), (1, [0])] [.pv [.d (coresD cs), .og 1 (w + ((go n.c (regs.set n.num.toNat s.reg.many) (((((go n.a regs (((go n.b regs (s.reg.reg.put 1 0)).put 16 s.many).put 12 0)).put 16 s.reg.many).put 17 s.many).val 3 nulV0).put 16 s.many)).L.length - (((((go n.a regs (((go n.b regs (s.reg.reg.put 1 0)).put 16 s.many).put 12 0)).put 16 s.reg.many).put 17 s.many).val 3 nulV0).put 16 s.many).L.length)), .d (dI (go n.c (regs.set n.num.toNat s.reg.many) (((((go n.a regs (((go n.b regs (s.reg.reg.put 1 0)).put 16 s.many).put 12 0)).put 16 s.reg.many).put 17 s.many).val 3 nulV0).put 16 s.many)).many)], .x (neI (rwI (go n.c (regs.set n.num.toNat s.reg.many) (((((go n.a regs (((go n.b regs (s.reg.reg.put 1 0)).put 16 s.many).put 12 0)).put 16 s.reg.many).put 17 s.many).val 3 nulV0).put 16 s.many))) none) (w + ((go n.c (regs.set n.num.toNat s.reg.many) (((((go n.a regs (((go n.b regs (s.reg.reg.put 1 0)).put 16 s.many).put 12 0)).put 16 s.reg.many).put 17 s.many).val 3 nulV0).put 16 s.many)).L.length - (((((go n.a regs (((go n.b regs (s.reg.reg.put 1 0)).put 16 s.many).put 12 0)).put 16 s.reg.many).put 17 s.many).val 3 nulV0).put 16 s.many).L.length)), .pv (n.row.map .d)] ?_) | refine WE.c' hwi ?_ | refine WE.mkd (.tup []) ?_ (.c (OpS1.cqM (E := env) (cap := []) [0, 1] [0, w] rfl rfl (justS_of hq) rfl rfl rfl rfl rfl rfl rfl ⟨rfl, rfl, trivial⟩ rfl rfl rfl) .n) | refine WE.nil ?_ | refine WE.ixP' ?_ | refine WE.s' (E := env) (t := .d _) ?_ | refine WE.p' ?_ | refine WE.px' ?_ | refine WE.s' (E := env) (t := .lp _ _) ?_ | refine WE.s' (E := env) (t := .og _ _) ?_ | refine WE.s' (E := env) (t := .ea _ _) ?_ | refine WE.s' (E := env) (t := .agg _) ?_ | refine WE.s' (E := env) (t := .tup _) ?_ | refine WE.ixm' (E := env) ?_ | refine WE.ixo' (E := env) ?_ | refine WE.leg' (E := env) ?_ | refine WE.slS' (E := env) ?_ | refine WE.slD' (E := env) ?_ | refine WE.ap' (E := env) ?_ | refine WE.st' (E := env) ?_ | refine WE.seg' (E := env) ?_ | refine WE.bs' (E := env) ?_ | refine W.seq ?_ | refine W.rg ?_ | refine W.cond_true' ?_ | refine W.cond_false' ?_ | refine WG.nil ?_ | refine WG.run' (E := env) ?_ | refine W.block ?_ | refine W.skip ?_ | refine W.exit ?_ | (refine WG.mkS rfl rfl (putS _ _ _ _ (by omega)) rfl rfl rfl ?_; intro w hw hF; obtain ⟨hL, hM⟩ := hF) | (refine WG.mkS rfl rfl (hereS _ _ _ (by omega) (by omega)) rfl rfl rfl ?_; intro w hw hF; obtain ⟨hL, hM⟩ := hF) | (refine WG.mkS rfl rfl (regS _ _ ⟨by omega, by omega⟩) rfl rfl rfl ?_; intro w hw hF; obtain ⟨hL, hM⟩ := hF) | (refine WG.mkS rfl rfl (valS _ _ _ _ (by omega) (by first | assumption | decide)) rfl rfl rfl ?_; intro w hw hF; obtain ⟨hL, hM⟩ := hF) | (refine WG.mkS rfl rfl (hb regs _ hr (by omega) (by omega) (by omega)) rfl rfl rfl ?_; intro w hw hF; obtain ⟨h1, h2, h3, h4⟩ := hF) | (refine WG.mkS rfl rfl (ha regs _ hr (by omega) (by omega) (by omega)) rfl rfl rfl ?_; intro w hw hF; obtain ⟨h1, h2, h3, h4⟩ := hF) | refine WG.c (E := env) rfl rfl (l3Nul_fn) rfl rfl ?_)
  refine RetR.outS (.inr rfl) rfl (by first | trivial | exact resOK_of (E := env) rfl) rfl (by unfold cRed cRed2 cRed3; omega) ?_
  unfold cRed cRed2 cRed3 Cst.near
  refine ⟨?_, ?_, ?_, ?_⟩ <;> omega

set_option maxHeartbeats 8000000 in
theorem l8Alt_fn (hr : regs.length = 60) {ca cb : Nat} (ha : GoS cs go n.a ca) (hb : GoS cs go n.b cb) (hl : s.L.length + 20 * ca + 20 * cb + 20 ≤ 50000) (hm0 : 0 ≤ s.many) (hm : s.many + 2 * ca + 2 * cb + 2 ≤ 50000) :
    FunQ env.P 40 [.lp 0 0, .d (.agg n.row), .d (slotsD regs)] (mkO cs s 0) (outS cs s (cAlt go n regs s) (.tup []) (s.near (cAlt go n regs s) (20 * ca + 20 * cb + 20) (2 * ca + 2 * cb + 2))) := by
  refine FunQ.intro Try.func40 rfl (by kernel_rfl) rfl ?_
  unfold mkO
  repeat' (first | refine W.seq ?_ | refine W.rg ?_ | refine W.cond_true' ?_ | refine W.cond_false' ?_ | refine WG.nil ?_ | refine WG.run' (E := env) ?_ | refine W.block ?_ | refine W.skip ?_ | refine W.exit ?_ | (refine WG.mkS rfl rfl (putS _ _ _ _ (by omega)) rfl rfl rfl ?_; intro w hw hF; obtain ⟨hL, hM⟩ := hF) | (refine WG.mkS rfl rfl (hereS _ _ _ (by omega) (by omega)) rfl rfl rfl ?_; intro w hw hF; obtain ⟨hL, hM⟩ := hF) | (refine WG.mkS rfl rfl (regS _ _ ⟨by omega, by omega⟩) rfl rfl rfl ?_; intro w hw hF; obtain ⟨hL, hM⟩ := hF) | (refine WG.mkS rfl rfl (valS _ _ _ _ (by omega) (by first | assumption | decide)) rfl rfl rfl ?_; intro w hw hF; obtain ⟨hL, hM⟩ := hF) | (refine WG.mkS rfl rfl (ha regs _ hr (by omega) (by omega) (by omega)) rfl rfl rfl ?_; intro w hw hF; obtain ⟨h1, h2, h3, h4⟩ := hF) | (refine WG.mkS rfl rfl (hb regs _ hr (by omega) (by omega) (by omega)) rfl rfl rfl ?_; intro w hw hF; obtain ⟨h1, h2, h3, h4⟩ := hF) | refine WG.c (E := env) rfl rfl (l3False_fn) rfl rfl ?_ | refine WG.c (E := env) rfl rfl (l3True_fn) rfl rfl ?_)
  refine RetR.outS (.inr rfl) rfl (by first | trivial | exact resOK_of (E := env) rfl) rfl (by unfold cAlt cAlt1 cAlt2 cAlt3 cAlt5; omega) ?_
  unfold cAlt cAlt1 cAlt2 cAlt3 cAlt5 Cst.near
  refine ⟨?_, ?_, ?_, ?_⟩ <;> omega

set_option maxHeartbeats 8000000 in
theorem l8Node_1 (hr : regs.length = 60) (hop : n.op = 1)  (hl : s.L.length + 20 ≤ 50000) (hm0 : 0 ≤ s.many) (hm : s.many + 2 ≤ 50000) (k : Nat) (hk : k < cs.length) (hn : Co.row (cs.getD (Int.toNat (k : Int)) default) = n.row) :
    FunQ env.P 15 [.lp 0 0, .d (dI (k : Int)), .d (slotsD regs)] (mkO cs s 0) (outS cs s (cNode go n regs s) (.tup []) True) := by
  obtain ⟨op, a, b, c, num, val⟩ := n
  obtain rfl : op = 1 := hop
  have e : cNode go ⟨1, a, b, c, num, val⟩ regs s = s := rfl
  rw [e]
  refine FunQ.intro Try.func15 rfl (by kernel_rfl) rfl ?_
  unfold mkO
  repeat' (first | refine WG.ixeQ (E := env) (r := Co.row ⟨1, a, b, c, num, val⟩) rfl rfl rfl rfl rfl rfl rfl hn (by (first | exact trivial | (simp only [inRange, List.length_map]; omega) | omega | assumption)) ?_ | refine W.seq ?_ | refine W.rg ?_ | refine W.cond_true' ?_ | refine W.cond_false' ?_ | refine WG.nil ?_ | refine WG.run' (E := env) ?_ | refine W.block ?_ | refine W.skip ?_ | refine W.exit ?_)
  exact RetR.outS (.inr rfl) rfl (by first | trivial | exact resOK_of (E := env) rfl) rfl (by (try dsimp only at *); omega) trivial

set_option maxHeartbeats 8000000 in
theorem l8Node_2 (hr : regs.length = 60) (hop : n.op = 2) (hval : n.val.length ≤ 1048576)  (hl : s.L.length + 20 ≤ 50000) (hm0 : 0 ≤ s.many) (hm : s.many + 2 ≤ 50000) (k : Nat) (hk : k < cs.length) (hn : Co.row (cs.getD (Int.toNat (k : Int)) default) = n.row) :
    FunQ env.P 15 [.lp 0 0, .d (dI (k : Int)), .d (slotsD regs)] (mkO cs s 0) (outS cs s (cNode go n regs s) (.tup []) True) := by
  obtain ⟨op, a, b, c, num, val⟩ := n
  obtain rfl : op = 2 := hop
  have e : cNode go ⟨2, a, b, c, num, val⟩ regs s = (s.put 2 0).val 3 val := rfl
  rw [e]
  have hval : val.length ≤ 1048576 := hval
  refine FunQ.intro Try.func15 rfl (by kernel_rfl) rfl ?_
  unfold mkO
  repeat' (first | refine WG.ixeQ (E := env) (r := Co.row ⟨2, a, b, c, num, val⟩) rfl rfl rfl rfl rfl rfl rfl hn (by (first | exact trivial | (simp only [inRange, List.length_map]; omega) | omega | assumption)) ?_ | refine W.seq ?_ | refine W.rg ?_ | refine W.cond_true' ?_ | refine W.cond_false' ?_ | refine WG.nil ?_ | refine WG.run' (E := env) ?_ | refine W.block ?_ | refine W.skip ?_ | refine W.exit ?_ | (refine WG.mkS rfl rfl (putS _ _ _ _ (by omega)) rfl rfl rfl ?_; intro w hw hF; obtain ⟨hL, hM⟩ := hF) | (refine WG.mkS rfl rfl (valS _ _ _ _ (by omega) (by first | assumption | decide)) rfl rfl rfl ?_; intro w hw hF; obtain ⟨hL, hM⟩ := hF))
  exact RetR.outS (.inr rfl) rfl (by first | trivial | exact resOK_of (E := env) rfl) rfl (by (try dsimp only at *); omega) trivial

set_option maxHeartbeats 8000000 in
theorem l8Node_17 (hr : regs.length = 60) (hop : n.op = 17)  (hl : s.L.length + 20 ≤ 50000) (hm0 : 0 ≤ s.many) (hm : s.many + 2 ≤ 50000) (k : Nat) (hk : k < cs.length) (hn : Co.row (cs.getD (Int.toNat (k : Int)) default) = n.row) :
    FunQ env.P 15 [.lp 0 0, .d (dI (k : Int)), .d (slotsD regs)] (mkO cs s 0) (outS cs s (cNode go n regs s) (.tup []) True) := by
  obtain ⟨op, a, b, c, num, val⟩ := n
  obtain rfl : op = 17 := hop
  have e : cNode go ⟨17, a, b, c, num, val⟩ regs s = s.put 15 0 := rfl
  rw [e]
  refine FunQ.intro Try.func15 rfl (by kernel_rfl) rfl ?_
  unfold mkO
  repeat' (first | refine WG.ixeQ (E := env) (r := Co.row ⟨17, a, b, c, num, val⟩) rfl rfl rfl rfl rfl rfl rfl hn (by (first | exact trivial | (simp only [inRange, List.length_map]; omega) | omega | assumption)) ?_ | refine W.seq ?_ | refine W.rg ?_ | refine W.cond_true' ?_ | refine W.cond_false' ?_ | refine WG.nil ?_ | refine WG.run' (E := env) ?_ | refine W.block ?_ | refine W.skip ?_ | refine W.exit ?_ | (refine WG.mkS rfl rfl (putS _ _ _ _ (by omega)) rfl rfl rfl ?_; intro w hw hF; obtain ⟨hL, hM⟩ := hF))
  exact RetR.outS (.inr rfl) rfl (by first | trivial | exact resOK_of (E := env) rfl) rfl (by (try dsimp only at *); omega) trivial

set_option maxHeartbeats 8000000 in
theorem l8Node_15 (hr : regs.length = 60) (hop : n.op = 15) (hnum : 0 ≤ n.num ∧ n.num ≤ 59)  (hl : s.L.length + 20 ≤ 50000) (hm0 : 0 ≤ s.many) (hm : s.many + 2 ≤ 50000) (k : Nat) (hk : k < cs.length) (hn : Co.row (cs.getD (Int.toNat (k : Int)) default) = n.row) :
    FunQ env.P 15 [.lp 0 0, .d (dI (k : Int)), .d (slotsD regs)] (mkO cs s 0) (outS cs s (cNode go n regs s) (.tup []) True) := by
  obtain ⟨op, a, b, c, num, val⟩ := n
  obtain rfl : op = 15 := hop
  have e : cNode go ⟨15, a, b, c, num, val⟩ regs s = (s.put 2 0).put 17 (regs.getD num.toNat default) := rfl
  rw [e]
  have hnum : 0 ≤ num ∧ num ≤ 59 := hnum
  refine FunQ.intro Try.func15 rfl (by kernel_rfl) rfl ?_
  unfold mkO
  repeat' (first | refine WG.ixeQ (E := env) (r := Co.row ⟨15, a, b, c, num, val⟩) rfl rfl rfl rfl rfl rfl rfl hn (by (first | exact trivial | (simp only [inRange, List.length_map]; omega) | omega | assumption)) ?_ | refine W.seq ?_ | refine W.rg ?_ | refine W.cond_true' ?_ | refine W.cond_false' ?_ | refine WG.nil ?_ | refine WG.run' (E := env) ?_ | refine W.block ?_ | refine W.skip ?_ | refine W.exit ?_ | (refine WG.mkS rfl rfl (putS _ _ _ _ (by omega)) rfl rfl rfl ?_; intro w hw hF; obtain ⟨hL, hM⟩ := hF) | refine WG.ixm' (E := env) ?_)
  exact RetR.outS (.inr rfl) rfl (by first | trivial | exact resOK_of (E := env) rfl) rfl (by (try dsimp only at *); omega) trivial

set_option maxHeartbeats 8000000 in
theorem l8Node_16 (hr : regs.length = 60) (hop : n.op = 16)  (hl : s.L.length + 20 ≤ 50000) (hm0 : 0 ≤ s.many) (hm : s.many + 2 ≤ 50000) (k : Nat) (hk : k < cs.length) (hn : Co.row (cs.getD (Int.toNat (k : Int)) default) = n.row) :
    FunQ env.P 15 [.lp 0 0, .d (dI (k : Int)), .d (slotsD regs)] (mkO cs s 0) (outS cs s (cNode go n regs s) (.tup []) True) := by
  obtain ⟨op, a, b, c, num, val⟩ := n
  obtain rfl : op = 16 := hop
  have e : cNode go ⟨16, a, b, c, num, val⟩ regs s = s.put 8 num := rfl
  rw [e]
  refine FunQ.intro Try.func15 rfl (by kernel_rfl) rfl ?_
  unfold mkO
  repeat' (first | refine WG.ixeQ (E := env) (r := Co.row ⟨16, a, b, c, num, val⟩) rfl rfl rfl rfl rfl rfl rfl hn (by (first | exact trivial | (simp only [inRange, List.length_map]; omega) | omega | assumption)) ?_ | refine W.seq ?_ | refine W.rg ?_ | refine W.cond_true' ?_ | refine W.cond_false' ?_ | refine WG.nil ?_ | refine WG.run' (E := env) ?_ | refine W.block ?_ | refine W.skip ?_ | refine W.exit ?_ | (refine WG.mkS rfl rfl (putS _ _ _ _ (by omega)) rfl rfl rfl ?_; intro w hw hF; obtain ⟨hL, hM⟩ := hF))
  exact RetR.outS (.inr rfl) rfl (by first | trivial | exact resOK_of (E := env) rfl) rfl (by (try dsimp only at *); omega) trivial

set_option maxHeartbeats 8000000 in
theorem l8Node_3 (hr : regs.length = 60) (hop : n.op = 3) {ca cb : Nat} (ha : GoS cs go n.a ca) (hb : GoS cs go n.b cb) (hl : s.L.length + 20 * ca + 20 * cb + 20 ≤ 50000) (hm0 : 0 ≤ s.many) (hm : s.many + 2 * ca + 2 * cb + 2 ≤ 50000) (k : Nat) (hk : k < cs.length) (hn : Co.row (cs.getD (Int.toNat (k : Int)) default) = n.row) :
    FunQ env.P 15 [.lp 0 0, .d (dI (k : Int)), .d (slotsD regs)] (mkO cs s 0) (outS cs s (cNode go n regs s) (.tup []) True) := by
  obtain ⟨op, a, b, c, num, val⟩ := n
  obtain rfl : op = 3 := hop
  have e : cNode go ⟨3, a, b, c, num, val⟩ regs s = go b regs (go a regs s) := rfl
  rw [e]
  have ha : GoS cs go a ca := ha
  have hb : GoS cs go b cb := hb
  refine FunQ.intro Try.func15 rfl (by kernel_rfl) rfl ?_
  unfold mkO
  repeat' (first | refine WG.ixeQ (E := env) (r := Co.row ⟨3, a, b, c, num, val⟩) rfl rfl rfl rfl rfl rfl rfl hn (by (first | exact trivial | (simp only [inRange, List.length_map]; omega) | omega | assumption)) ?_ | refine W.seq ?_ | refine W.rg ?_ | refine W.cond_true' ?_ | refine W.cond_false' ?_ | refine WG.nil ?_ | refine WG.run' (E := env) ?_ | refine W.block ?_ | refine W.skip ?_ | refine W.exit ?_ | (refine WG.mkS rfl rfl (ha regs _ hr (by omega) (by omega) (by omega)) rfl rfl rfl ?_; intro w hw hF; obtain ⟨h1, h2, h3, h4⟩ := hF) | (refine WG.mkS rfl rfl (hb regs _ hr (by omega) (by omega) (by omega)) rfl rfl rfl ?_; intro w hw hF; obtain ⟨h1, h2, h3, h4⟩ := hF))
  exact RetR.outS (.inr rfl) rfl (by first | trivial | exact resOK_of (E := env) rfl) rfl (by (try dsimp only at *); omega) trivial

set_option maxHeartbeats 8000000 in
theorem l8Node_4 (hr : regs.length = 60) (hop : n.op = 4) {ca cb : Nat} (ha : GoS cs go n.a ca) (hb : GoS cs go n.b cb) (hl : s.L.length + 20 * ca + 20 * cb + 20 ≤ 50000) (hm0 : 0 ≤ s.many) (hm : s.many + 2 * ca + 2 * cb + 2 ≤ 50000) (k : Nat) (hk : k < cs.length) (hn : Co.row (cs.getD (Int.toNat (k : Int)) default) = n.row) :
    FunQ env.P 15 [.lp 0 0, .d (dI (k : Int)), .d (slotsD regs)] (mkO cs s 0) (outS cs s (cNode go n regs s) (.tup []) True) := by
  obtain ⟨op, a, b, c, num, val⟩ := n
  obtain rfl : op = 4 := hop
  have e : cNode go ⟨4, a, b, c, num, val⟩ regs s = cComma go ⟨4, a, b, c, num, val⟩ regs s := rfl
  rw [e]
  have ha : GoS cs go a ca := ha
  have hb : GoS cs go b cb := hb
  refine FunQ.intro Try.func15 rfl (by kernel_rfl) rfl ?_
  unfold mkO
  repeat' (first | refine WG.ixeQ (E := env) (r := Co.row ⟨4, a, b, c, num, val⟩) rfl rfl rfl rfl rfl rfl rfl hn (by (first | exact trivial | (simp only [inRange, List.length_map]; omega) | omega | assumption)) ?_ | refine W.seq ?_ | refine W.rg ?_ | refine W.cond_true' ?_ | refine W.cond_false' ?_ | refine WG.nil ?_ | refine WG.run' (E := env) ?_ | refine W.block ?_ | refine W.skip ?_ | refine W.exit ?_ | (refine WG.mkS rfl rfl (l8Comma_fn hr rfl ha hb (by omega) (by omega) (by omega)) rfl rfl rfl ?_; intro w hw hF; skip))
  exact RetR.outS (.inr rfl) rfl (by first | trivial | exact resOK_of (E := env) rfl) rfl (by (try dsimp only at *); omega) trivial

set_option maxHeartbeats 8000000 in
theorem l8Node_6 (hr : regs.length = 60) (hop : n.op = 6) {ca cb : Nat} (ha : GoS cs go n.a ca) (hb : GoS cs go n.b cb) (hl : s.L.length + 20 * ca + 20 * cb + 20 ≤ 50000) (hm0 : 0 ≤ s.many) (hm : s.many + 2 * ca + 2 * cb + 2 ≤ 50000) (k : Nat) (hk : k < cs.length) (hn : Co.row (cs.getD (Int.toNat (k : Int)) default) = n.row) :
    FunQ env.P 15 [.lp 0 0, .d (dI (k : Int)), .d (slotsD regs)] (mkO cs s 0) (outS cs s (cNode go n regs s) (.tup []) True) := by
  obtain ⟨op, a, b, c, num, val⟩ := n
  obtain rfl : op = 6 := hop
  have e : cNode go ⟨6, a, b, c, num, val⟩ regs s = (cBoth go regs s b a).put 5 num := rfl
  rw [e]
  have ha : GoS cs go a ca := ha
  have hb : GoS cs go b cb := hb
  refine FunQ.intro Try.func15 rfl (by kernel_rfl) rfl ?_
  unfold mkO
  repeat' (first | refine WG.ixeQ (E := env) (r := Co.row ⟨6, a, b, c, num, val⟩) rfl rfl rfl rfl rfl rfl rfl hn (by (first | exact trivial | (simp only [inRange, List.length_map]; omega) | omega | assumption)) ?_ | refine W.seq ?_ | refine W.rg ?_ | refine W.cond_true' ?_ | refine W.cond_false' ?_ | refine WG.nil ?_ | refine WG.run' (E := env) ?_ | refine W.block ?_ | refine W.skip ?_ | refine W.exit ?_ | (refine WG.mkS rfl rfl (l8Both_fn hr hb ha (by omega) (by omega) (by omega)) rfl rfl rfl ?_; intro w hw hF; obtain ⟨h1, h2, h3, h4⟩ := hF) | (refine WG.mkS rfl rfl (putS _ _ _ _ (by omega)) rfl rfl rfl ?_; intro w hw hF; obtain ⟨hL, hM⟩ := hF))
  exact RetR.outS (.inr rfl) rfl (by first | trivial | exact resOK_of (E := env) rfl) rfl (by (try dsimp only at *); omega) trivial

set_option maxHeartbeats 8000000 in
theorem l8Node_7 (hr : regs.length = 60) (hop : n.op = 7) {ca cb : Nat} (ha : GoS cs go n.a ca) (hb : GoS cs go n.b cb) (hl : s.L.length + 20 * ca + 20 * cb + 20 ≤ 50000) (hm0 : 0 ≤ s.many) (hm : s.many + 2 * ca + 2 * cb + 2 ≤ 50000) (k : Nat) (hk : k < cs.length) (hn : Co.row (cs.getD (Int.toNat (k : Int)) default) = n.row) :
    FunQ env.P 15 [.lp 0 0, .d (dI (k : Int)), .d (slotsD regs)] (mkO cs s 0) (outS cs s (cNode go n regs s) (.tup []) True) := by
  obtain ⟨op, a, b, c, num, val⟩ := n
  obtain rfl : op = 7 := hop
  have e : cNode go ⟨7, a, b, c, num, val⟩ regs s = (cBoth go regs s a b).put 6 0 := rfl
  rw [e]
  have ha : GoS cs go a ca := ha
  have hb : GoS cs go b cb := hb
  refine FunQ.intro Try.func15 rfl (by kernel_rfl) rfl ?_
  unfold mkO
  repeat' (first | refine WG.ixeQ (E := env) (r := Co.row ⟨7, a, b, c, num, val⟩) rfl rfl rfl rfl rfl rfl rfl hn (by (first | exact trivial | (simp only [inRange, List.length_map]; omega) | omega | assumption)) ?_ | refine W.seq ?_ | refine W.rg ?_ | refine W.cond_true' ?_ | refine W.cond_false' ?_ | refine WG.nil ?_ | refine WG.run' (E := env) ?_ | refine W.block ?_ | refine W.skip ?_ | refine W.exit ?_ | (refine WG.mkS rfl rfl (l8Both_fn hr ha hb (by omega) (by omega) (by omega)) rfl rfl rfl ?_; intro w hw hF; obtain ⟨h1, h2, h3, h4⟩ := hF) | (refine WG.mkS rfl rfl (putS _ _ _ _ (by omega)) rfl rfl rfl ?_; intro w hw hF; obtain ⟨hL, hM⟩ := hF))
  exact RetR.outS (.inr rfl) rfl (by first | trivial | exact resOK_of (E := env) rfl) rfl (by (try dsimp only at *); omega) trivial

set_option maxHeartbeats 8000000 in
theorem l8Node_11 (hr : regs.length = 60) (hop : n.op = 11) (hval : n.val.length ≤ 1048576) {ca cb : Nat} (ha : GoS cs go n.a ca) (hb : GoS cs go n.b cb) (hl : s.L.length + 20 * ca + 20 * cb + 20 ≤ 50000) (hm0 : 0 ≤ s.many) (hm : s.many + 2 * ca + 2 * cb + 2 ≤ 50000) (k : Nat) (hk : k < cs.length) (hn : Co.row (cs.getD (Int.toNat (k : Int)) default) = n.row) :
    FunQ env.P 15 [.lp 0 0, .d (dI (k : Int)), .d (slotsD regs)] (mkO cs s 0) (outS cs s (cNode go n regs s) (.tup []) True) := by
  obtain ⟨op, a, b, c, num, val⟩ := n
  obtain rfl : op = 11 := hop
  have e : cNode go ⟨11, a, b, c, num, val⟩ regs s = (cBoth go regs s a b).val 9 val := rfl
  rw [e]
  have ha : GoS cs go a ca := ha
  have hb : GoS cs go b cb := hb
  have hval : val.length ≤ 1048576 := hval
  refine FunQ.intro Try.func15 rfl (by kernel_rfl) rfl ?_
  unfold mkO
  repeat' (first | refine WG.ixeQ (E := env) (r := Co.row ⟨11, a, b, c, num, val⟩) rfl rfl rfl rfl rfl rfl rfl hn (by (first | exact trivial | (simp only [inRange, List.length_map]; omega) | omega | assumption)) ?_ | refine W.seq ?_ | refine W.rg ?_ | refine W.cond_true' ?_ | refine W.cond_false' ?_ | refine WG.nil ?_ | refine WG.run' (E := env) ?_ | refine W.block ?_ | refine W.skip ?_ | refine W.exit ?_ | (refine WG.mkS rfl rfl (l8Both_fn hr ha hb (by omega) (by omega) (by omega)) rfl rfl rfl ?_; intro w hw hF; obtain ⟨h1, h2, h3, h4⟩ := hF) | (refine WG.mkS rfl rfl (valS _ _ _ _ (by omega) (by first | assumption | decide)) rfl rfl rfl ?_; intro w hw hF; obtain ⟨hL, hM⟩ := hF))
  exact RetR.outS (.inr rfl) rfl (by first | trivial | exact resOK_of (E := env) rfl) rfl (by (try dsimp only at *); omega) trivial

set_option maxHeartbeats 8000000 in
theorem l8Node_8 (hr : regs.length = 60) (hop : n.op = 8) {ca : Nat} (ha : GoS cs go n.a ca) (hl : s.L.length + 20 * ca + 20 ≤ 50000) (hm0 : 0 ≤ s.many) (hm : s.many + 2 * ca + 2 ≤ 50000) (k : Nat) (hk : k < cs.length) (hn : Co.row (cs.getD (Int.toNat (k : Int)) default) = n.row) :
    FunQ env.P 15 [.lp 0 0, .d (dI (k : Int)), .d (slotsD regs)] (mkO cs s 0) (outS cs s (cNode go n regs s) (.tup []) True) := by
  obtain ⟨op, a, b, c, num, val⟩ := n
  obtain rfl : op = 8 := hop
  have e : cNode go ⟨8, a, b, c, num, val⟩ regs s = (go a regs s).put 7 0 := rfl
  rw [e]
  have ha : GoS cs go a ca := ha
  refine FunQ.intro Try.func15 rfl (by kernel_rfl) rfl ?_
  unfold mkO
  repeat' (first | refine WG.ixeQ (E := env) (r := Co.row ⟨8, a, b, c, num, val⟩) rfl rfl rfl rfl rfl rfl rfl hn (by (first | exact trivial | (simp only [inRange, List.length_map]; omega) | omega | assumption)) ?_ | refine W.seq ?_ | refine W.rg ?_ | refine W.cond_true' ?_ | refine W.cond_false' ?_ | refine WG.nil ?_ | refine WG.run' (E := env) ?_ | refine W.block ?_ | refine W.skip ?_ | refine W.exit ?_ | (refine WG.mkS rfl rfl (ha regs _ hr (by omega) (by omega) (by omega)) rfl rfl rfl ?_; intro w hw hF; obtain ⟨h1, h2, h3, h4⟩ := hF) | (refine WG.mkS rfl rfl (putS _ _ _ _ (by omega)) rfl rfl rfl ?_; intro w hw hF; obtain ⟨hL, hM⟩ := hF))
  exact RetR.outS (.inr rfl) rfl (by first | trivial | exact resOK_of (E := env) rfl) rfl (by (try dsimp only at *); omega) trivial

set_option maxHeartbeats 8000000 in
theorem l8Node_9 (hr : regs.length = 60) (hop : n.op = 9) {ca : Nat} (ha : GoS cs go n.a ca) (hl : s.L.length + 20 * ca + 20 ≤ 50000) (hm0 : 0 ≤ s.many) (hm : s.many + 2 * ca + 2 ≤ 50000) (k : Nat) (hk : k < cs.length) (hn : Co.row (cs.getD (Int.toNat (k : Int)) default) = n.row) :
    FunQ env.P 15 [.lp 0 0, .d (dI (k : Int)), .d (slotsD regs)] (mkO cs s 0) (outS cs s (cNode go n regs s) (.tup []) True) := by
  obtain ⟨op, a, b, c, num, val⟩ := n
  obtain rfl : op = 9 := hop
  have e : cNode go ⟨9, a, b, c, num, val⟩ regs s = (go a regs (s.put 13 0)).here s.L.length := rfl
  rw [e]
  have ha : GoS cs go a ca := ha
  refine FunQ.intro Try.func15 rfl (by kernel_rfl) rfl ?_
  unfold mkO
  repeat' (first | refine WG.ixeQ (E := env) (r := Co.row ⟨9, a, b, c, num, val⟩) rfl rfl rfl rfl rfl rfl rfl hn (by (first | exact trivial | (simp only [inRange, List.length_map]; omega) | omega | assumption)) ?_ | refine W.seq ?_ | refine W.rg ?_ | refine W.cond_true' ?_ | refine W.cond_false' ?_ | refine WG.nil ?_ | refine WG.run' (E := env) ?_ | refine W.block ?_ | refine W.skip ?_ | refine W.exit ?_ | (refine WG.mkS rfl rfl (putS _ _ _ _ (by omega)) rfl rfl rfl ?_; intro w hw hF; obtain ⟨hL, hM⟩ := hF) | (refine WG.mkS rfl rfl (ha regs _ hr (by omega) (by omega) (by omega)) rfl rfl rfl ?_; intro w hw hF; obtain ⟨h1, h2, h3, h4⟩ := hF) | (refine WG.mkS rfl rfl (hereS _ _ _ (by omega) (by omega)) rfl rfl rfl ?_; intro w hw hF; obtain ⟨hL, hM⟩ := hF))
  exact RetR.outS (.inr rfl) rfl (by first | trivial | exact resOK_of (E := env) rfl) rfl (by (try dsimp only at *); omega) trivial

set_option maxHeartbeats 8000000 in
theorem l8Node_10 (hr : regs.length = 60) (hop : n.op = 10) {ca : Nat} (ha : GoS cs go n.a ca) (hl : s.L.length + 20 * ca + 20 ≤ 50000) (hm0 : 0 ≤ s.many) (hm : s.many + 2 * ca + 2 ≤ 50000) (k : Nat) (hk : k < cs.length) (hn : Co.row (cs.getD (Int.toNat (k : Int)) default) = n.row) :
    FunQ env.P 15 [.lp 0 0, .d (dI (k : Int)), .d (slotsD regs)] (mkO cs s 0) (outS cs s (cNode go n regs s) (.tup []) True) := by
  obtain ⟨op, a, b, c, num, val⟩ := n
  obtain rfl : op = 10 := hop
  have e : cNode go ⟨10, a, b, c, num, val⟩ regs s = cList go ⟨10, a, b, c, num, val⟩ regs s := rfl
  rw [e]
  have ha : GoS cs go a ca := ha
  refine FunQ.intro Try.func15 rfl (by kernel_rfl) rfl ?_
  unfold mkO
  repeat' (first | refine WG.ixeQ (E := env) (r := Co.row ⟨10, a, b, c, num, val⟩) rfl rfl rfl rfl rfl rfl rfl hn (by (first | exact trivial | (simp only [inRange, List.length_map]; omega) | omega | assumption)) ?_ | refine W.seq ?_ | refine W.rg ?_ | refine W.cond_true' ?_ | refine W.cond_false' ?_ | refine WG.nil ?_ | refine WG.run' (E := env) ?_ | refine W.block ?_ | refine W.skip ?_ | refine W.exit ?_ | (refine WG.mkS rfl rfl (l8List_fn hr ha (by omega) (by omega) (by omega)) rfl rfl rfl ?_; intro w hw hF; skip))
  exact RetR.outS (.inr rfl) rfl (by first | trivial | exact resOK_of (E := env) rfl) rfl (by (try dsimp only at *); omega) trivial

set_option maxHeartbeats 8000000 in
theorem l8Node_12 (hr : regs.length = 60) (hop : n.op = 12) {ca cb cc : Nat} (ha : GoS cs go n.a ca) (hb : GoS cs go n.b cb) (hc : GoS cs go n.c cc) (hl : s.L.length + 20 * ca + 20 * cb + 20 * cc + 20 ≤ 50000) (hm0 : 0 ≤ s.many) (hm : s.many + 2 * ca + 2 * cb + 2 * cc + 2 ≤ 50000) (k : Nat) (hk : k < cs.length) (hn : Co.row (cs.getD (Int.toNat (k : Int)) default) = n.row) :
    FunQ env.P 15 [.lp 0 0, .d (dI (k : Int)), .d (slotsD regs)] (mkO cs s 0) (outS cs s (cNode go n regs s) (.tup []) True) := by
  obtain ⟨op, a, b, c, num, val⟩ := n
  obtain rfl : op = 12 := hop
  have e : cNode go ⟨12, a, b, c, num, val⟩ regs s = cChoice go ⟨12, a, b, c, num, val⟩ regs s := rfl
  rw [e]
  have ha : GoS cs go a ca := ha
  have hb : GoS cs go b cb := hb
  have hc : GoS cs go c cc := hc
  refine FunQ.intro Try.func15 rfl (by kernel_rfl) rfl ?_
  unfold mkO
  repeat' (first | refine WG.ixeQ (E := env) (r := Co.row ⟨12, a, b, c, num, val⟩) rfl rfl rfl rfl rfl rfl rfl hn (by (first | exact trivial | (simp only [inRange, List.length_map]; omega) | omega | assumption)) ?_ | refine W.seq ?_ | refine W.rg ?_ | refine W.cond_true' ?_ | refine W.cond_false' ?_ | refine WG.nil ?_ | refine WG.run' (E := env) ?_ | refine W.block ?_ | refine W.skip ?_ | refine W.exit ?_ | (refine WG.mkS rfl rfl (l8Choice_fn hr rfl ha hb hc (by omega) (by omega) (by omega)) rfl rfl rfl ?_; intro w hw hF; skip))
  exact RetR.outS (.inr rfl) rfl (by first | trivial | exact resOK_of (E := env) rfl) rfl (by (try dsimp only at *); omega) trivial

set_option maxHeartbeats 8000000 in
theorem l8Node_14 (hr : regs.length = 60) (hop : n.op = 14) (hnum : 0 ≤ n.num ∧ n.num ≤ 59) {cb : Nat} (hnb : ∀ (regs : List Int) (s : Cst), s.near (go n.b regs s) (20 * cb) (2 * cb)) {ca : Nat} (ha : GoS cs go n.a ca) (hb : GoS cs go n.b cb) (hl : s.L.length + 20 * ca + 20 * cb + 20 ≤ 50000) (hm0 : 0 ≤ s.many) (hm : s.many + 2 * ca + 2 * cb + 2 ≤ 50000) (k : Nat) (hk : k < cs.length) (hn : Co.row (cs.getD (Int.toNat (k : Int)) default) = n.row) :
    FunQ env.P 15 [.lp 0 0, .d (dI (k : Int)), .d (slotsD regs)] (mkO cs s 0) (outS cs s (cNode go n regs s) (.tup []) True) := by
  obtain ⟨op, a, b, c, num, val⟩ := n
  obtain rfl : op = 14 := hop
  have e : cNode go ⟨14, a, b, c, num, val⟩ regs s = (go b (regs.set num.toNat s.many) ((go a regs (s.reg.put 1 0)).put 16 s.many)) := rfl
  rw [e]
  have ha : GoS cs go a ca := ha
  have hb : GoS cs go b cb := hb
  have hnum : 0 ≤ num ∧ num ≤ 59 := hnum
  have hnb : ∀ (regs : List Int) (s : Cst), s.near (go b regs s) (20 * cb) (2 * cb) := hnb
  have hwi := l8With_fn regs num s.many (by omega) (by omega)
  refine FunQ.intro Try.func15 rfl (by kernel_rfl) rfl ?_
  unfold mkO
  repeat' (first | refine WG.ixeQ (E := env) (r := Co.row ⟨14, a, b, c, num, val⟩) rfl rfl rfl rfl rfl rfl rfl hn (by (first | exact trivial | (simp only [inRange, List.length_map]; omega) | omega | assumption)) ?_ | (have hq := hb (regs.set num.toNat s.many) ((go a regs (s.reg.put 1 0)).put 16 s.many) (by rw [List.length_set]; exact hr) (by omega) (by omega) (by omega) ; obtain ⟨h1, h2, h3, h4⟩ := hnb (regs.set num.toNat s.many) ((go a regs (s.reg.put 1 0)).put 16 s.many) ; refine W.dre' (id := 45) [8] (fun f => bif bt f 1 then [.pv [.d (coresD cs), .og 1 (w + ((go b (regs.set num.toNat s.many) ((go a regs (s.reg.put 1 0)).put 16 s.many)).L.length - ((go a regs (s.reg.put 1 0)).put 16 s.many).L.length)), .d (dI (go b (regs.set num.toNat s.many) ((go a regs (s.reg.put 1 0)).put 16 s.many)).many)], .x (neI (rwI (go b (regs.set num.toNat s.many) ((go a regs (s.reg.put 1 0)).put 16 s.many))) none) (w + ((go b (regs.set num.toNat s.many) ((go a regs (s.reg.put 1 0)).put 16 s.many)).L.length - ((go a regs (s.reg.put 1 0)).put 16 s.many).L.length)), .pv ((Co.row ⟨14, a, b, c, num, val⟩).map .d)] else [.pv [.d (coresD cs), .og 1 w, .d (dI ((go a regs (s.reg.put 1 0)).put 16 s.many).many)], .x (neI (rwI ((go a regs (s.reg.put 1 0)).put 16 s.many)) none) w, .pv ((Co.row ⟨14, a, b, c, num, val⟩).map .d)]) [(0, [0]), (0, [0]), (0, [0]), (0, [0]), (0, [0]), (0, [0]), (0, [0]), (0, [0]), (1, [0])] [.pv [.d (coresD cs), .og 1 (w + ((go b (regs.set num.toNat s.many) ((go a regs (s.reg.put 1 0)).put 16 s.many)).L.length - ((go a regs (s.reg.put 1 0)).put 16 s.many).L.length)), .d (dI (go b (regs.set num.toNat s.many) ((go a regs (s.reg.put 1 0)).put 16 s.many)).many)], .x (neI (rwI (go b (regs.set num.toNat s.many) ((go a regs (s.reg.put 1 0)).put 16 s.many))) none) (w + ((go b (regs.set num.toNat s.many) ((go a regs (s.reg.put 1 0)).put 16 s.many)).L.length - ((go a regs (s.reg.put 1 0)).put 16 s.many).L.length)), .pv ((Co.row ⟨14, a, b, c, num, val⟩).map .d)] ?_) | refine WE.c' hwi ?_ | refine WE.mkd (.tup []) ?_ (.c (OpS1.cqM (E := env) (cap := []) [0, 1] [0, w] rfl rfl (justS_of hq) rfl rfl rfl rfl rfl rfl rfl ⟨rfl, rfl, trivial⟩ rfl rfl rfl) .n) | refine WE.nil ?_ | refine WE.ixP' ?_ | refine WE.s' (E := env) (t := .d _) ?_ | refine WE.p' ?_ | refine WE.px' ?_ | refine WE.s' (E := env) (t := .lp _ _) ?_ | refine WE.s' (E := env) (t := .og _ _) ?_ | refine WE.s' (E := env) (t := .ea _ _) ?_ | refine WE.s' (E := env) (t := .agg _) ?_ | refine WE.s' (E := env) (t := .tup _) ?_ | refine WE.ixm' (E := env) ?_ | refine WE.ixo' (E := env) ?_ | refine WE.leg' (E := env) ?_ | refine WE.slS' (E := env) ?_ | refine WE.slD' (E := env) ?_ | refine WE.ap' (E := env) ?_ | refine WE.st' (E := env) ?_ | refine WE.seg' (E := env) ?_ | refine WE.bs' (E := env) ?_ | refine W.seq ?_ | refine W.rg ?_ | refine W.cond_true' ?_ | refine W.cond_false' ?_ | refine WG.nil ?_ | refine WG.run' (E := env) ?_ | refine W.block ?_ | refine W.skip ?_ | refine W.exit ?_ | (refine WG.mkS rfl rfl (putS _ _ _ _ (by omega)) rfl rfl rfl ?_; intro w hw hF; obtain ⟨hL, hM⟩ := hF) | (refine WG.mkS rfl rfl (regS _ _ ⟨by omega, by omega⟩) rfl rfl rfl ?_; intro w hw hF; obtain ⟨hL, hM⟩ := hF) | (refine WG.mkS rfl rfl (ha regs _ hr (by omega) (by omega) (by omega)) rfl rfl rfl ?_; intro w hw hF; obtain ⟨h1, h2, h3, h4⟩ := hF))
  exact RetR.outS (.inr rfl) rfl (by first | trivial | exact resOK_of (E := env) rfl) rfl (by (try dsimp only at *); omega) trivial

set_option maxHeartbeats 8000000 in
theorem l8Node_13 (hr : regs.length = 60) (hop : n.op = 13) (hnum : 0 ≤ n.num ∧ n.num ≤ 59) {cc : Nat} (hnc : ∀ (regs : List Int) (s : Cst), s.near (go n.c regs s) (20 * cc) (2 * cc)) {ca cb : Nat} (ha : GoS cs go n.a ca) (hb : GoS cs go n.b cb) (hc : GoS cs go n.c cc) (hl : s.L.length + 20 * ca + 20 * cb + 20 * cc + 20 ≤ 50000) (hm0 : 0 ≤ s.many) (hm : s.many + 2 * ca + 2 * cb + 2 * cc + 2 ≤ 50000) (k : Nat) (hk : k < cs.length) (hn : Co.row (cs.getD (Int.toNat (k : Int)) default) = n.row) :
    FunQ env.P 15 [.lp 0 0, .d (dI (k : Int)), .d (slotsD regs)] (mkO cs s 0) (outS cs s (cNode go n regs s) (.tup []) True) := by
  obtain ⟨op, a, b, c, num, val⟩ := n
  obtain rfl : op = 13 := hop
  have e : cNode go ⟨13, a, b, c, num, val⟩ regs s = cRed go ⟨13, a, b, c, num, val⟩ regs s := rfl
  rw [e]
  have ha : GoS cs go a ca := ha
  have hb : GoS cs go b cb := hb
  have hc : GoS cs go c cc := hc
  refine FunQ.intro Try.func15 rfl (by kernel_rfl) rfl ?_
  unfold mkO
  repeat' (first | refine WG.ixeQ (E := env) (r := Co.row ⟨13, a, b, c, num, val⟩) rfl rfl rfl rfl rfl rfl rfl hn (by (first | exact trivial | (simp only [inRange, List.length_map]; omega) | omega | assumption)) ?_ | refine W.seq ?_ | refine W.rg ?_ | refine W.cond_true' ?_ | refine W.cond_false' ?_ | refine WG.nil ?_ | refine WG.run' (E := env) ?_ | refine W.block ?_ | refine W.skip ?_ | refine W.exit ?_ | (refine WG.mkS rfl rfl (l8Reduce_fn hr hnum hnc ha hb hc (by omega) (by omega) (by omega)) rfl rfl rfl ?_; intro w hw hF; skip))
  exact RetR.outS (.inr rfl) rfl (by first | trivial | exact resOK_of (E := env) rfl) rfl (by (try dsimp only at *); omega) trivial

set_option maxHeartbeats 8000000 in
theorem l8Node_5 (hr : regs.length = 60) (hop : n.op = 5) {ca cb : Nat} (ha : GoS cs go n.a ca) (hb : GoS cs go n.b cb) (hl : s.L.length + 20 * ca + 20 * cb + 20 ≤ 50000) (hm0 : 0 ≤ s.many) (hm : s.many + 2 * ca + 2 * cb + 2 ≤ 50000) (k : Nat) (hk : k < cs.length) (hn : Co.row (cs.getD (Int.toNat (k : Int)) default) = n.row) :
    FunQ env.P 15 [.lp 0 0, .d (dI (k : Int)), .d (slotsD regs)] (mkO cs s 0) (outS cs s (cNode go n regs s) (.tup []) True) := by
  obtain ⟨op, a, b, c, num, val⟩ := n
  obtain rfl : op = 5 := hop
  have e : cNode go ⟨5, a, b, c, num, val⟩ regs s = cAlt go ⟨5, a, b, c, num, val⟩ regs s := rfl
  rw [e]
  have ha : GoS cs go a ca := ha
  have hb : GoS cs go b cb := hb
  refine FunQ.intro Try.func15 rfl (by kernel_rfl) rfl ?_
  unfold mkO
  repeat' (first | refine WG.ixeQ (E := env) (r := Co.row ⟨5, a, b, c, num, val⟩) rfl rfl rfl rfl rfl rfl rfl hn (by (first | exact trivial | (simp only [inRange, List.length_map]; omega) | omega | assumption)) ?_ | refine W.seq ?_ | refine W.rg ?_ | refine W.cond_true' ?_ | refine W.cond_false' ?_ | refine WG.nil ?_ | refine WG.run' (E := env) ?_ | refine W.block ?_ | refine W.skip ?_ | refine W.exit ?_ | (refine WG.mkS rfl rfl (l8Alt_fn hr ha hb (by omega) (by omega) (by omega)) rfl rfl rfl ?_; intro w hw hF; skip))
  exact RetR.outS (.inr rfl) rfl (by first | trivial | exact resOK_of (E := env) rfl) rfl (by (try dsimp only at *); omega) trivial

end

end Go.Proofs.Ytmmjbpgdkokjgaa
