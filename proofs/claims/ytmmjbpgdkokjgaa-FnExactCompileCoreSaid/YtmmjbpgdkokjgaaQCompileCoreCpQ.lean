/-
  Making instructions of a core, by the program: nodes with values. Conditions: at most 50000 instructions.
-/
import Derived.Test.YtmmjbpgdkokjgaaQCompileCoreCp5
set_option linter.unusedVariables false
set_option linter.unusedSimpArgs false
set_option maxRecDepth 100000
namespace Go.Proofs.Ytmmjbpgdkokjgaa
open Go.RowKit

theorem cells_og {ob : List Ob} {k n : Nat} {X : ObX} (h : ob[k]? = some (.x X n)) : cellsT ob (.og k n) = some [.og k n] := by simp [cellsT, h]
theorem curs_og {ob : List Ob} {k n : Nat} {X : ObX} (h : ob[k]? = some (.x X n)) : cursT ob [.og k n] = true := by simp [cursT, curT, h]

section
variable {cs : List Co} {b : Nat} {go : Int → List Int → Cst → Cst} {n : Co} {regs : List Int} {s : Cst} {sl : List Int} {n2 : Nat} {m : Int → Option Int}

set_option maxHeartbeats 8000000 in
theorem cNode_2 (hr : regs.length = 60) (hkn : Kn sl regs m) (hop : n.op = 2) (hval : n.val.length ≤ 1048576)  (hl : s.L.length + 20 ≤ 50000) (hm0 : 0 ≤ s.many) (hm : s.many + 2 ≤ 50000) (hn2 : n2 + 2 ≤ 100000) (k : Nat) (hk : k < cs.length) (hn : Co.row (cs.getD (Int.toNat (k : Int)) default) = n.row) :
    FunQ env.P 19 [.lp 0 0, .d (dI (k : Int))] (mi3 cs s b 0 n2 m) (outN cs b s (cNode go n regs s) n2 (2) m True) := by
  have hex := Ex.refl m
  obtain ⟨op, a, b', c, num, val⟩ := n
  obtain rfl : op = 2 := hop
  have e : cNode go ⟨2, a, b', c, num, val⟩ regs s = (s.put 2 0).val 3 val := rfl
  rw [e]
  have hval : val.length ≤ 1048576 := hval
  have hcl := cloneL_fn val hval
  refine FunQ.intro Try.func19 rfl (by kernel_rfl) rfl ?_
  unfold mi3
  repeat' (first | refine WG.ixeQ (E := env) (r := Co.row ⟨2, a, b', c, num, val⟩) rfl rfl rfl rfl rfl rfl rfl hn (by (first | exact trivial | (simp only [inRange, List.length_map]; omega) | omega | assumption)) ?_ | refine W.dre' (id := 4) [7, 9, 10, 13] (fun f => bif bt f 8 then [.pv [.d (coresD cs), .og 1 (w + 1), .d (dI (s.put 2 0).many), imT b], .x (neI (rwI (s.put 2 0) ++ [⟨[dI 3, dI 0, .v undef], some (val.map Cell.row)⟩]) none) (w + 1), .x (imX env.P 2 b n2 m) 0, .pv ((Co.row ⟨2, a, b', c, num, val⟩).map .d), .dead] else bif bt f 4 then [.pv [.d (coresD cs), .og 1 w, .d (dI (s.put 2 0).many), imT b], .x (neI (rwI (s.put 2 0) ++ [⟨[dI 3, dI 0, .v undef], some (val.map Cell.row)⟩]) none) (w + 1), .x (imX env.P 2 b n2 m) 0, .pv ((Co.row ⟨2, a, b', c, num, val⟩).map .d), .dead] else bif bt f 2 then [.pv [.d (coresD cs), .og 1 w, .d (dI (s.put 2 0).many), imT b], .x (neI (rwI (s.put 2 0)) none) w, .x (imX env.P 2 b n2 m) 0, .pv ((Co.row ⟨2, a, b', c, num, val⟩).map .d), .x (neI [⟨[dI 3, dI 0, .v undef], some (val.map Cell.row)⟩] none) 1] else bif bt f 1 then [.pv [.d (coresD cs), .og 1 w, .d (dI (s.put 2 0).many), imT b], .x (neI (rwI (s.put 2 0)) none) w, .x (imX env.P 2 b n2 m) 0, .pv ((Co.row ⟨2, a, b', c, num, val⟩).map .d), .gr 5 81 (val.map Cell.row) 0 false] else [.pv [.d (coresD cs), .og 1 w, .d (dI (s.put 2 0).many), imT b], .x (neI (rwI (s.put 2 0)) none) w, .x (imX env.P 2 b n2 m) 0, .pv ((Co.row ⟨2, a, b', c, num, val⟩).map .d)]) [(0, [0, 1, 3, 7]), (0, [0, 1, 3]), (0, [0, 1, 3]), (0, [0, 1, 3]), (0, [0, 1, 3]), (0, [0]), (0, [0]), (1, [0]), (0, [1]), (2, [1]), (4, [3]), (0, [7]), (0, [7]), (8, [7])] [.pv [.d (coresD cs), .og 1 (w + 1), .d (dI (s.put 2 0).many), imT b], .x (neI (rwI (s.put 2 0) ++ [⟨[dI 3, dI 0, .v undef], some (val.map Cell.row)⟩]) none) (w + 1), .x (imX env.P 2 b n2 m) 0, .pv ((Co.row ⟨2, a, b', c, num, val⟩).map .d), .dead] ?_ | refine WE.mkd (.og 4 0) ?_ (.c (OpS1.coG (E := env) rfl rfl hcl rfl rfl rfl) .n) | refine WE.mkd (.og 4 1) ?_ (.c (OpS1.bsN (E := env) (j0 := 2) (K := 4) rfl rfl rfl rfl rfl rfl rfl rfl rfl rfl rfl rfl rfl rfl) .n) | refine WE.mkd (.og 1 (w + 1)) ?_ (.c (OpS1.apN (E := env) rfl rfl rfl rfl rfl rfl rfl rfl rfl rfl rfl rfl (by refine Nat.le_trans (Nat.mul_le_mul_right _ (m := 2097152) ?_) (Nat.le_of_ble_eq_true rfl); rw [rwI_len]; simp only [List.length_cons, List.length_nil]; omega) rfl) .n) | refine WE.bd' ?_ | refine WE.nil ?_ | refine WE.ixP' ?_ | refine WE.s' (E := env) (t := .d _) ?_ | refine WE.p' ?_ | refine WE.px' ?_ | refine WE.s' (E := env) (t := .lp _ _) ?_ | refine WE.s' (E := env) (t := .og _ _) ?_ | refine WE.s' (E := env) (t := .ea _ _) ?_ | refine WE.s' (E := env) (t := .agg _) ?_ | refine WE.s' (E := env) (t := .tup _) ?_ | refine WE.ixm' (E := env) ?_ | refine WE.ixo' (E := env) ?_ | refine WE.leg' (E := env) ?_ | refine WE.slS' (E := env) ?_ | refine WE.slD' (E := env) ?_ | refine WE.ap' (E := env) ?_ | refine WE.st' (E := env) ?_ | refine WE.seg' (E := env) ?_ | refine WE.bs' (E := env) ?_ | refine WE.mkx .any ?_ (.c (OpS1.st (E := env) (j := 0) (off := 1) (vals := [.og 1 (w + 1)]) rfl rfl rfl rfl (cells_og rfl) rfl rfl rfl (curs_og rfl) rfl) .n) | refine W.seq ?_ | refine W.rg ?_ | refine W.cond_true' ?_ | refine W.cond_false' ?_ | refine WG.nil ?_ | refine WG.run' (E := env) ?_ | refine W.block ?_ | refine W.skip ?_ | refine W.exit ?_ | (refine WG.miS rfl rfl (putI _ _ _ _ _ (by omega)) rfl rfl rfl ?_; intro w hw hF; obtain ⟨hL, hM⟩ := hF))
  rw [rwI_val (s.put 2 0) 3 val]
  have hvl := Cst.val_len (s.put 2 0) 3 val
  exact RetR.outN (.inr rfl) rfl (by first | trivial | exact resOK_of (E := env) rfl) rfl (by (try dsimp only at *); omega) (by omega) hex trivial

set_option maxHeartbeats 8000000 in
theorem cNode_11 (hr : regs.length = 60) (hkn : Kn sl regs m) (hop : n.op = 11) (hval : n.val.length ≤ 1048576) {ca cb : Nat} (ha : GoI cs b go n.a ca sl) (hb : GoI cs b go n.b cb sl) (hl : s.L.length + 20 * ca + 20 * cb + 20 ≤ 50000) (hm0 : 0 ≤ s.many) (hm : s.many + 2 * ca + 2 * cb + 2 ≤ 50000) (hn2 : n2 + 2 * ca + 2 * cb + 2 ≤ 100000) (k : Nat) (hk : k < cs.length) (hn : Co.row (cs.getD (Int.toNat (k : Int)) default) = n.row) :
    FunQ env.P 19 [.lp 0 0, .d (dI (k : Int))] (mi3 cs s b 0 n2 m) (outN cs b s (cNode go n regs s) n2 (2 * ca + 2 * cb + 2) m True) := by
  have hex := Ex.refl m
  obtain ⟨op, a, b', c, num, val⟩ := n
  obtain rfl : op = 11 := hop
  have e : cNode go ⟨11, a, b', c, num, val⟩ regs s = (cBoth go regs s a b').val 9 val := rfl
  rw [e]
  have ha : GoI cs b go a ca sl := ha
  have hb : GoI cs b go b' cb sl := hb
  have hval : val.length ≤ 1048576 := hval
  have hcl := cloneL_fn val hval
  refine FunQ.intro Try.func19 rfl (by kernel_rfl) rfl ?_
  unfold mi3
  repeat' (first | refine WG.ixeQ (E := env) (r := Co.row ⟨11, a, b', c, num, val⟩) rfl rfl rfl rfl rfl rfl rfl hn (by (first | exact trivial | (simp only [inRange, List.length_map]; omega) | omega | assumption)) ?_ | refine W.dre' (id := 30) [7, 9, 10, 13] (fun f => bif bt f 8 then [.pv [.d (coresD cs), .og 1 (w + 1), .d (dI (cBoth go regs s a b').many), imT b], .x (neI (rwI (cBoth go regs s a b') ++ [⟨[dI 9, dI 0, .v undef], some (val.map Cell.row)⟩]) none) (w + 1), .x (imX env.P 2 b nn mm) 0, .pv ((Co.row ⟨11, a, b', c, num, val⟩).map .d), .dead] else bif bt f 4 then [.pv [.d (coresD cs), .og 1 w, .d (dI (cBoth go regs s a b').many), imT b], .x (neI (rwI (cBoth go regs s a b') ++ [⟨[dI 9, dI 0, .v undef], some (val.map Cell.row)⟩]) none) (w + 1), .x (imX env.P 2 b nn mm) 0, .pv ((Co.row ⟨11, a, b', c, num, val⟩).map .d), .dead] else bif bt f 2 then [.pv [.d (coresD cs), .og 1 w, .d (dI (cBoth go regs s a b').many), imT b], .x (neI (rwI (cBoth go regs s a b')) none) w, .x (imX env.P 2 b nn mm) 0, .pv ((Co.row ⟨11, a, b', c, num, val⟩).map .d), .x (neI [⟨[dI 9, dI 0, .v undef], some (val.map Cell.row)⟩] none) 1] else bif bt f 1 then [.pv [.d (coresD cs), .og 1 w, .d (dI (cBoth go regs s a b').many), imT b], .x (neI (rwI (cBoth go regs s a b')) none) w, .x (imX env.P 2 b nn mm) 0, .pv ((Co.row ⟨11, a, b', c, num, val⟩).map .d), .gr 5 81 (val.map Cell.row) 0 false] else [.pv [.d (coresD cs), .og 1 w, .d (dI (cBoth go regs s a b').many), imT b], .x (neI (rwI (cBoth go regs s a b')) none) w, .x (imX env.P 2 b nn mm) 0, .pv ((Co.row ⟨11, a, b', c, num, val⟩).map .d)]) [(0, [0, 1, 3, 7]), (0, [0, 1, 3]), (0, [0, 1, 3]), (0, [0, 1, 3]), (0, [0, 1, 3]), (0, [0]), (0, [0]), (1, [0]), (0, [1]), (2, [1]), (4, [3]), (0, [7]), (0, [7]), (8, [7])] [.pv [.d (coresD cs), .og 1 (w + 1), .d (dI (cBoth go regs s a b').many), imT b], .x (neI (rwI (cBoth go regs s a b') ++ [⟨[dI 9, dI 0, .v undef], some (val.map Cell.row)⟩]) none) (w + 1), .x (imX env.P 2 b nn mm) 0, .pv ((Co.row ⟨11, a, b', c, num, val⟩).map .d), .dead] ?_ | refine WE.mkd (.og 4 0) ?_ (.c (OpS1.coG (E := env) rfl rfl hcl rfl rfl rfl) .n) | refine WE.mkd (.og 4 1) ?_ (.c (OpS1.bsN (E := env) (j0 := 2) (K := 4) rfl rfl rfl rfl rfl rfl rfl rfl rfl rfl rfl rfl rfl rfl) .n) | refine WE.mkd (.og 1 (w + 1)) ?_ (.c (OpS1.apN (E := env) rfl rfl rfl rfl rfl rfl rfl rfl rfl rfl rfl rfl (by refine Nat.le_trans (Nat.mul_le_mul_right _ (m := 2097152) ?_) (Nat.le_of_ble_eq_true rfl); rw [rwI_len]; simp only [List.length_cons, List.length_nil]; omega) rfl) .n) | refine WE.bd' ?_ | refine WE.nil ?_ | refine WE.ixP' ?_ | refine WE.s' (E := env) (t := .d _) ?_ | refine WE.p' ?_ | refine WE.px' ?_ | refine WE.s' (E := env) (t := .lp _ _) ?_ | refine WE.s' (E := env) (t := .og _ _) ?_ | refine WE.s' (E := env) (t := .ea _ _) ?_ | refine WE.s' (E := env) (t := .agg _) ?_ | refine WE.s' (E := env) (t := .tup _) ?_ | refine WE.ixm' (E := env) ?_ | refine WE.ixo' (E := env) ?_ | refine WE.leg' (E := env) ?_ | refine WE.slS' (E := env) ?_ | refine WE.slD' (E := env) ?_ | refine WE.ap' (E := env) ?_ | refine WE.st' (E := env) ?_ | refine WE.seg' (E := env) ?_ | refine WE.bs' (E := env) ?_ | refine WE.mkx .any ?_ (.c (OpS1.st (E := env) (j := 0) (off := 1) (vals := [.og 1 (w + 1)]) rfl rfl rfl rfl (cells_og rfl) rfl rfl rfl (curs_og rfl) rfl) .n) | refine W.seq ?_ | refine W.rg ?_ | refine W.cond_true' ?_ | refine W.cond_false' ?_ | refine WG.nil ?_ | refine WG.run' (E := env) ?_ | refine W.block ?_ | refine W.skip ?_ | refine W.exit ?_ | (refine WG.miN rfl rfl (cBoth_fn hr hkn ha hb (by omega) (by omega) (by omega) (by omega)) rfl rfl rfl ?_; intro w nn mm hw hnn hmm hF; obtain ⟨h1, h2, h3, h4⟩ := hF; have hkn := Kn.ext hkn hmm; have hex := Ex.trans hex hmm))
  rw [rwI_val (cBoth go regs s a b') 9 val]
  have hvl := Cst.val_len (cBoth go regs s a b') 9 val
  exact RetR.outN (.inr rfl) rfl (by first | trivial | exact resOK_of (E := env) rfl) rfl (by (try dsimp only at *); omega) (by omega) hex trivial

end

end Go.Proofs.Ytmmjbpgdkokjgaa
