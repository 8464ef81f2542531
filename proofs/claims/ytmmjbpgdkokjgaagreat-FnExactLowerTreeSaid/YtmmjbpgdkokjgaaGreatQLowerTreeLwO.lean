/-
  A node of a tree lowered, by the program, kind by kind. Conditions: at most 5000 nodes.
-/
import Derived.Test.YtmmjbpgdkokjgaaGreatQLowerTreeLwN
import Derived.Test.YtmmjbpgdkokjgaaGreatQLowerTreeMp3
set_option linter.unusedVariables false
set_option linter.unusedSimpArgs false
set_option maxRecDepth 100000
namespace Go.Proofs.YtmmjbpgdkokjgaaGreat
open Go.RowKit

theorem callOneI_fn {ns : List Nd} {n : Nd} {names : List ByteArray} {A : List ByteArray → Pt} {c : Nat} (t : ByteArray) (h : GoI ns n.a A c) (L : List Co) (hn : names.length + c ≤ 10000) (hl : L.length + 5 * c + 5 ≤ 5000) :
    FunQ env.P 52 [.lp 0 0, .d (dS t), .clo 39 [.lp 2 0, .lp 4 0, .lp 3 0]] (loI ns L 0 ++ envA names n) (just (.d (dI (plc ((oneP t (A names)).on L)))) (loI ns ((oneP t (A names)).on L) ((oneP t (A names)).count) ++ envA names n)) := by
  have hc := h.1 names
  by_cases h1 : t = selectS
  · subst h1
    exact callOneSel_fn ns n names (A names) L (lower1_fn h L hn (by omega)) (by omega)
  by_cases h2 : t = mapS
  · subst h2
    have q := Pt.on_length (.n1 8 (.lf 1 0)) L
    rw [n1_count, lf_count] at q
    exact callOneMap_fn ns n names (A names) L (lower1_fn h _ hn (by omega)) (by omega)
  · have := callOneRange_fn ns n names (A names) L t h1 h2 (lower1_fn h L hn (by omega)) (by omega)
    unfold oneP
    rw [if_neg h1, if_neg h2]
    exact this

theorem objectNil_fn : Fun env.P 45 [.sl 1 [], .sl 5 []] (.d (.agg (V.mk 6 0 noS [] []).rowP)) [] := objectP_fn [] [] rfl (fun _ h => by cases h) (Nat.zero_le _)
theorem cellsObj_fn : Fun env.P 76 [.agg (V.mk 6 0 noS [] []).rowP] (.og 0 0) [.gr 5 93 ((cellK 6).map Cell.row) 0 false] :=
  cellsP_fn 1 (V.mk 6 0 noS [] []) (by simp [V.count, V.counts]) (by omega) ⟨by decide, fun h => absurd rfl h, fun h => absurd rfl h, fun h => absurd rfl h, by decide, rfl, fun _ => rfl, fun _ => rfl, (fun _ h => by cases h), trivial, trivial⟩

theorem plainI_zero {op : Int} (h : plainM op = 0) : Fun env.P 37 [dI op] (.d (dI 0)) [] := by
  have := plainM_fn op
  rwa [h] at this

set_option maxHeartbeats 4000000 in
theorem lowerI_plain {ns : List Nd} {n : Nd} {k : Nat} {names : List ByteArray} {A B C : List ByteArray → Pt} {ca cb cc : Nat} {L : List Co} (hk : k < ns.length) (hat : ns.getD k default = n) (hop : 0 < plainM n.op) (hA : 1 ≤ arN n.op → GoI ns n.a A ca) (hB : 2 ≤ arN n.op → GoI ns n.b B cb) (hC : 3 ≤ arN n.op → GoI ns n.c C cc) (htx : n.op = 17 → okText n.text = true)
    (hnl : names.length + ((if 1 ≤ arN n.op then ca else 0) + (if 2 ≤ arN n.op then cb else 0) + (if 3 ≤ arN n.op then cc else 0) + 1) ≤ 10000) (hl : L.length + 5 * ((if 1 ≤ arN n.op then ca else 0) + (if 2 ≤ arN n.op then cb else 0) + (if 3 ≤ arN n.op then cc else 0) + 1) ≤ 5000) : FunQ env.P 18 [.lp 0 0, .d (dI k), .d (namesD names)] (loI ns L 0) (just (.d (dI (plc ((Pt.mk (plainN n names) ([A (inT n 0 names), B (inT n 1 names), C (inT n 2 names)].take (arN n.op))).on L)))) (loI ns ((Pt.mk (plainN n names) ([A (inT n 0 names), B (inT n 1 names), C (inT n 2 names)].take (arN n.op))).on L) (Pt.mk (plainN n names) ([A (inT n 0 names), B (inT n 1 names), C (inT n 2 names)].take (arN n.op))).count)) := by
  have hat' : ns.getD (Int.toNat (k : Int)) default = n := by simpa using hat
  have hp := plainI_fn hA hB hC htx L hnl hl
  have hpm := plainM_fn n.op
  generalize plainM n.op = p at *
  generalize Pt.mk (plainN n names) ([A (inT n 0 names), B (inT n 1 names), C (inT n 2 names)].take (arN n.op)) = X at *
  refine FunQ.intro Tryz.func18 rfl (by kernel_rfl) rfl ?_
  unfold Go.Proofs.YtmmjbpgdkokjgaaGreat.loI
  repeat (first | refine W.seq ?_ | refine W.rg ?_ | refine WG.nil ?_ | refine WG.run' (E := env) ?_ | refine WG.ixm' (E := env) ?_)
  rw [hat']
  repeat' (first | refine W.seq ?_ | refine W.rg ?_ | refine WG.nil ?_ | refine WG.run' (E := env) ?_ | refine WG.ixm' (E := env) ?_ | refine WG.loI rfl rfl hp rfl rfl ?_ | refine WG.c (E := env) rfl rfl (hpm) rfl rfl ?_ | ((refine W.cond' (fun h => ?_) fun h => ?_) <;> (try simp only [atS, List.length_map, beq_self_eq_true] at h) <;> (try (exfalso; first | contradiction | omega))))
  all_goals first | (exfalso; omega) | skip
  refine W.ret ?_
  exact RetR.loI (.inl rfl) rfl (by first | trivial | exact resOK_of (E := env) rfl) rfl rfl rfl (Nat.zero_add _) rfl _ (Nat.le_of_ble_eq_true rfl)

set_option maxHeartbeats 4000000 in
theorem lowerI_2 {ns : List Nd} {k : Nat} {names : List ByteArray} {a b c num : Int} {text : ByteArray} {L : List Co} (hk : k < ns.length) (hat : ns.getD k default = ⟨2, a, b, c, num, text⟩) (hnum : 0 ≤ num ∧ num ≤ 1000000000000000) (hl : L.length + 5 ≤ 5000) : FunQ env.P 18 [.lp 0 0, .d (dI k), .d (namesD names)] (loI ns L 0) (just (.d (dI (plc ((Pt.cv (cellN num)).on L)))) (loI ns ((Pt.cv (cellN num)).on L) (Pt.cv (cellN num)).count)) := by
  have hat' : ns.getD (Int.toNat (k : Int)) default = ⟨2, a, b, c, num, text⟩ := by simpa using hat
  have hpm : Fun env.P 37 [dI 2] (.d (dI 0)) [] := plainI_zero rfl
  have hk := constI_fn ns L (V.mk 3 num noS [] []) (cellN num) (cellsNum_fn num hnum) (by omega)
  have hv := numberP_fn num
  refine FunQ.intro Tryz.func18 rfl (by kernel_rfl) rfl ?_
  unfold Go.Proofs.YtmmjbpgdkokjgaaGreat.loI
  repeat (first | refine W.seq ?_ | refine W.rg ?_ | refine W.block ?_ | refine W.skip ?_ | refine W.cond_true' ?_ | refine W.cond_false' ?_ | refine WG.nil ?_ | refine WG.run' (E := env) ?_ | refine WG.ixm' (E := env) ?_)
  rw [hat']
  repeat' (first | refine W.dre' (id := 9) [4] (fun f => bif bt f 1 then [.pv [.d (nodesD ns), .og 1 (0 + 1)], .x (neC (((Pt.cv (cellN num)).on L).map coN) none) (0 + 1), .pv [.lp 0 0], .pv [.d (namesD names)], .pv ((⟨2, a, b, c, num, text⟩ : Nd).row.map .d), .pv [.clo 40 [.lp 2 0, .lp 4 0, .lp 3 0]]] else [.pv [.d (nodesD ns), .og 1 (0)], .x (neC (L.map coN) none) (0), .pv [.lp 0 0], .pv [.d (namesD names)], .pv ((⟨2, a, b, c, num, text⟩ : Nd).row.map .d), .pv [.clo 40 [.lp 2 0, .lp 4 0, .lp 3 0]]]) [(0, [0]), (0, [0]), (0, [0]), (0, [0]), (1, [0]), (0, [1])] [.pv [.d (nodesD ns), .og 1 (0 + 1)], .x (neC (((Pt.cv (cellN num)).on L).map coN) none) (0 + 1), .pv [.lp 0 0], .pv [.d (namesD names)], .pv ((⟨2, a, b, c, num, text⟩ : Nd).row.map .d), .pv [.clo 40 [.lp 2 0, .lp 4 0, .lp 3 0]]] ?_ | refine WE.nil ?_ | refine WE.s' (E := env) (t := .d _) ?_ | refine WE.s' (E := env) (t := .lp _ _) ?_ | refine WE.s' (E := env) (t := .og _ _) ?_ | refine WE.s' (E := env) (t := .ea _ _) ?_ | refine WE.s' (E := env) (t := .agg _) ?_ | refine WE.s' (E := env) (t := .tup _) ?_ | refine WE.c' hv ?_ | refine WE.mkd (.d (dI (plc ((Pt.cv (cellN num)).on L)))) ?_ (.c (OpS1.cqM (E := env) [0, 1] [0, 0] rfl rfl hk rfl rfl rfl rfl rfl rfl rfl ⟨rfl, rfl, trivial⟩ rfl rfl rfl) .n) | refine W.seq ?_ | refine W.rg ?_ | refine W.block ?_ | refine W.skip ?_ | refine W.cond_true' ?_ | refine W.cond_false' ?_ | refine WG.nil ?_ | refine WG.run' (E := env) ?_ | refine WG.ixm' (E := env) ?_ | refine WG.c (E := env) rfl rfl (hpm) rfl rfl ?_)
  refine W.ret ?_
  exact RetR.loI (.inl rfl) rfl (by first | trivial | exact resOK_of (E := env) rfl) rfl rfl rfl rfl rfl _ (Nat.le_of_ble_eq_true rfl)

set_option maxHeartbeats 4000000 in
theorem lowerI_3 {ns : List Nd} {k : Nat} {names : List ByteArray} {a b c num : Int} {text : ByteArray} {L : List Co} (hk : k < ns.length) (hat : ns.getD k default = ⟨3, a, b, c, num, text⟩) (htx : okText text = true) (hl : L.length + 5 ≤ 5000) : FunQ env.P 18 [.lp 0 0, .d (dI k), .d (namesD names)] (loI ns L 0) (just (.d (dI (plc ((Pt.cv (cellT text)).on L)))) (loI ns ((Pt.cv (cellT text)).on L) (Pt.cv (cellT text)).count)) := by
  have hat' : ns.getD (Int.toNat (k : Int)) default = ⟨3, a, b, c, num, text⟩ := by simpa using hat
  have hpm : Fun env.P 37 [dI 3] (.d (dI 0)) [] := plainI_zero rfl
  have hk := constI_fn ns L (V.mk 4 0 text [] []) (cellT text) (cellsTxt_fn text htx) (by omega)
  have hv := textLw_fn text
  refine FunQ.intro Tryz.func18 rfl (by kernel_rfl) rfl ?_
  unfold Go.Proofs.YtmmjbpgdkokjgaaGreat.loI
  repeat (first | refine W.seq ?_ | refine W.rg ?_ | refine W.block ?_ | refine W.skip ?_ | refine W.cond_true' ?_ | refine W.cond_false' ?_ | refine WG.nil ?_ | refine WG.run' (E := env) ?_ | refine WG.ixm' (E := env) ?_)
  rw [hat']
  repeat' (first | refine W.dre' (id := 11) [4] (fun f => bif bt f 1 then [.pv [.d (nodesD ns), .og 1 (0 + 1)], .x (neC (((Pt.cv (cellT text)).on L).map coN) none) (0 + 1), .pv [.lp 0 0], .pv [.d (namesD names)], .pv ((⟨3, a, b, c, num, text⟩ : Nd).row.map .d), .pv [.clo 40 [.lp 2 0, .lp 4 0, .lp 3 0]]] else [.pv [.d (nodesD ns), .og 1 (0)], .x (neC (L.map coN) none) (0), .pv [.lp 0 0], .pv [.d (namesD names)], .pv ((⟨3, a, b, c, num, text⟩ : Nd).row.map .d), .pv [.clo 40 [.lp 2 0, .lp 4 0, .lp 3 0]]]) [(0, [0]), (0, [0]), (0, [0]), (0, [0]), (1, [0]), (0, [1])] [.pv [.d (nodesD ns), .og 1 (0 + 1)], .x (neC (((Pt.cv (cellT text)).on L).map coN) none) (0 + 1), .pv [.lp 0 0], .pv [.d (namesD names)], .pv ((⟨3, a, b, c, num, text⟩ : Nd).row.map .d), .pv [.clo 40 [.lp 2 0, .lp 4 0, .lp 3 0]]] ?_ | refine WE.nil ?_ | refine WE.s' (E := env) (t := .d _) ?_ | refine WE.s' (E := env) (t := .lp _ _) ?_ | refine WE.s' (E := env) (t := .og _ _) ?_ | refine WE.s' (E := env) (t := .ea _ _) ?_ | refine WE.s' (E := env) (t := .agg _) ?_ | refine WE.s' (E := env) (t := .tup _) ?_ | refine WE.c' hv ?_ | refine WE.mkd (.d (dI (plc ((Pt.cv (cellT text)).on L)))) ?_ (.c (OpS1.cqM (E := env) [0, 1] [0, 0] rfl rfl hk rfl rfl rfl rfl rfl rfl rfl ⟨rfl, rfl, trivial⟩ rfl rfl rfl) .n) | refine W.seq ?_ | refine W.rg ?_ | refine W.block ?_ | refine W.skip ?_ | refine W.cond_true' ?_ | refine W.cond_false' ?_ | refine WG.nil ?_ | refine WG.run' (E := env) ?_ | refine WG.ixm' (E := env) ?_ | refine WG.c (E := env) rfl rfl (hpm) rfl rfl ?_)
  refine W.ret ?_
  exact RetR.loI (.inl rfl) rfl (by first | trivial | exact resOK_of (E := env) rfl) rfl rfl rfl rfl rfl _ (Nat.le_of_ble_eq_true rfl)

set_option maxHeartbeats 4000000 in
theorem lowerI_4 {ns : List Nd} {k : Nat} {names : List ByteArray} {a b c num : Int} {text : ByteArray} {L : List Co} (hk : k < ns.length) (hat : ns.getD k default = ⟨4, a, b, c, num, text⟩) (hnum : 0 ≤ num ∧ num ≤ 2) (hl : L.length + 5 ≤ 5000) : FunQ env.P 18 [.lp 0 0, .d (dI k), .d (namesD names)] (loI ns L 0) (just (.d (dI (plc ((Pt.cv (cellK num)).on L)))) (loI ns ((Pt.cv (cellK num)).on L) (Pt.cv (cellK num)).count)) := by
  have hat' : ns.getD (Int.toNat (k : Int)) default = ⟨4, a, b, c, num, text⟩ := by simpa using hat
  have hpm : Fun env.P 37 [dI 4] (.d (dI 0)) [] := plainI_zero rfl
  have hk := constI_fn ns L (V.mk num 0 noS [] []) (cellK num) (cellsLeaf_fn num (by omega)) (by omega)
  refine FunQ.intro Tryz.func18 rfl (by kernel_rfl) rfl ?_
  unfold Go.Proofs.YtmmjbpgdkokjgaaGreat.loI
  repeat (first | refine W.seq ?_ | refine W.rg ?_ | refine W.block ?_ | refine W.skip ?_ | refine W.cond_true' ?_ | refine W.cond_false' ?_ | refine WG.nil ?_ | refine WG.run' (E := env) ?_ | refine WG.ixm' (E := env) ?_)
  rw [hat']
  repeat' (first | refine W.seq ?_ | refine W.rg ?_ | refine W.block ?_ | refine W.skip ?_ | refine W.cond_true' ?_ | refine W.cond_false' ?_ | refine WG.nil ?_ | refine WG.run' (E := env) ?_ | refine WG.ixm' (E := env) ?_ | refine WG.loI rfl rfl hk rfl rfl ?_ | refine WG.c (E := env) rfl rfl (hpm) rfl rfl ?_)
  refine W.ret ?_
  exact RetR.loI (.inl rfl) rfl (by first | trivial | exact resOK_of (E := env) rfl) rfl rfl rfl rfl rfl _ (Nat.le_of_ble_eq_true rfl)

set_option maxHeartbeats 4000000 in
theorem lowerI_15 {ns : List Nd} {k : Nat} {names : List ByteArray} {a b c num : Int} {text : ByteArray} {L : List Co} (hk : k < ns.length) (hat : ns.getD k default = ⟨15, a, b, c, num, text⟩) (hl : L.length + 5 ≤ 5000) : FunQ env.P 18 [.lp 0 0, .d (dI k), .d (namesD names)] (loI ns L 0) (just (.d (dI (plc ((Pt.cv (cellK 5)).on L)))) (loI ns ((Pt.cv (cellK 5)).on L) (Pt.cv (cellK 5)).count)) := by
  have hat' : ns.getD (Int.toNat (k : Int)) default = ⟨15, a, b, c, num, text⟩ := by simpa using hat
  have hpm : Fun env.P 37 [dI 15] (.d (dI 0)) [] := plainI_zero rfl
  have hk := constI_fn ns L (V.mk 5 0 noS [] []) (cellK 5) (cellsLeaf_fn 5 (by decide)) (by omega)
  have hv := arrayP_fn []
  refine FunQ.intro Tryz.func18 rfl (by kernel_rfl) rfl ?_
  unfold Go.Proofs.YtmmjbpgdkokjgaaGreat.loI
  repeat (first | refine W.seq ?_ | refine W.rg ?_ | refine W.block ?_ | refine W.skip ?_ | refine W.cond_true' ?_ | refine W.cond_false' ?_ | refine WG.nil ?_ | refine WG.run' (E := env) ?_ | refine WG.ixm' (E := env) ?_)
  rw [hat']
  repeat' (first | refine W.dre' (id := 15) [2] (fun f => bif bt f 1 then [.pv [.d (nodesD ns), .og 1 (0 + 1)], .x (neC (((Pt.cv (cellK 5)).on L).map coN) none) (0 + 1), .pv [.lp 0 0], .pv [.d (namesD names)], .pv ((⟨15, a, b, c, num, text⟩ : Nd).row.map .d), .pv [.clo 40 [.lp 2 0, .lp 4 0, .lp 3 0]]] else [.pv [.d (nodesD ns), .og 1 (0)], .x (neC (L.map coN) none) (0), .pv [.lp 0 0], .pv [.d (namesD names)], .pv ((⟨15, a, b, c, num, text⟩ : Nd).row.map .d), .pv [.clo 40 [.lp 2 0, .lp 4 0, .lp 3 0]]]) [(0, [0]), (0, [0]), (1, [0]), (0, [1])] [.pv [.d (nodesD ns), .og 1 (0 + 1)], .x (neC (((Pt.cv (cellK 5)).on L).map coN) none) (0 + 1), .pv [.lp 0 0], .pv [.d (namesD names)], .pv ((⟨15, a, b, c, num, text⟩ : Nd).row.map .d), .pv [.clo 40 [.lp 2 0, .lp 4 0, .lp 3 0]]] ?_ | refine WE.nil ?_ | refine WE.s' (E := env) (t := .d _) ?_ | refine WE.s' (E := env) (t := .lp _ _) ?_ | refine WE.s' (E := env) (t := .og _ _) ?_ | refine WE.s' (E := env) (t := .ea _ _) ?_ | refine WE.s' (E := env) (t := .agg _) ?_ | refine WE.s' (E := env) (t := .tup _) ?_ | refine WE.c' hv ?_ | refine WE.mkd (.d (dI (plc ((Pt.cv (cellK 5)).on L)))) ?_ (.c (OpS1.cqM (E := env) [0, 1] [0, 0] rfl rfl hk rfl rfl rfl rfl rfl rfl rfl ⟨rfl, rfl, trivial⟩ rfl rfl rfl) .n) | refine W.seq ?_ | refine W.rg ?_ | refine W.block ?_ | refine W.skip ?_ | refine W.cond_true' ?_ | refine W.cond_false' ?_ | refine WG.nil ?_ | refine WG.run' (E := env) ?_ | refine WG.ixm' (E := env) ?_ | refine WG.c (E := env) rfl rfl (hpm) rfl rfl ?_)
  refine W.ret ?_
  exact RetR.loI (.inl rfl) rfl (by first | trivial | exact resOK_of (E := env) rfl) rfl rfl rfl rfl rfl _ (Nat.le_of_ble_eq_true rfl)

set_option maxHeartbeats 4000000 in
theorem lowerI_16 {ns : List Nd} {k : Nat} {names : List ByteArray} {a b c num : Int} {text : ByteArray} {L : List Co} (hk : k < ns.length) (hat : ns.getD k default = ⟨16, a, b, c, num, text⟩) (hl : L.length + 5 ≤ 5000) : FunQ env.P 18 [.lp 0 0, .d (dI k), .d (namesD names)] (loI ns L 0) (just (.d (dI (plc ((Pt.cv (cellK 6)).on L)))) (loI ns ((Pt.cv (cellK 6)).on L) (Pt.cv (cellK 6)).count)) := by
  have hat' : ns.getD (Int.toNat (k : Int)) default = ⟨16, a, b, c, num, text⟩ := by simpa using hat
  have hpm : Fun env.P 37 [dI 16] (.d (dI 0)) [] := plainI_zero rfl
  have hk := constI_fn ns L (V.mk 6 0 noS [] []) (cellK 6) cellsObj_fn (by omega)
  have hv := objectNil_fn
  refine FunQ.intro Tryz.func18 rfl (by kernel_rfl) rfl ?_
  unfold Go.Proofs.YtmmjbpgdkokjgaaGreat.loI
  repeat (first | refine W.seq ?_ | refine W.rg ?_ | refine W.block ?_ | refine W.skip ?_ | refine W.cond_true' ?_ | refine W.cond_false' ?_ | refine WG.nil ?_ | refine WG.run' (E := env) ?_ | refine WG.ixm' (E := env) ?_)
  rw [hat']
  repeat' (first | refine W.dre' (id := 17) [2] (fun f => bif bt f 1 then [.pv [.d (nodesD ns), .og 1 (0 + 1)], .x (neC (((Pt.cv (cellK 6)).on L).map coN) none) (0 + 1), .pv [.lp 0 0], .pv [.d (namesD names)], .pv ((⟨16, a, b, c, num, text⟩ : Nd).row.map .d), .pv [.clo 40 [.lp 2 0, .lp 4 0, .lp 3 0]]] else [.pv [.d (nodesD ns), .og 1 (0)], .x (neC (L.map coN) none) (0), .pv [.lp 0 0], .pv [.d (namesD names)], .pv ((⟨16, a, b, c, num, text⟩ : Nd).row.map .d), .pv [.clo 40 [.lp 2 0, .lp 4 0, .lp 3 0]]]) [(0, [0]), (0, [0]), (1, [0]), (0, [1])] [.pv [.d (nodesD ns), .og 1 (0 + 1)], .x (neC (((Pt.cv (cellK 6)).on L).map coN) none) (0 + 1), .pv [.lp 0 0], .pv [.d (namesD names)], .pv ((⟨16, a, b, c, num, text⟩ : Nd).row.map .d), .pv [.clo 40 [.lp 2 0, .lp 4 0, .lp 3 0]]] ?_ | refine WE.nil ?_ | refine WE.s' (E := env) (t := .d _) ?_ | refine WE.s' (E := env) (t := .lp _ _) ?_ | refine WE.s' (E := env) (t := .og _ _) ?_ | refine WE.s' (E := env) (t := .ea _ _) ?_ | refine WE.s' (E := env) (t := .agg _) ?_ | refine WE.s' (E := env) (t := .tup _) ?_ | refine WE.c' hv ?_ | refine WE.mkd (.d (dI (plc ((Pt.cv (cellK 6)).on L)))) ?_ (.c (OpS1.cqM (E := env) [0, 1] [0, 0] rfl rfl hk rfl rfl rfl rfl rfl rfl rfl ⟨rfl, rfl, trivial⟩ rfl rfl rfl) .n) | refine W.seq ?_ | refine W.rg ?_ | refine W.block ?_ | refine W.skip ?_ | refine W.cond_true' ?_ | refine W.cond_false' ?_ | refine WG.nil ?_ | refine WG.run' (E := env) ?_ | refine WG.ixm' (E := env) ?_ | refine WG.c (E := env) rfl rfl (hpm) rfl rfl ?_)
  refine W.ret ?_
  exact RetR.loI (.inl rfl) rfl (by first | trivial | exact resOK_of (E := env) rfl) rfl rfl rfl rfl rfl _ (Nat.le_of_ble_eq_true rfl)

set_option maxHeartbeats 4000000 in
theorem lowerI_24 {ns : List Nd} {k : Nat} {names : List ByteArray} {a b c num : Int} {text : ByteArray} {L : List Co} (hk : k < ns.length) (hat : ns.getD k default = ⟨24, a, b, c, num, text⟩) (hl : L.length + 5 ≤ 5000) : FunQ env.P 18 [.lp 0 0, .d (dI k), .d (namesD names)] (loI ns L 0) (just (.d (dI (plc ((Pt.n1 8 (.lf 16 7)).on L)))) (loI ns ((Pt.n1 8 (.lf 16 7)).on L) (Pt.n1 8 (.lf 16 7)).count)) := by
  have hat' : ns.getD (Int.toNat (k : Int)) default = ⟨24, a, b, c, num, text⟩ := by simpa using hat
  have hpm : Fun env.P 37 [dI 24] (.d (dI 0)) [] := plainI_zero rfl
  have q1 := Pt.on_length (.lf 16 7) L
  rw [lf_count] at q1
  have h1 := doI_fn ns L 7 (by omega)
  have h2 := eachI_fn ns L (.lf 16 7) (by omega)
  refine FunQ.intro Tryz.func18 rfl (by kernel_rfl) rfl ?_
  unfold Go.Proofs.YtmmjbpgdkokjgaaGreat.loI
  repeat (first | refine W.seq ?_ | refine W.rg ?_ | refine W.block ?_ | refine W.skip ?_ | refine W.cond_true' ?_ | refine W.cond_false' ?_ | refine WG.nil ?_ | refine WG.run' (E := env) ?_ | refine WG.ixm' (E := env) ?_)
  rw [hat']
  repeat' (first | refine W.dre' (id := 19) [2, 3] (fun f => bif bt f 2 then [.pv [.d (nodesD ns), .og 1 (0 + 1 + 1)], .x (neC (((Pt.n1 8 (.lf 16 7)).on L).map coN) none) (0 + 1 + 1), .pv [.lp 0 0], .pv [.d (namesD names)], .pv ((⟨24, a, b, c, num, text⟩ : Nd).row.map .d), .pv [.clo 40 [.lp 2 0, .lp 4 0, .lp 3 0]]] else bif bt f 1 then [.pv [.d (nodesD ns), .og 1 (0 + 1)], .x (neC (((Pt.lf 16 7).on L).map coN) none) (0 + 1), .pv [.lp 0 0], .pv [.d (namesD names)], .pv ((⟨24, a, b, c, num, text⟩ : Nd).row.map .d), .pv [.clo 40 [.lp 2 0, .lp 4 0, .lp 3 0]]] else [.pv [.d (nodesD ns), .og 1 (0)], .x (neC (L.map coN) none) (0), .pv [.lp 0 0], .pv [.d (namesD names)], .pv ((⟨24, a, b, c, num, text⟩ : Nd).row.map .d), .pv [.clo 40 [.lp 2 0, .lp 4 0, .lp 3 0]]]) [(0, [0, 1]), (0, [0]), (1, [0]), (2, [1]), (0, [3])] [.pv [.d (nodesD ns), .og 1 (0 + 1 + 1)], .x (neC (((Pt.n1 8 (.lf 16 7)).on L).map coN) none) (0 + 1 + 1), .pv [.lp 0 0], .pv [.d (namesD names)], .pv ((⟨24, a, b, c, num, text⟩ : Nd).row.map .d), .pv [.clo 40 [.lp 2 0, .lp 4 0, .lp 3 0]]] ?_ | refine WE.nil ?_ | refine WE.s' (E := env) (t := .d _) ?_ | refine WE.s' (E := env) (t := .lp _ _) ?_ | refine WE.s' (E := env) (t := .og _ _) ?_ | refine WE.s' (E := env) (t := .ea _ _) ?_ | refine WE.s' (E := env) (t := .agg _) ?_ | refine WE.s' (E := env) (t := .tup _) ?_ | refine WE.mkd (.d (dI (plc ((Pt.lf 16 7).on L)))) ?_ (.c (OpS1.cqM (E := env) [0, 1] [0, 0] rfl rfl h1 rfl rfl rfl rfl rfl rfl rfl ⟨rfl, rfl, trivial⟩ rfl rfl rfl) .n) | refine WE.mkd (.d (dI (plc ((Pt.n1 8 (.lf 16 7)).on L)))) ?_ (.c (OpS1.cqM (E := env) [0, 1] [0, 0 + 1] rfl rfl h2 rfl rfl rfl rfl rfl rfl rfl ⟨rfl, rfl, trivial⟩ rfl rfl rfl) .n) | refine W.seq ?_ | refine W.rg ?_ | refine W.block ?_ | refine W.skip ?_ | refine W.cond_true' ?_ | refine W.cond_false' ?_ | refine WG.nil ?_ | refine WG.run' (E := env) ?_ | refine WG.ixm' (E := env) ?_ | refine WG.c (E := env) rfl rfl (hpm) rfl rfl ?_)
  refine W.ret ?_
  exact RetR.loI (.inl rfl) rfl (by first | trivial | exact resOK_of (E := env) rfl) rfl rfl rfl rfl rfl _ (Nat.le_of_ble_eq_true rfl)

set_option maxHeartbeats 4000000 in
theorem lowerI_8 {ns : List Nd} {k : Nat} {names : List ByteArray} {a b c num : Int} {text : ByteArray} {L : List Co} (hk : k < ns.length) (hat : ns.getD k default = ⟨8, a, b, c, num, text⟩) {A B : List ByteArray → Pt} {ca cb : Nat} (hA : GoI ns a A ca) (hB : GoI ns b B cb) (hn : names.length + (ca + cb + 1) ≤ 10000) (hl : L.length + 5 * (ca + cb + 1) ≤ 5000) : FunQ env.P 18 [.lp 0 0, .d (dI k), .d (namesD names)] (loI ns L 0) (just (.d (dI (plc ((Pt.n3 12 0 (A names) (truP true) (Pt.n3 12 0 (B names) (truP true) (truP false))).on L)))) (loI ns ((Pt.n3 12 0 (A names) (truP true) (Pt.n3 12 0 (B names) (truP true) (truP false))).on L) (Pt.n3 12 0 (A names) (truP true) (Pt.n3 12 0 (B names) (truP true) (truP false))).count)) := by
  have hat' : ns.getD (Int.toNat (k : Int)) default = ⟨8, a, b, c, num, text⟩ := by simpa using hat
  have hpm : Fun env.P 37 [dI 8] (.d (dI 0)) [] := plainI_zero rfl
  have c1 := hA.1 names
  have c2 := hB.1 names
  have q1 := Pt.on_length (A names) L
  have q2 := Pt.on_length (truP true) ((A names).on L)
  have q3 := Pt.on_length (Pt.n3 12 0 (B names) (truP true) (truP false)) ((truP true).on ((A names).on L))
  rw [tru_count] at q2
  rw [n3_count, tru_count, tru_count] at q3
  have hch := choiceOr_fn ns names ⟨8, a, b, c, num, text⟩ L (A names) (truP true) (Pt.n3 12 0 (B names) (truP true) (truP false)) (lower1_fn (n := ⟨8, a, b, c, num, text⟩) hA L (by omega) (by omega)) (truthK_fn ns _ true (by omega)) (lower3_fn (n := ⟨8, a, b, c, num, text⟩) hB _ (by omega) (by omega)) (by omega)
  refine FunQ.intro Tryz.func18 rfl (by kernel_rfl) rfl ?_
  unfold Go.Proofs.YtmmjbpgdkokjgaaGreat.loI
  repeat (first | refine W.seq ?_ | refine W.rg ?_ | refine W.block ?_ | refine W.skip ?_ | refine W.cond_true' ?_ | refine W.cond_false' ?_ | refine WG.nil ?_ | refine WG.run' (E := env) ?_ | refine WG.ixm' (E := env) ?_)
  rw [hat']
  repeat' (first | refine W.dre' (id := 21) [3, 5] (fun f => bif bt f 2 then [.pv [.d (nodesD ns), .og 1 (0 + (Pt.n3 12 0 (A names) (truP true) (Pt.n3 12 0 (B names) (truP true) (truP false))).count)], .x (neC (((Pt.n3 12 0 (A names) (truP true) (Pt.n3 12 0 (B names) (truP true) (truP false))).on L).map coN) none) (0 + (Pt.n3 12 0 (A names) (truP true) (Pt.n3 12 0 (B names) (truP true) (truP false))).count), .pv [.lp 0 0], .pv [.d (namesD names)], .pv ((⟨8, a, b, c, num, text⟩ : Nd).row.map .d), .pv [.clo 40 [.lp 2 0, .lp 4 0, .lp 3 0]], .pv [.lp 0 0], .pv [.d (dB true)]] else bif bt f 1 then [.pv [.d (nodesD ns), .og 1 (0)], .x (neC (L.map coN) none) (0), .pv [.lp 0 0], .pv [.d (namesD names)], .pv ((⟨8, a, b, c, num, text⟩ : Nd).row.map .d), .pv [.clo 40 [.lp 2 0, .lp 4 0, .lp 3 0]], .pv [.lp 0 0], .pv [.d (dB true)]] else [.pv [.d (nodesD ns), .og 1 (0)], .x (neC (L.map coN) none) (0), .pv [.lp 0 0], .pv [.d (namesD names)], .pv ((⟨8, a, b, c, num, text⟩ : Nd).row.map .d), .pv [.clo 40 [.lp 2 0, .lp 4 0, .lp 3 0]]]) [(0, [0, 1]), (0, [0, 1]), (0, [0]), (1, [0]), (0, [0, 1]), (2, [1]), (0, [3])] [.pv [.d (nodesD ns), .og 1 (0 + (Pt.n3 12 0 (A names) (truP true) (Pt.n3 12 0 (B names) (truP true) (truP false))).count)], .x (neC (((Pt.n3 12 0 (A names) (truP true) (Pt.n3 12 0 (B names) (truP true) (truP false))).on L).map coN) none) (0 + (Pt.n3 12 0 (A names) (truP true) (Pt.n3 12 0 (B names) (truP true) (truP false))).count), .pv [.lp 0 0], .pv [.d (namesD names)], .pv ((⟨8, a, b, c, num, text⟩ : Nd).row.map .d), .pv [.clo 40 [.lp 2 0, .lp 4 0, .lp 3 0]], .pv [.lp 0 0], .pv [.d (dB true)]] ?_ | refine WE.nil ?_ | refine WE.s' (E := env) (t := .d _) ?_ | refine WE.s' (E := env) (t := .lp _ _) ?_ | refine WE.s' (E := env) (t := .og _ _) ?_ | refine WE.s' (E := env) (t := .ea _ _) ?_ | refine WE.s' (E := env) (t := .agg _) ?_ | refine WE.s' (E := env) (t := .tup _) ?_ | refine WE.s' (E := env) (t := .clo _ _) ?_ | refine WE.mkd (.clo 79 [.lp 6 0, .lp 7 0]) ?_ (.c (OpS1.cqM (E := env) [0, 1] [0, 0] rfl rfl (truthC_fn ns L true) rfl rfl rfl rfl rfl rfl rfl ⟨rfl, rfl, trivial⟩ rfl rfl rfl) .n) | refine WE.mkd (.d (dI (plc ((Pt.n3 12 0 (A names) (truP true) (Pt.n3 12 0 (B names) (truP true) (truP false))).on L)))) ?_ (.c (OpS1.cqM (E := env) [0, 1, 2, 3, 4, 5, 6, 7] [0, 0, 0, 0, 0, 0, 0, 0] rfl rfl hch rfl rfl rfl rfl rfl rfl rfl ⟨rfl, rfl, rfl, rfl, rfl, rfl, rfl, rfl, trivial⟩ rfl rfl rfl) .n) | refine W.seq ?_ | refine W.rg ?_ | refine W.block ?_ | refine W.skip ?_ | refine W.cond_true' ?_ | refine W.cond_false' ?_ | refine WG.nil ?_ | refine WG.run' (E := env) ?_ | refine WG.ixm' (E := env) ?_ | refine WG.c (E := env) rfl rfl (hpm) rfl rfl ?_)
  refine W.ret ?_
  exact RetR.loI (.inl rfl) rfl (by first | trivial | exact resOK_of (E := env) rfl) rfl rfl rfl (Nat.zero_add _) rfl _ (Nat.le_of_ble_eq_true rfl)

set_option maxHeartbeats 4000000 in
theorem lowerI_9 {ns : List Nd} {k : Nat} {names : List ByteArray} {a b c num : Int} {text : ByteArray} {L : List Co} (hk : k < ns.length) (hat : ns.getD k default = ⟨9, a, b, c, num, text⟩) {A B : List ByteArray → Pt} {ca cb : Nat} (hA : GoI ns a A ca) (hB : GoI ns b B cb) (hn : names.length + (ca + cb + 1) ≤ 10000) (hl : L.length + 5 * (ca + cb + 1) ≤ 5000) : FunQ env.P 18 [.lp 0 0, .d (dI k), .d (namesD names)] (loI ns L 0) (just (.d (dI (plc ((Pt.n3 12 0 (A names) (Pt.n3 12 0 (B names) (truP true) (truP false)) (truP false)).on L)))) (loI ns ((Pt.n3 12 0 (A names) (Pt.n3 12 0 (B names) (truP true) (truP false)) (truP false)).on L) (Pt.n3 12 0 (A names) (Pt.n3 12 0 (B names) (truP true) (truP false)) (truP false)).count)) := by
  have hat' : ns.getD (Int.toNat (k : Int)) default = ⟨9, a, b, c, num, text⟩ := by simpa using hat
  have hpm : Fun env.P 37 [dI 9] (.d (dI 0)) [] := plainI_zero rfl
  have c1 := hA.1 names
  have c2 := hB.1 names
  have q1 := Pt.on_length (A names) L
  have q2 := Pt.on_length (Pt.n3 12 0 (B names) (truP true) (truP false)) ((A names).on L)
  rw [n3_count, tru_count, tru_count] at q2
  have q3 := Pt.on_length (truP false) ((Pt.n3 12 0 (B names) (truP true) (truP false)).on ((A names).on L))
  rw [tru_count] at q3
  have hch := choiceAnd_fn ns names ⟨9, a, b, c, num, text⟩ L (A names) (Pt.n3 12 0 (B names) (truP true) (truP false)) (truP false) (lower1_fn (n := ⟨9, a, b, c, num, text⟩) hA L (by omega) (by omega)) (lower4_fn (n := ⟨9, a, b, c, num, text⟩) hB _ (by omega) (by omega)) (truthK_fn ns _ false (by omega)) (by omega)
  refine FunQ.intro Tryz.func18 rfl (by kernel_rfl) rfl ?_
  unfold Go.Proofs.YtmmjbpgdkokjgaaGreat.loI
  repeat (first | refine W.seq ?_ | refine W.rg ?_ | refine W.block ?_ | refine W.skip ?_ | refine W.cond_true' ?_ | refine W.cond_false' ?_ | refine WG.nil ?_ | refine WG.run' (E := env) ?_ | refine WG.ixm' (E := env) ?_)
  rw [hat']
  repeat' (first | refine W.dre' (id := 23) [4, 5] (fun f => bif bt f 2 then [.pv [.d (nodesD ns), .og 1 (0 + (Pt.n3 12 0 (A names) (Pt.n3 12 0 (B names) (truP true) (truP false)) (truP false)).count)], .x (neC (((Pt.n3 12 0 (A names) (Pt.n3 12 0 (B names) (truP true) (truP false)) (truP false)).on L).map coN) none) (0 + (Pt.n3 12 0 (A names) (Pt.n3 12 0 (B names) (truP true) (truP false)) (truP false)).count), .pv [.lp 0 0], .pv [.d (namesD names)], .pv ((⟨9, a, b, c, num, text⟩ : Nd).row.map .d), .pv [.clo 40 [.lp 2 0, .lp 4 0, .lp 3 0]], .pv [.lp 0 0], .pv [.d (dB false)]] else bif bt f 1 then [.pv [.d (nodesD ns), .og 1 (0)], .x (neC (L.map coN) none) (0), .pv [.lp 0 0], .pv [.d (namesD names)], .pv ((⟨9, a, b, c, num, text⟩ : Nd).row.map .d), .pv [.clo 40 [.lp 2 0, .lp 4 0, .lp 3 0]], .pv [.lp 0 0], .pv [.d (dB false)]] else [.pv [.d (nodesD ns), .og 1 (0)], .x (neC (L.map coN) none) (0), .pv [.lp 0 0], .pv [.d (namesD names)], .pv ((⟨9, a, b, c, num, text⟩ : Nd).row.map .d), .pv [.clo 40 [.lp 2 0, .lp 4 0, .lp 3 0]]]) [(0, [0, 1]), (0, [0, 1]), (0, [0, 1]), (0, [0]), (1, [0]), (2, [1]), (0, [3])] [.pv [.d (nodesD ns), .og 1 (0 + (Pt.n3 12 0 (A names) (Pt.n3 12 0 (B names) (truP true) (truP false)) (truP false)).count)], .x (neC (((Pt.n3 12 0 (A names) (Pt.n3 12 0 (B names) (truP true) (truP false)) (truP false)).on L).map coN) none) (0 + (Pt.n3 12 0 (A names) (Pt.n3 12 0 (B names) (truP true) (truP false)) (truP false)).count), .pv [.lp 0 0], .pv [.d (namesD names)], .pv ((⟨9, a, b, c, num, text⟩ : Nd).row.map .d), .pv [.clo 40 [.lp 2 0, .lp 4 0, .lp 3 0]], .pv [.lp 0 0], .pv [.d (dB false)]] ?_ | refine WE.nil ?_ | refine WE.s' (E := env) (t := .d _) ?_ | refine WE.s' (E := env) (t := .lp _ _) ?_ | refine WE.s' (E := env) (t := .og _ _) ?_ | refine WE.s' (E := env) (t := .ea _ _) ?_ | refine WE.s' (E := env) (t := .agg _) ?_ | refine WE.s' (E := env) (t := .tup _) ?_ | refine WE.s' (E := env) (t := .clo _ _) ?_ | refine WE.mkd (.clo 79 [.lp 6 0, .lp 7 0]) ?_ (.c (OpS1.cqM (E := env) [0, 1] [0, 0] rfl rfl (truthC_fn ns L false) rfl rfl rfl rfl rfl rfl rfl ⟨rfl, rfl, trivial⟩ rfl rfl rfl) .n) | refine WE.mkd (.d (dI (plc ((Pt.n3 12 0 (A names) (Pt.n3 12 0 (B names) (truP true) (truP false)) (truP false)).on L)))) ?_ (.c (OpS1.cqM (E := env) [0, 1, 2, 3, 4, 5, 6, 7] [0, 0, 0, 0, 0, 0, 0, 0] rfl rfl hch rfl rfl rfl rfl rfl rfl rfl ⟨rfl, rfl, rfl, rfl, rfl, rfl, rfl, rfl, trivial⟩ rfl rfl rfl) .n) | refine W.seq ?_ | refine W.rg ?_ | refine W.block ?_ | refine W.skip ?_ | refine W.cond_true' ?_ | refine W.cond_false' ?_ | refine WG.nil ?_ | refine WG.run' (E := env) ?_ | refine WG.ixm' (E := env) ?_ | refine WG.c (E := env) rfl rfl (hpm) rfl rfl ?_)
  refine W.ret ?_
  exact RetR.loI (.inl rfl) rfl (by first | trivial | exact resOK_of (E := env) rfl) rfl rfl rfl (Nat.zero_add _) rfl _ (Nat.le_of_ble_eq_true rfl)

set_option maxHeartbeats 4000000 in
theorem lowerI_23 {ns : List Nd} {k : Nat} {names : List ByteArray} {a b c num : Int} {text : ByteArray} {L : List Co} (hk : k < ns.length) (hat : ns.getD k default = ⟨23, a, b, c, num, text⟩) {A : List ByteArray → Pt} {ca : Nat} (hA : GoI ns a A ca) (hn : names.length + (ca + 1) ≤ 10000) (hl : L.length + 5 * (ca + 1) ≤ 5000) : FunQ env.P 18 [.lp 0 0, .d (dI k), .d (namesD names)] (loI ns L 0) (just (.d (dI (plc ((oneP text (A names)).on L)))) (loI ns ((oneP text (A names)).on L) (oneP text (A names)).count)) := by
  have hat' : ns.getD (Int.toNat (k : Int)) default = ⟨23, a, b, c, num, text⟩ := by simpa using hat
  have hpm : Fun env.P 37 [dI 23] (.d (dI 0)) [] := plainI_zero rfl
  have hone := callOneI_fn (n := ⟨23, a, b, c, num, text⟩) (names := names) text hA L (by omega) (by omega)
  refine FunQ.intro Tryz.func18 rfl (by kernel_rfl) rfl ?_
  unfold Go.Proofs.YtmmjbpgdkokjgaaGreat.loI
  repeat (first | refine W.seq ?_ | refine W.rg ?_ | refine W.block ?_ | refine W.skip ?_ | refine W.cond_true' ?_ | refine W.cond_false' ?_ | refine WG.nil ?_ | refine WG.run' (E := env) ?_ | refine WG.ixm' (E := env) ?_)
  rw [hat']
  repeat' (first | refine W.seq ?_ | refine W.rg ?_ | refine W.block ?_ | refine W.skip ?_ | refine W.cond_true' ?_ | refine W.cond_false' ?_ | refine WG.nil ?_ | refine WG.run' (E := env) ?_ | refine WG.ixm' (E := env) ?_ | refine WG.cq (E := env) (t' := .d (dI (plc ((oneP text (A names)).on L)))) (ob2 := [.pv [.d (nodesD ns), .og 1 (0 + (oneP text (A names)).count)], .x (neC (((oneP text (A names)).on L).map coN) none) (0 + (oneP text (A names)).count), .pv [.lp 0 0], .pv [.d (namesD names)], .pv ((⟨23, a, b, c, num, text⟩ : Nd).row.map .d), .pv [.clo 40 [.lp 2 0, .lp 4 0, .lp 3 0]]]) [0, 1, 2, 3, 4] [0, 0, 0, 0, 0] false rfl rfl hone rfl rfl rfl rfl rfl rfl rfl ⟨rfl, rfl, rfl, rfl, rfl, trivial⟩ (.inl rfl) rfl (fun h => nomatch h) rfl rfl ?_ | refine WG.c (E := env) rfl rfl (hpm) rfl rfl ?_)
  refine W.ret ?_
  exact RetR.loI (.inl rfl) rfl (by first | trivial | exact resOK_of (E := env) rfl) rfl rfl rfl (Nat.zero_add _) rfl _ (Nat.le_of_ble_eq_true rfl)

set_option maxHeartbeats 4000000 in
theorem lowerI_22 {ns : List Nd} {k : Nat} {names : List ByteArray} {a b c num : Int} {text : ByteArray} {L : List Co} (hk : k < ns.length) (hat : ns.getD k default = ⟨22, a, b, c, num, text⟩) (ht : among callsL text = true) (hl : L.length + 5 ≤ 5000) : FunQ env.P 18 [.lp 0 0, .d (dI k), .d (namesD names)] (loI ns L 0) (just (.d (dI (plc ((callP text).on L)))) (loI ns ((callP text).on L) (callP text).count)) := by
  have hat' : ns.getD (Int.toNat (k : Int)) default = ⟨22, a, b, c, num, text⟩ := by simpa using hat
  have hpm : Fun env.P 37 [dI 22] (.d (dI 0)) [] := plainI_zero rfl
  have hca := callI_fn ns L text ht (by omega)
  refine FunQ.intro Tryz.func18 rfl (by kernel_rfl) rfl ?_
  unfold Go.Proofs.YtmmjbpgdkokjgaaGreat.loI
  repeat (first | refine W.seq ?_ | refine W.rg ?_ | refine W.block ?_ | refine W.skip ?_ | refine W.cond_false' ?_ | refine WG.nil ?_ | refine WG.run' (E := env) ?_ | refine WG.ixm' (E := env) ?_)
  rw [hat']
  repeat' (first | refine W.seq ?_ | refine W.rg ?_ | refine W.block ?_ | refine W.skip ?_ | refine W.cond_false' ?_ | refine WG.nil ?_ | refine WG.run' (E := env) ?_ | refine WG.ixm' (E := env) ?_ | refine WG.loI rfl rfl hca rfl rfl ?_ | refine WG.c (E := env) rfl rfl (hpm) rfl rfl ?_)
  refine W.ret ?_
  exact RetR.loI (.inl rfl) rfl (by first | trivial | exact resOK_of (E := env) rfl) rfl rfl rfl (Nat.zero_add _) rfl _ (Nat.le_of_ble_eq_true rfl)

end Go.Proofs.YtmmjbpgdkokjgaaGreat
