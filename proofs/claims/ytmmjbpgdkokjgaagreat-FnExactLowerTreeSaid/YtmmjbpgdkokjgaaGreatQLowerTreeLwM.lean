/-
  What a name with something in brackets becomes, by the program. Conditions: at most 5000 nodes.
-/
import Derived.Test.YtmmjbpgdkokjgaaGreatQLowerTreeLw5
import Derived.Test.YtmmjbpgdkokjgaaGreatQLowerTreeLwB
set_option linter.unusedVariables false
set_option linter.unusedSimpArgs false
set_option maxRecDepth 100000
namespace Go.Proofs.YtmmjbpgdkokjgaaGreat
open Go.RowKit

set_option maxHeartbeats 8000000 in
theorem callOneSel_fn (ns : List Nd) (n : Nd) (names : List ByteArray) (A : Pt) (L : List Co) (hA : CloI ns 39 [.lp 2 0, .lp 4 0, .lp 3 0] (envA names n) A L) (hl : L.length + A.count ≤ 90000) :
    FunQ env.P 52 [.lp 0 0, .d (dS selectS), .clo 39 [.lp 2 0, .lp 4 0, .lp 3 0]] (loI ns L 0 ++ envA names n) (just (.d (dI (plc ((Pt.n3 12 0 A (.lf 1 0) (.lf 17 0)).on L)))) (loI ns ((Pt.n3 12 0 A (.lf 1 0) (.lf 17 0)).on L) ((Pt.n3 12 0 A (.lf 1 0) (.lf 17 0)).count) ++ envA names n)) := by
  have q1 := Pt.on_length A L
  have q2 := Pt.on_length (.lf 1 0) (A.on L)
  have q3 := Pt.on_length (.lf 17 0) ((Pt.lf 1 0).on (A.on L))
  rw [lf_count] at q2 q3
  have hch := choiceSel_fn ns names n L A (.lf 1 0) (.lf 17 0) hA (callOne1_fn ns _ (by omega)) (callOne2_fn ns _ (by omega)) (by omega)
  refine FunQ.intro Tryz.func52 rfl (by kernel_rfl) rfl ?_
  unfold Go.Proofs.YtmmjbpgdkokjgaaGreat.loI
  repeat' (first | refine W.seq ?_ | refine W.rg ?_ | refine W.block ?_ | refine W.cond_true' ?_ | refine WG.nil ?_ | refine WG.run' (E := env) ?_ | refine WG.cq (E := env) (t' := .d (dI (plc ((Pt.n3 12 0 A (.lf 1 0) (.lf 17 0)).on L)))) (ob2 := [.pv [.d (nodesD ns), .og 1 (0 + (Pt.n3 12 0 A (.lf 1 0) (.lf 17 0)).count)], .x (neC (((Pt.n3 12 0 A (.lf 1 0) (.lf 17 0)).on L).map coN) none) (0 + (Pt.n3 12 0 A (.lf 1 0) (.lf 17 0)).count), .pv [.lp 0 0], .pv [.d (namesD names)], .pv (n.row.map .d), .pv [.lp 0 0]]) [0, 1, 2, 3, 4, 5] [0, 0, 0, 0, 0, 0] false rfl rfl hch rfl rfl rfl rfl rfl rfl rfl ⟨rfl, rfl, rfl, rfl, rfl, rfl, trivial⟩ (.inl rfl) rfl (fun h => nomatch h) rfl rfl ?_ | fail)
  rw [Nat.zero_add]
  refine W.ret ?_
  exact RetR.own (ob' := loI ns ((Pt.n3 12 0 A (.lf 1 0) (.lf 17 0)).on L) ((Pt.n3 12 0 A (.lf 1 0) (.lf 17 0)).count) ++ envA names n) ⟨[0, 1, 2, 3, 4], [0, 0, 0, 0, 0], 6⟩ (.inl rfl) rfl (by first | trivial | exact resOK_of (E := env) rfl) rfl rfl rfl rfl rfl rfl ⟨by simp [Ob.ren, Rn.of, Rn.ix, T.renL, T.ren] <;> rfl, by simp [Ob.ren, Rn.of, Rn.ix, T.renL, T.ren] <;> rfl, rfl, rfl, rfl, trivial⟩ rfl ⟨rfl, rfl⟩

set_option maxHeartbeats 8000000 in
theorem callOneMap_fn (ns : List Nd) (n : Nd) (names : List ByteArray) (A : Pt) (L : List Co) (hA : CloI ns 39 [.lp 2 0, .lp 4 0, .lp 3 0] (envA names n) A ((Pt.n1 8 (.lf 1 0)).on L)) (hl : L.length + A.count ≤ 90000) :
    FunQ env.P 52 [.lp 0 0, .d (dS mapS), .clo 39 [.lp 2 0, .lp 4 0, .lp 3 0]] (loI ns L 0 ++ envA names n) (just (.d (dI (plc ((Pt.n1 10 (Pt.n2 3 0 [] (Pt.n1 8 (.lf 1 0)) A)).on L)))) (loI ns ((Pt.n1 10 (Pt.n2 3 0 [] (Pt.n1 8 (.lf 1 0)) A)).on L) ((Pt.n1 10 (Pt.n2 3 0 [] (Pt.n1 8 (.lf 1 0)) A)).count) ++ envA names n)) := by
  have q1 := Pt.on_length (.lf 1 0) L
  have q2 := Pt.on_length (Pt.n1 8 (.lf 1 0)) L
  have q3 := Pt.on_length A ((Pt.n1 8 (.lf 1 0)).on L)
  have q4 := Pt.on_length (Pt.n2 3 0 [] (Pt.n1 8 (.lf 1 0)) A) L
  rw [n2_count] at q4
  rw [n1_count, lf_count] at q2 q4
  rw [lf_count] at q1
  have p1 := putLeafI ns L 1 0 (by omega)
  have p2 := eachI_fn ns L (.lf 1 0) (by omega)
  have p3 := put2I ns L ⟨3, 0, 0, 0, 0, []⟩ (Pt.n1 8 (.lf 1 0)) A (by omega)
  have p4 := put1I ns L ⟨10, 0, 0, 0, 0, []⟩ (Pt.n2 3 0 [] (Pt.n1 8 (.lf 1 0)) A) (by omega)
  have hcnt : (Pt.n1 10 (Pt.n2 3 0 [] (Pt.n1 8 (.lf 1 0)) A)).count = 0 + 1 + 1 + A.count + 1 + 1 := by rw [n1_count, n2_count, n1_count, lf_count] <;> omega
  rw [hcnt]
  clear hcnt
  unfold CloI at hA
  refine FunQ.intro Tryz.func52 rfl (by kernel_rfl) rfl ?_
  unfold Go.Proofs.YtmmjbpgdkokjgaaGreat.loI
  repeat' (first | refine W.dre' (id := 6) [3, 4, 6] (fun f => bif bt f 4 then [.pv [.d (nodesD ns), .og 1 (0 + 1 + 1)], .x (neC (((Pt.n1 8 (.lf 1 0)).on L).map coN) none) (0 + 1 + 1), .pv [.lp 0 0], .pv [.d (namesD names)], .pv (n.row.map .d), .pv [.lp 0 0], .pv [.d (dI 3), .d (dI (plc ((Pt.n1 8 (.lf 1 0)).on L))), .d (dI 0), .d (dI 0), .d (dI 0), .d (.nl 5)], .dead] else bif bt f 2 then [.pv [.d (nodesD ns), .og 1 (0 + 1 + 1)], .x (neC (((Pt.n1 8 (.lf 1 0)).on L).map coN) none) (0 + 1 + 1), .pv [.lp 0 0], .pv [.d (namesD names)], .pv (n.row.map .d), .pv [.lp 0 0], .pv [.d (dI 3), .d (dI 0), .d (dI 0), .d (dI 0), .d (dI 0), .d (.nl 5)], .dead] else bif bt f 1 then [.pv [.d (nodesD ns), .og 1 (0 + 1)], .x (neC (((Pt.lf 1 0).on L).map coN) none) (0 + 1), .pv [.lp 0 0], .pv [.d (namesD names)], .pv (n.row.map .d), .pv [.lp 0 0], .pv [.d (dI 3), .d (dI 0), .d (dI 0), .d (dI 0), .d (dI 0), .d (.nl 5)], .dead] else [.pv [.d (nodesD ns), .og 1 (0)], .x (neC (L.map coN) none) (0), .pv [.lp 0 0], .pv [.d (namesD names)], .pv (n.row.map .d), .pv [.lp 0 0], .pv [.d (dI 3), .d (dI 0), .d (dI 0), .d (dI 0), .d (dI 0), .d (.nl 5)]]) [(0, [0, 1]), (0, [0]), (0, [0]), (1, [0]), (2, [1]), (0, [3]), (4, [3])] [.pv [.d (nodesD ns), .og 1 (0 + 1 + 1)], .x (neC (((Pt.n1 8 (.lf 1 0)).on L).map coN) none) (0 + 1 + 1), .pv [.lp 0 0], .pv [.d (namesD names)], .pv (n.row.map .d), .pv [.lp 0 0], .pv [.d (dI 3), .d (dI (plc ((Pt.n1 8 (.lf 1 0)).on L))), .d (dI 0), .d (dI 0), .d (dI 0), .d (.nl 5)], .dead] ?_ | refine W.dre' (id := 8) [3, 5] (fun f => bif bt f 2 then [.pv [.d (nodesD ns), .og 1 (0 + 1 + 1 + A.count + 1 + 1)], .x (neC (((Pt.n1 10 (Pt.n2 3 0 [] (Pt.n1 8 (.lf 1 0)) A)).on L).map coN) none) (0 + 1 + 1 + A.count + 1 + 1), .pv [.lp 0 0], .pv [.d (namesD names)], .pv (n.row.map .d), .pv [.lp 0 0], .pv [.d (dI 3), .d (dI (plc ((Pt.n1 8 (.lf 1 0)).on L))), .d (dI (plc (A.on ((Pt.n1 8 (.lf 1 0)).on L)))), .d (dI 0), .d (dI 0), .d (.nl 5)], .dead, .dead, .dead] else bif bt f 1 then [.pv [.d (nodesD ns), .og 1 (0 + 1 + 1 + A.count + 1)], .x (neC (((Pt.n2 3 0 [] (Pt.n1 8 (.lf 1 0)) A).on L).map coN) none) (0 + 1 + 1 + A.count + 1), .pv [.lp 0 0], .pv [.d (namesD names)], .pv (n.row.map .d), .pv [.lp 0 0], .pv [.d (dI 3), .d (dI (plc ((Pt.n1 8 (.lf 1 0)).on L))), .d (dI (plc (A.on ((Pt.n1 8 (.lf 1 0)).on L)))), .d (dI 0), .d (dI 0), .d (.nl 5)], .dead, .dead] else [.pv [.d (nodesD ns), .og 1 (0 + 1 + 1 + A.count)], .x (neC ((A.on ((Pt.n1 8 (.lf 1 0)).on L)).map coN) none) (0 + 1 + 1 + A.count), .pv [.lp 0 0], .pv [.d (namesD names)], .pv (n.row.map .d), .pv [.lp 0 0], .pv [.d (dI 3), .d (dI (plc ((Pt.n1 8 (.lf 1 0)).on L))), .d (dI (plc (A.on ((Pt.n1 8 (.lf 1 0)).on L)))), .d (dI 0), .d (dI 0), .d (.nl 5)], .dead]) [(0, [0, 1]), (0, [0]), (0, [0]), (1, [0]), (0, [1]), (2, [1]), (0, [3])] [.pv [.d (nodesD ns), .og 1 (0 + 1 + 1 + A.count + 1 + 1)], .x (neC (((Pt.n1 10 (Pt.n2 3 0 [] (Pt.n1 8 (.lf 1 0)) A)).on L).map coN) none) (0 + 1 + 1 + A.count + 1 + 1), .pv [.lp 0 0], .pv [.d (namesD names)], .pv (n.row.map .d), .pv [.lp 0 0], .pv [.d (dI 3), .d (dI (plc ((Pt.n1 8 (.lf 1 0)).on L))), .d (dI (plc (A.on ((Pt.n1 8 (.lf 1 0)).on L)))), .d (dI 0), .d (dI 0), .d (.nl 5)], .dead, .dead, .dead] ?_ | refine WE.mkd (.d (dI (plc ((Pt.lf 1 0).on L)))) ?_ (.c (OpS1.cqA (E := env) 22 5 5 93 [0, 1, 7] [0, 0, 0] rfl rfl (p1) rfl rfl (by simp) rfl rfl rfl rfl rfl rfl ⟨rfl, rfl, rfl, trivial⟩ rfl rfl rfl) .n) | refine WE.mkd (.d (dI (plc ((Pt.n1 8 (.lf 1 0)).on L)))) ?_ (.c (OpS1.cqM (E := env) [0, 1] [0, 0 + 1] rfl rfl p2 rfl rfl rfl rfl rfl rfl rfl ⟨rfl, rfl, trivial⟩ rfl rfl rfl) .n) | refine WE.mkd (.d (dI (plc ((Pt.n2 3 0 [] (Pt.n1 8 (.lf 1 0)) A).on L)))) ?_ (.c (OpS1.cqA (E := env) 31 5 5 93 [0, 1, 8] [0, 0 + 1 + 1 + A.count, 0] rfl rfl (p3) rfl rfl (by simp) rfl rfl rfl rfl rfl rfl ⟨rfl, rfl, rfl, trivial⟩ rfl rfl rfl) .n) | refine WE.mkd (.d (dI (plc ((Pt.n1 10 (Pt.n2 3 0 [] (Pt.n1 8 (.lf 1 0)) A)).on L)))) ?_ (.c (OpS1.cqA (E := env) 33 5 5 93 [0, 1, 9] [0, 0 + 1 + 1 + A.count + 1, 0] rfl rfl (p4) rfl rfl (by simp) rfl rfl rfl rfl rfl rfl ⟨rfl, rfl, rfl, trivial⟩ rfl rfl rfl) .n) | refine WE.bd' ?_ | refine WE.nil ?_ | refine WE.s' (E := env) (t := .d _) ?_ | refine WE.s' (E := env) (t := .lp _ _) ?_ | refine WE.s' (E := env) (t := .og _ _) ?_ | refine WE.s' (E := env) (t := .ea _ _) ?_ | refine WE.s' (E := env) (t := .agg _) ?_ | refine WE.s' (E := env) (t := .tup _) ?_ | refine WE.st' (E := env) ?_ | refine W.seq ?_ | refine W.rg ?_ | refine W.block ?_ | refine W.cond_true' ?_ | refine W.cond_false' ?_ | refine WG.nil ?_ | refine WG.run' (E := env) ?_ | refine WG.cq (E := env) (t' := .d (dI (plc (A.on ((Pt.n1 8 (.lf 1 0)).on L))))) (ob2 := [.pv [.d (nodesD ns), .og 1 (0 + 1 + 1 + A.count)], .x (neC ((A.on ((Pt.n1 8 (.lf 1 0)).on L)).map coN) none) (0 + 1 + 1 + A.count), .pv [.lp 0 0], .pv [.d (namesD names)], .pv (n.row.map .d), .pv [.lp 0 0], .pv [.d (dI 3), .d (dI (plc ((Pt.n1 8 (.lf 1 0)).on L))), .d (dI 0), .d (dI 0), .d (dI 0), .d (.nl 5)], .dead]) [0, 1, 2, 3, 4] [0, 0 + 1 + 1, 0, 0, 0] false rfl rfl hA rfl rfl rfl rfl rfl rfl rfl ⟨rfl, rfl, rfl, rfl, rfl, trivial⟩ (.inl rfl) rfl (fun h => nomatch h) rfl rfl ?_ | fail)
  refine W.ret ?_
  exact RetR.own (ob' := loI ns ((Pt.n1 10 (Pt.n2 3 0 [] (Pt.n1 8 (.lf 1 0)) A)).on L) (0 + 1 + 1 + A.count + 1 + 1) ++ envA names n) ⟨[0, 1, 2, 3, 4], [0, 0, 0, 0, 0], 10⟩ (.inl rfl) rfl (by first | trivial | exact resOK_of (E := env) rfl) rfl rfl rfl rfl rfl rfl ⟨by simp [Ob.ren, Rn.of, Rn.ix, T.renL, T.ren] <;> rfl, by simp [Ob.ren, Rn.of, Rn.ix, T.renL, T.ren] <;> rfl, rfl, rfl, rfl, trivial⟩ rfl ⟨rfl, rfl⟩

set_option maxHeartbeats 8000000 in
theorem callOneRange_fn (ns : List Nd) (n : Nd) (names : List ByteArray) (A : Pt) (L : List Co) (t : ByteArray) (t1 : t ≠ selectS) (t2 : t ≠ mapS) (hA : CloI ns 39 [.lp 2 0, .lp 4 0, .lp 3 0] (envA names n) A L) (hl : L.length + A.count ≤ 90000) :
    FunQ env.P 52 [.lp 0 0, .d (dS t), .clo 39 [.lp 2 0, .lp 4 0, .lp 3 0]] (loI ns L 0 ++ envA names n) (just (.d (dI (plc ((Pt.n2 3 0 [] A (Pt.n1 8 (.lf 16 6))).on L)))) (loI ns ((Pt.n2 3 0 [] A (Pt.n1 8 (.lf 16 6))).on L) ((Pt.n2 3 0 [] A (Pt.n1 8 (.lf 16 6))).count) ++ envA names n)) := by
  have q1 := Pt.on_length A L
  have q2 := Pt.on_length (.lf 16 6) (A.on L)
  have q3 := Pt.on_length (Pt.n1 8 (.lf 16 6)) (A.on L)
  rw [n1_count, lf_count] at q3
  rw [lf_count] at q2
  have p1 := doI_fn ns (A.on L) 6 (by omega)
  have p2 := eachI_fn ns (A.on L) (.lf 16 6) (by omega)
  have p3 := put2I ns L ⟨3, 0, 0, 0, 0, []⟩ A (Pt.n1 8 (.lf 16 6)) (by omega)
  have hcnt : (Pt.n2 3 0 [] A (Pt.n1 8 (.lf 16 6))).count = 0 + A.count + 1 + 1 + 1 := by rw [n2_count, n1_count, lf_count] <;> omega
  rw [hcnt]
  clear hcnt
  unfold CloI at hA
  refine FunQ.intro Tryz.func52 rfl (by kernel_rfl) rfl ?_
  unfold Go.Proofs.YtmmjbpgdkokjgaaGreat.loI
  repeat' (first | refine W.dre' (id := 11) [2, 3, 5] (fun f => bif bt f 4 then [.pv [.d (nodesD ns), .og 1 (0 + A.count + 1 + 1)], .x (neC (((Pt.n1 8 (.lf 16 6)).on (A.on L)).map coN) none) (0 + A.count + 1 + 1), .pv [.lp 0 0], .pv [.d (namesD names)], .pv (n.row.map .d), .pv [.lp 0 0], .pv [.d (dI 3), .d (dI (plc (A.on L))), .d (dI (plc ((Pt.n1 8 (.lf 16 6)).on (A.on L)))), .d (dI 0), .d (dI 0), .d (.nl 5)]] else bif bt f 2 then [.pv [.d (nodesD ns), .og 1 (0 + A.count + 1 + 1)], .x (neC (((Pt.n1 8 (.lf 16 6)).on (A.on L)).map coN) none) (0 + A.count + 1 + 1), .pv [.lp 0 0], .pv [.d (namesD names)], .pv (n.row.map .d), .pv [.lp 0 0], .pv [.d (dI 3), .d (dI (plc (A.on L))), .d (dI 0), .d (dI 0), .d (dI 0), .d (.nl 5)]] else bif bt f 1 then [.pv [.d (nodesD ns), .og 1 (0 + A.count + 1)], .x (neC (((Pt.lf 16 6).on (A.on L)).map coN) none) (0 + A.count + 1), .pv [.lp 0 0], .pv [.d (namesD names)], .pv (n.row.map .d), .pv [.lp 0 0], .pv [.d (dI 3), .d (dI (plc (A.on L))), .d (dI 0), .d (dI 0), .d (dI 0), .d (.nl 5)]] else [.pv [.d (nodesD ns), .og 1 (0 + A.count)], .x (neC ((A.on L).map coN) none) (0 + A.count), .pv [.lp 0 0], .pv [.d (namesD names)], .pv (n.row.map .d), .pv [.lp 0 0], .pv [.d (dI 3), .d (dI (plc (A.on L))), .d (dI 0), .d (dI 0), .d (dI 0), .d (.nl 5)]]) [(0, [0, 1]), (0, [0]), (1, [0]), (2, [1]), (0, [3]), (4, [3])] [.pv [.d (nodesD ns), .og 1 (0 + A.count + 1 + 1)], .x (neC (((Pt.n1 8 (.lf 16 6)).on (A.on L)).map coN) none) (0 + A.count + 1 + 1), .pv [.lp 0 0], .pv [.d (namesD names)], .pv (n.row.map .d), .pv [.lp 0 0], .pv [.d (dI 3), .d (dI (plc (A.on L))), .d (dI (plc ((Pt.n1 8 (.lf 16 6)).on (A.on L)))), .d (dI 0), .d (dI 0), .d (.nl 5)]] ?_ | refine WE.mkd (.d (dI (plc ((Pt.lf 16 6).on (A.on L))))) ?_ (.c (OpS1.cqM (E := env) [0, 1] [0, 0 + A.count] rfl rfl p1 rfl rfl rfl rfl rfl rfl rfl ⟨rfl, rfl, trivial⟩ rfl rfl rfl) .n) | refine WE.mkd (.d (dI (plc ((Pt.n1 8 (.lf 16 6)).on (A.on L))))) ?_ (.c (OpS1.cqM (E := env) [0, 1] [0, 0 + A.count + 1] rfl rfl p2 rfl rfl rfl rfl rfl rfl rfl ⟨rfl, rfl, trivial⟩ rfl rfl rfl) .n) | refine WE.nil ?_ | refine WE.s' (E := env) (t := .d _) ?_ | refine WE.s' (E := env) (t := .lp _ _) ?_ | refine WE.s' (E := env) (t := .og _ _) ?_ | refine WE.s' (E := env) (t := .ea _ _) ?_ | refine WE.s' (E := env) (t := .agg _) ?_ | refine WE.s' (E := env) (t := .tup _) ?_ | refine WE.st' (E := env) ?_ | refine W.seq ?_ | refine W.rg ?_ | refine W.block ?_ | refine W.skip ?_ | refine WG.nil ?_ | refine WG.run' (E := env) ?_ | refine WG.cq (E := env) (t' := .d (dI (plc (A.on L)))) (ob2 := [.pv [.d (nodesD ns), .og 1 (0 + A.count)], .x (neC ((A.on L).map coN) none) (0 + A.count), .pv [.lp 0 0], .pv [.d (namesD names)], .pv (n.row.map .d), .pv [.lp 0 0], .pv [.d (dI 3), .d (dI 0), .d (dI 0), .d (dI 0), .d (dI 0), .d (.nl 5)]]) [0, 1, 2, 3, 4] [0, 0, 0, 0, 0] false rfl rfl hA rfl rfl rfl rfl rfl rfl rfl ⟨rfl, rfl, rfl, rfl, rfl, trivial⟩ (.inl rfl) rfl (fun h => nomatch h) rfl rfl ?_ | refine WG.adoptD 45 5 5 93 rfl rfl rfl ?_ | refine WG.loT (R := [_, _, _, _, _]) (v := []) rfl rfl p3 rfl rfl ?_ | fail | ((refine W.cond' (fun h => ?_) fun h => ?_) <;> (try simp only [atS, List.length_map, beq_self_eq_true] at h) <;> (try (exfalso; first | contradiction | omega))))
  all_goals first | (exfalso; contradiction) | skip
  refine W.ret ?_
  exact RetR.own (ob' := loI ns ((Pt.n2 3 0 [] A (Pt.n1 8 (.lf 16 6))).on L) (0 + A.count + 1 + 1 + 1) ++ envA names n) ⟨[0, 1, 2, 3, 4], [0, 0, 0, 0, 0], 8⟩ (.inl rfl) rfl (by first | trivial | exact resOK_of (E := env) rfl) rfl rfl rfl rfl rfl rfl ⟨by simp [Ob.ren, Rn.of, Rn.ix, T.renL, T.ren] <;> rfl, by simp [Ob.ren, Rn.of, Rn.ix, T.renL, T.ren] <;> rfl, rfl, rfl, rfl, trivial⟩ rfl ⟨rfl, rfl⟩

end Go.Proofs.YtmmjbpgdkokjgaaGreat
