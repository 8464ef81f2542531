/-
  Texts of this claim in one. Conditions: none.
-/
import Derived.Test.YtmmjbpgdkokjgaaGreatQLowerTreeLwD
section
set_option linter.unusedVariables false
set_option linter.unusedSimpArgs false
set_option maxRecDepth 100000
namespace Go.Proofs.YtmmjbpgdkokjgaaGreat
open Go.RowKit

/-- What the boxes of the lowering of a node hold. -/
abbrev bxL : Ob := .pv [.lp 0 0]
abbrev bxV (names : List ByteArray) : Ob := .pv [.d (namesD names)]
abbrev bxN (n : Nd) : Ob := .pv (n.row.map .d)
abbrev bxB : Ob := .pv [.clo 40 [.lp 2 0, .lp 4 0, .lp 3 0]]
abbrev bxT (b : Bool) : Ob := .pv [.d (dB b)]
abbrev envA (names : List ByteArray) (n : Nd) : List Ob := [bxL, bxV names, bxN n]
abbrev envB (names : List ByteArray) (n : Nd) : List Ob := [bxL, bxV names, bxN n, bxB]
/-- A function makes a part, with what it holds lent behind the maker. -/
def CloI (ns : List Nd) (f : FuncId) (cap : List T) (E : List Ob) (p : Pt) (L : List Co) : Prop := FunQ env.P f cap (loI ns L 0 ++ E) (just (.d (dI (plc (p.on L)))) (loI ns (p.on L) p.count ++ E))

set_option maxHeartbeats 4000000 in
theorem choiceOr_fn (ns : List Nd) (names : List ByteArray) (n : Nd) (L : List Co) (A B C : Pt) (h1 : CloI ns 39 [.lp 2 0, .lp 4 0, .lp 3 0] (envA names n) A L) (h2 : CloI ns 79 [.lp 2 0, .lp 3 0] (truO true) B (A.on L)) (h3 : CloI ns 50 [.lp 2 0, .lp 5 0] (envB names n) C (B.on (A.on L))) (hl : (C.on (B.on (A.on L))).length ≤ 100000) :
    FunQ env.P 48 [.lp 0 0, .clo 39 [.lp 2 0, .lp 4 0, .lp 3 0], .clo 79 [.lp 6 0, .lp 7 0], .clo 50 [.lp 2 0, .lp 5 0]] (loI ns L 0 ++ [bxL, bxV names, bxN n, bxB, bxL, bxT true]) (just (.d (dI (plc ((Pt.n3 12 0 A B C).on L)))) (loI ns ((Pt.n3 12 0 A B C).on L) (Pt.n3 12 0 A B C).count ++ [bxL, bxV names, bxN n, bxB, bxL, bxT true])) := by
  have hcnt : (Pt.n3 12 0 A B C).count = 0 + A.count + B.count + C.count + 1 := by rw [n3_count]; omega
  rw [hcnt]
  clear hcnt
  unfold CloI at h1 h2 h3
  refine FunQ.intro Tryz.func48 rfl (by kernel_rfl) rfl ?_
  unfold Go.Proofs.YtmmjbpgdkokjgaaGreat.loI
  repeat' (first | refine W.seq ?_ | refine W.rg ?_ | refine WG.nil ?_ | refine WG.run' (E := env) ?_ | refine WG.cq (E := env) (t' := .d (dI (plc (A.on L)))) (ob2 := [.pv [.d (nodesD ns), .og 1 (0 + A.count)], .x (neC ((A.on L).map coN) none) (0 + A.count), .pv [.lp 0 0], .pv [.d (namesD names)], .pv (n.row.map .d), .pv [.clo 40 [.lp 2 0, .lp 4 0, .lp 3 0]], .pv [.lp 0 0], .pv [.d (dB true)], .pv [.d (dI 12), .d (dI 0), .d (dI 0), .d (dI 0), .d (dI 0), .d (.nl 5)]]) [0, 1, 2, 3, 4] [0, 0, 0, 0, 0] false rfl rfl h1 rfl rfl rfl rfl rfl rfl rfl ⟨rfl, rfl, rfl, rfl, rfl, trivial⟩ (.inl rfl) rfl (fun h => nomatch h) rfl rfl ?_ | refine WG.cq (E := env) (t' := .d (dI (plc (B.on (A.on L))))) (ob2 := [.pv [.d (nodesD ns), .og 1 (0 + A.count + B.count)], .x (neC ((B.on (A.on L)).map coN) none) (0 + A.count + B.count), .pv [.lp 0 0], .pv [.d (namesD names)], .pv (n.row.map .d), .pv [.clo 40 [.lp 2 0, .lp 4 0, .lp 3 0]], .pv [.lp 0 0], .pv [.d (dB true)], .pv [.d (dI 12), .d (dI (plc (A.on L))), .d (dI 0), .d (dI 0), .d (dI 0), .d (.nl 5)]]) [0, 1, 6, 7] [0, (0 + A.count), 0, 0] false rfl rfl h2 rfl rfl rfl rfl rfl rfl rfl ⟨rfl, rfl, rfl, rfl, trivial⟩ (.inl rfl) rfl (fun h => nomatch h) rfl rfl ?_ | refine WG.cq (E := env) (t' := .d (dI (plc (C.on (B.on (A.on L)))))) (ob2 := [.pv [.d (nodesD ns), .og 1 (0 + A.count + B.count + C.count)], .x (neC ((C.on (B.on (A.on L))).map coN) none) (0 + A.count + B.count + C.count), .pv [.lp 0 0], .pv [.d (namesD names)], .pv (n.row.map .d), .pv [.clo 40 [.lp 2 0, .lp 4 0, .lp 3 0]], .pv [.lp 0 0], .pv [.d (dB true)], .pv [.d (dI 12), .d (dI (plc (A.on L))), .d (dI (plc (B.on (A.on L)))), .d (dI 0), .d (dI 0), .d (.nl 5)]]) [0, 1, 2, 3, 4, 5] [0, (0 + A.count + B.count), 0, 0, 0, 0] false rfl rfl h3 rfl rfl rfl rfl rfl rfl rfl ⟨rfl, rfl, rfl, rfl, rfl, rfl, trivial⟩ (.inl rfl) rfl (fun h => nomatch h) rfl rfl ?_ | refine WG.adoptD 21 5 5 93 rfl rfl rfl ?_ | refine WG.loT (R := [_, _, _, _, _, _, _]) (v := []) rfl rfl (put3I ns L ⟨12, 0, 0, 0, 0, []⟩ A B C hl) rfl rfl ?_)
  refine W.ret ?_
  exact RetR.own (ob' := loI ns ((Pt.n3 12 0 A B C).on L) (0 + A.count + B.count + C.count + 1) ++ [bxL, bxV names, bxN n, bxB, bxL, bxT true]) ⟨[0, 1, 2, 3, 4, 5, 6, 7], [0, 0, 0, 0, 0, 0, 0, 0], 10⟩ (.inl rfl) rfl (by first | trivial | exact resOK_of (E := env) rfl) rfl rfl rfl rfl rfl rfl ⟨(by simp [Ob.ren, Rn.of, Rn.ix, T.renL, T.ren] <;> rfl), (by simp [Ob.ren, Rn.of, Rn.ix, T.renL, T.ren] <;> rfl), rfl, rfl, rfl, rfl, rfl, rfl, trivial⟩ rfl ⟨rfl, rfl⟩

set_option maxHeartbeats 4000000 in
theorem choiceAnd_fn (ns : List Nd) (names : List ByteArray) (n : Nd) (L : List Co) (A B C : Pt) (h1 : CloI ns 39 [.lp 2 0, .lp 4 0, .lp 3 0] (envA names n) A L) (h2 : CloI ns 51 [.lp 2 0, .lp 5 0] (envB names n) B (A.on L)) (h3 : CloI ns 79 [.lp 2 0, .lp 3 0] (truO false) C (B.on (A.on L))) (hl : (C.on (B.on (A.on L))).length ≤ 100000) :
    FunQ env.P 48 [.lp 0 0, .clo 39 [.lp 2 0, .lp 4 0, .lp 3 0], .clo 51 [.lp 2 0, .lp 5 0], .clo 79 [.lp 6 0, .lp 7 0]] (loI ns L 0 ++ [bxL, bxV names, bxN n, bxB, bxL, bxT false]) (just (.d (dI (plc ((Pt.n3 12 0 A B C).on L)))) (loI ns ((Pt.n3 12 0 A B C).on L) (Pt.n3 12 0 A B C).count ++ [bxL, bxV names, bxN n, bxB, bxL, bxT false])) := by
  have hcnt : (Pt.n3 12 0 A B C).count = 0 + A.count + B.count + C.count + 1 := by rw [n3_count]; omega
  rw [hcnt]
  clear hcnt
  unfold CloI at h1 h2 h3
  refine FunQ.intro Tryz.func48 rfl (by kernel_rfl) rfl ?_
  unfold Go.Proofs.YtmmjbpgdkokjgaaGreat.loI
  repeat' (first | refine W.seq ?_ | refine W.rg ?_ | refine WG.nil ?_ | refine WG.run' (E := env) ?_ | refine WG.cq (E := env) (t' := .d (dI (plc (A.on L)))) (ob2 := [.pv [.d (nodesD ns), .og 1 (0 + A.count)], .x (neC ((A.on L).map coN) none) (0 + A.count), .pv [.lp 0 0], .pv [.d (namesD names)], .pv (n.row.map .d), .pv [.clo 40 [.lp 2 0, .lp 4 0, .lp 3 0]], .pv [.lp 0 0], .pv [.d (dB false)], .pv [.d (dI 12), .d (dI 0), .d (dI 0), .d (dI 0), .d (dI 0), .d (.nl 5)]]) [0, 1, 2, 3, 4] [0, 0, 0, 0, 0] false rfl rfl h1 rfl rfl rfl rfl rfl rfl rfl ⟨rfl, rfl, rfl, rfl, rfl, trivial⟩ (.inl rfl) rfl (fun h => nomatch h) rfl rfl ?_ | refine WG.cq (E := env) (t' := .d (dI (plc (B.on (A.on L))))) (ob2 := [.pv [.d (nodesD ns), .og 1 (0 + A.count + B.count)], .x (neC ((B.on (A.on L)).map coN) none) (0 + A.count + B.count), .pv [.lp 0 0], .pv [.d (namesD names)], .pv (n.row.map .d), .pv [.clo 40 [.lp 2 0, .lp 4 0, .lp 3 0]], .pv [.lp 0 0], .pv [.d (dB false)], .pv [.d (dI 12), .d (dI (plc (A.on L))), .d (dI 0), .d (dI 0), .d (dI 0), .d (.nl 5)]]) [0, 1, 2, 3, 4, 5] [0, (0 + A.count), 0, 0, 0, 0] false rfl rfl h2 rfl rfl rfl rfl rfl rfl rfl ⟨rfl, rfl, rfl, rfl, rfl, rfl, trivial⟩ (.inl rfl) rfl (fun h => nomatch h) rfl rfl ?_ | refine WG.cq (E := env) (t' := .d (dI (plc (C.on (B.on (A.on L)))))) (ob2 := [.pv [.d (nodesD ns), .og 1 (0 + A.count + B.count + C.count)], .x (neC ((C.on (B.on (A.on L))).map coN) none) (0 + A.count + B.count + C.count), .pv [.lp 0 0], .pv [.d (namesD names)], .pv (n.row.map .d), .pv [.clo 40 [.lp 2 0, .lp 4 0, .lp 3 0]], .pv [.lp 0 0], .pv [.d (dB false)], .pv [.d (dI 12), .d (dI (plc (A.on L))), .d (dI (plc (B.on (A.on L)))), .d (dI 0), .d (dI 0), .d (.nl 5)]]) [0, 1, 6, 7] [0, (0 + A.count + B.count), 0, 0] false rfl rfl h3 rfl rfl rfl rfl rfl rfl rfl ⟨rfl, rfl, rfl, rfl, trivial⟩ (.inl rfl) rfl (fun h => nomatch h) rfl rfl ?_ | refine WG.adoptD 21 5 5 93 rfl rfl rfl ?_ | refine WG.loT (R := [_, _, _, _, _, _, _]) (v := []) rfl rfl (put3I ns L ⟨12, 0, 0, 0, 0, []⟩ A B C hl) rfl rfl ?_)
  refine W.ret ?_
  exact RetR.own (ob' := loI ns ((Pt.n3 12 0 A B C).on L) (0 + A.count + B.count + C.count + 1) ++ [bxL, bxV names, bxN n, bxB, bxL, bxT false]) ⟨[0, 1, 2, 3, 4, 5, 6, 7], [0, 0, 0, 0, 0, 0, 0, 0], 10⟩ (.inl rfl) rfl (by first | trivial | exact resOK_of (E := env) rfl) rfl rfl rfl rfl rfl rfl ⟨(by simp [Ob.ren, Rn.of, Rn.ix, T.renL, T.ren] <;> rfl), (by simp [Ob.ren, Rn.of, Rn.ix, T.renL, T.ren] <;> rfl), rfl, rfl, rfl, rfl, rfl, rfl, trivial⟩ rfl ⟨rfl, rfl⟩

set_option maxHeartbeats 4000000 in
theorem choiceIn_fn (ns : List Nd) (names : List ByteArray) (n : Nd) (L : List Co) (A B C : Pt) (h1 : CloI ns 40 [.lp 2 0, .lp 4 0, .lp 3 0] (envA names n) A L) (h2 : CloI ns 79 [.lp 2 0, .lp 3 0] (truO true) B (A.on L)) (h3 : CloI ns 79 [.lp 2 0, .lp 3 0] (truO false) C (B.on (A.on L))) (hl : (C.on (B.on (A.on L))).length ≤ 100000) :
    FunQ env.P 48 [.lp 0 0, .clo 40 [.lp 2 0, .lp 4 0, .lp 3 0], .clo 79 [.lp 6 0, .lp 7 0], .clo 79 [.lp 8 0, .lp 9 0]] (loI ns L 0 ++ [bxL, bxV names, bxN n, bxB, bxL, bxT true, bxL, bxT false]) (just (.d (dI (plc ((Pt.n3 12 0 A B C).on L)))) (loI ns ((Pt.n3 12 0 A B C).on L) (Pt.n3 12 0 A B C).count ++ [bxL, bxV names, bxN n, bxB, bxL, bxT true, bxL, bxT false])) := by
  have hcnt : (Pt.n3 12 0 A B C).count = 0 + A.count + B.count + C.count + 1 := by rw [n3_count]; omega
  rw [hcnt]
  clear hcnt
  unfold CloI at h1 h2 h3
  refine FunQ.intro Tryz.func48 rfl (by kernel_rfl) rfl ?_
  unfold Go.Proofs.YtmmjbpgdkokjgaaGreat.loI
  repeat' (first | refine W.seq ?_ | refine W.rg ?_ | refine WG.nil ?_ | refine WG.run' (E := env) ?_ | refine WG.cq (E := env) (t' := .d (dI (plc (A.on L)))) (ob2 := [.pv [.d (nodesD ns), .og 1 (0 + A.count)], .x (neC ((A.on L).map coN) none) (0 + A.count), .pv [.lp 0 0], .pv [.d (namesD names)], .pv (n.row.map .d), .pv [.clo 40 [.lp 2 0, .lp 4 0, .lp 3 0]], .pv [.lp 0 0], .pv [.d (dB true)], .pv [.lp 0 0], .pv [.d (dB false)], .pv [.d (dI 12), .d (dI 0), .d (dI 0), .d (dI 0), .d (dI 0), .d (.nl 5)]]) [0, 1, 2, 3, 4] [0, 0, 0, 0, 0] false rfl rfl h1 rfl rfl rfl rfl rfl rfl rfl ⟨rfl, rfl, rfl, rfl, rfl, trivial⟩ (.inl rfl) rfl (fun h => nomatch h) rfl rfl ?_ | refine WG.cq (E := env) (t' := .d (dI (plc (B.on (A.on L))))) (ob2 := [.pv [.d (nodesD ns), .og 1 (0 + A.count + B.count)], .x (neC ((B.on (A.on L)).map coN) none) (0 + A.count + B.count), .pv [.lp 0 0], .pv [.d (namesD names)], .pv (n.row.map .d), .pv [.clo 40 [.lp 2 0, .lp 4 0, .lp 3 0]], .pv [.lp 0 0], .pv [.d (dB true)], .pv [.lp 0 0], .pv [.d (dB false)], .pv [.d (dI 12), .d (dI (plc (A.on L))), .d (dI 0), .d (dI 0), .d (dI 0), .d (.nl 5)]]) [0, 1, 6, 7] [0, (0 + A.count), 0, 0] false rfl rfl h2 rfl rfl rfl rfl rfl rfl rfl ⟨rfl, rfl, rfl, rfl, trivial⟩ (.inl rfl) rfl (fun h => nomatch h) rfl rfl ?_ | refine WG.cq (E := env) (t' := .d (dI (plc (C.on (B.on (A.on L)))))) (ob2 := [.pv [.d (nodesD ns), .og 1 (0 + A.count + B.count + C.count)], .x (neC ((C.on (B.on (A.on L))).map coN) none) (0 + A.count + B.count + C.count), .pv [.lp 0 0], .pv [.d (namesD names)], .pv (n.row.map .d), .pv [.clo 40 [.lp 2 0, .lp 4 0, .lp 3 0]], .pv [.lp 0 0], .pv [.d (dB true)], .pv [.lp 0 0], .pv [.d (dB false)], .pv [.d (dI 12), .d (dI (plc (A.on L))), .d (dI (plc (B.on (A.on L)))), .d (dI 0), .d (dI 0), .d (.nl 5)]]) [0, 1, 8, 9] [0, (0 + A.count + B.count), 0, 0] false rfl rfl h3 rfl rfl rfl rfl rfl rfl rfl ⟨rfl, rfl, rfl, rfl, trivial⟩ (.inl rfl) rfl (fun h => nomatch h) rfl rfl ?_ | refine WG.adoptD 21 5 5 93 rfl rfl rfl ?_ | refine WG.loT (R := [_, _, _, _, _, _, _, _, _]) (v := []) rfl rfl (put3I ns L ⟨12, 0, 0, 0, 0, []⟩ A B C hl) rfl rfl ?_)
  refine W.ret ?_
  exact RetR.own (ob' := loI ns ((Pt.n3 12 0 A B C).on L) (0 + A.count + B.count + C.count + 1) ++ [bxL, bxV names, bxN n, bxB, bxL, bxT true, bxL, bxT false]) ⟨[0, 1, 2, 3, 4, 5, 6, 7, 8, 9], [0, 0, 0, 0, 0, 0, 0, 0, 0, 0], 12⟩ (.inl rfl) rfl (by first | trivial | exact resOK_of (E := env) rfl) rfl rfl rfl rfl rfl rfl ⟨(by simp [Ob.ren, Rn.of, Rn.ix, T.renL, T.ren] <;> rfl), (by simp [Ob.ren, Rn.of, Rn.ix, T.renL, T.ren] <;> rfl), rfl, rfl, rfl, rfl, rfl, rfl, rfl, rfl, trivial⟩ rfl ⟨rfl, rfl⟩

set_option maxHeartbeats 4000000 in
theorem choiceNot_fn (ns : List Nd) (names : List ByteArray) (n : Nd) (L : List Co) (A B C : Pt) (h1 : CloI ns 83 [.lp 2 0] ([bxL]) A L) (h2 : CloI ns 79 [.lp 2 0, .lp 3 0] (truO false) B (A.on L)) (h3 : CloI ns 79 [.lp 2 0, .lp 3 0] (truO true) C (B.on (A.on L))) (hl : (C.on (B.on (A.on L))).length ≤ 100000) :
    FunQ env.P 48 [.lp 0 0, .clo 83 [.lp 2 0], .clo 79 [.lp 3 0, .lp 4 0], .clo 79 [.lp 5 0, .lp 6 0]] (loI ns L 0 ++ [bxL, bxL, bxT false, bxL, bxT true]) (just (.d (dI (plc ((Pt.n3 12 0 A B C).on L)))) (loI ns ((Pt.n3 12 0 A B C).on L) (Pt.n3 12 0 A B C).count ++ [bxL, bxL, bxT false, bxL, bxT true])) := by
  have hcnt : (Pt.n3 12 0 A B C).count = 0 + A.count + B.count + C.count + 1 := by rw [n3_count]; omega
  rw [hcnt]
  clear hcnt
  unfold CloI at h1 h2 h3
  refine FunQ.intro Tryz.func48 rfl (by kernel_rfl) rfl ?_
  unfold Go.Proofs.YtmmjbpgdkokjgaaGreat.loI
  repeat' (first | refine W.seq ?_ | refine W.rg ?_ | refine WG.nil ?_ | refine WG.run' (E := env) ?_ | refine WG.cq (E := env) (t' := .d (dI (plc (A.on L)))) (ob2 := [.pv [.d (nodesD ns), .og 1 (0 + A.count)], .x (neC ((A.on L).map coN) none) (0 + A.count), .pv [.lp 0 0], .pv [.lp 0 0], .pv [.d (dB false)], .pv [.lp 0 0], .pv [.d (dB true)], .pv [.d (dI 12), .d (dI 0), .d (dI 0), .d (dI 0), .d (dI 0), .d (.nl 5)]]) [0, 1, 2] [0, 0, 0] false rfl rfl h1 rfl rfl rfl rfl rfl rfl rfl ⟨rfl, rfl, rfl, trivial⟩ (.inl rfl) rfl (fun h => nomatch h) rfl rfl ?_ | refine WG.cq (E := env) (t' := .d (dI (plc (B.on (A.on L))))) (ob2 := [.pv [.d (nodesD ns), .og 1 (0 + A.count + B.count)], .x (neC ((B.on (A.on L)).map coN) none) (0 + A.count + B.count), .pv [.lp 0 0], .pv [.lp 0 0], .pv [.d (dB false)], .pv [.lp 0 0], .pv [.d (dB true)], .pv [.d (dI 12), .d (dI (plc (A.on L))), .d (dI 0), .d (dI 0), .d (dI 0), .d (.nl 5)]]) [0, 1, 3, 4] [0, (0 + A.count), 0, 0] false rfl rfl h2 rfl rfl rfl rfl rfl rfl rfl ⟨rfl, rfl, rfl, rfl, trivial⟩ (.inl rfl) rfl (fun h => nomatch h) rfl rfl ?_ | refine WG.cq (E := env) (t' := .d (dI (plc (C.on (B.on (A.on L)))))) (ob2 := [.pv [.d (nodesD ns), .og 1 (0 + A.count + B.count + C.count)], .x (neC ((C.on (B.on (A.on L))).map coN) none) (0 + A.count + B.count + C.count), .pv [.lp 0 0], .pv [.lp 0 0], .pv [.d (dB false)], .pv [.lp 0 0], .pv [.d (dB true)], .pv [.d (dI 12), .d (dI (plc (A.on L))), .d (dI (plc (B.on (A.on L)))), .d (dI 0), .d (dI 0), .d (.nl 5)]]) [0, 1, 5, 6] [0, (0 + A.count + B.count), 0, 0] false rfl rfl h3 rfl rfl rfl rfl rfl rfl rfl ⟨rfl, rfl, rfl, rfl, trivial⟩ (.inl rfl) rfl (fun h => nomatch h) rfl rfl ?_ | refine WG.adoptD 21 5 5 93 rfl rfl rfl ?_ | refine WG.loT (R := [_, _, _, _, _, _]) (v := []) rfl rfl (put3I ns L ⟨12, 0, 0, 0, 0, []⟩ A B C hl) rfl rfl ?_)
  refine W.ret ?_
  exact RetR.own (ob' := loI ns ((Pt.n3 12 0 A B C).on L) (0 + A.count + B.count + C.count + 1) ++ [bxL, bxL, bxT false, bxL, bxT true]) ⟨[0, 1, 2, 3, 4, 5, 6], [0, 0, 0, 0, 0, 0, 0], 9⟩ (.inl rfl) rfl (by first | trivial | exact resOK_of (E := env) rfl) rfl rfl rfl rfl rfl rfl ⟨(by simp [Ob.ren, Rn.of, Rn.ix, T.renL, T.ren] <;> rfl), (by simp [Ob.ren, Rn.of, Rn.ix, T.renL, T.ren] <;> rfl), rfl, rfl, rfl, rfl, rfl, trivial⟩ rfl ⟨rfl, rfl⟩

set_option maxHeartbeats 4000000 in
theorem choiceSel_fn (ns : List Nd) (names : List ByteArray) (n : Nd) (L : List Co) (A B C : Pt) (h1 : CloI ns 39 [.lp 2 0, .lp 4 0, .lp 3 0] (envA names n) A L) (h2 : CloI ns 81 [.lp 2 0] ([bxL]) B (A.on L)) (h3 : CloI ns 82 [.lp 2 0] ([bxL]) C (B.on (A.on L))) (hl : (C.on (B.on (A.on L))).length ≤ 100000) :
    FunQ env.P 48 [.lp 0 0, .clo 39 [.lp 2 0, .lp 4 0, .lp 3 0], .clo 81 [.lp 5 0], .clo 82 [.lp 5 0]] (loI ns L 0 ++ [bxL, bxV names, bxN n, bxL]) (just (.d (dI (plc ((Pt.n3 12 0 A B C).on L)))) (loI ns ((Pt.n3 12 0 A B C).on L) (Pt.n3 12 0 A B C).count ++ [bxL, bxV names, bxN n, bxL])) := by
  have hcnt : (Pt.n3 12 0 A B C).count = 0 + A.count + B.count + C.count + 1 := by rw [n3_count]; omega
  rw [hcnt]
  clear hcnt
  unfold CloI at h1 h2 h3
  refine FunQ.intro Tryz.func48 rfl (by kernel_rfl) rfl ?_
  unfold Go.Proofs.YtmmjbpgdkokjgaaGreat.loI
  repeat' (first | refine W.seq ?_ | refine W.rg ?_ | refine WG.nil ?_ | refine WG.run' (E := env) ?_ | refine WG.cq (E := env) (t' := .d (dI (plc (A.on L)))) (ob2 := [.pv [.d (nodesD ns), .og 1 (0 + A.count)], .x (neC ((A.on L).map coN) none) (0 + A.count), .pv [.lp 0 0], .pv [.d (namesD names)], .pv (n.row.map .d), .pv [.lp 0 0], .pv [.d (dI 12), .d (dI 0), .d (dI 0), .d (dI 0), .d (dI 0), .d (.nl 5)]]) [0, 1, 2, 3, 4] [0, 0, 0, 0, 0] false rfl rfl h1 rfl rfl rfl rfl rfl rfl rfl ⟨rfl, rfl, rfl, rfl, rfl, trivial⟩ (.inl rfl) rfl (fun h => nomatch h) rfl rfl ?_ | refine WG.cq (E := env) (t' := .d (dI (plc (B.on (A.on L))))) (ob2 := [.pv [.d (nodesD ns), .og 1 (0 + A.count + B.count)], .x (neC ((B.on (A.on L)).map coN) none) (0 + A.count + B.count), .pv [.lp 0 0], .pv [.d (namesD names)], .pv (n.row.map .d), .pv [.lp 0 0], .pv [.d (dI 12), .d (dI (plc (A.on L))), .d (dI 0), .d (dI 0), .d (dI 0), .d (.nl 5)]]) [0, 1, 5] [0, (0 + A.count), 0] false rfl rfl h2 rfl rfl rfl rfl rfl rfl rfl ⟨rfl, rfl, rfl, trivial⟩ (.inl rfl) rfl (fun h => nomatch h) rfl rfl ?_ | refine WG.cq (E := env) (t' := .d (dI (plc (C.on (B.on (A.on L)))))) (ob2 := [.pv [.d (nodesD ns), .og 1 (0 + A.count + B.count + C.count)], .x (neC ((C.on (B.on (A.on L))).map coN) none) (0 + A.count + B.count + C.count), .pv [.lp 0 0], .pv [.d (namesD names)], .pv (n.row.map .d), .pv [.lp 0 0], .pv [.d (dI 12), .d (dI (plc (A.on L))), .d (dI (plc (B.on (A.on L)))), .d (dI 0), .d (dI 0), .d (.nl 5)]]) [0, 1, 5] [0, (0 + A.count + B.count), 0] false rfl rfl h3 rfl rfl rfl rfl rfl rfl rfl ⟨rfl, rfl, rfl, trivial⟩ (.inl rfl) rfl (fun h => nomatch h) rfl rfl ?_ | refine WG.adoptD 21 5 5 93 rfl rfl rfl ?_ | refine WG.loT (R := [_, _, _, _, _]) (v := []) rfl rfl (put3I ns L ⟨12, 0, 0, 0, 0, []⟩ A B C hl) rfl rfl ?_)
  refine W.ret ?_
  exact RetR.own (ob' := loI ns ((Pt.n3 12 0 A B C).on L) (0 + A.count + B.count + C.count + 1) ++ [bxL, bxV names, bxN n, bxL]) ⟨[0, 1, 2, 3, 4, 5], [0, 0, 0, 0, 0, 0], 8⟩ (.inl rfl) rfl (by first | trivial | exact resOK_of (E := env) rfl) rfl rfl rfl rfl rfl rfl ⟨(by simp [Ob.ren, Rn.of, Rn.ix, T.renL, T.ren] <;> rfl), (by simp [Ob.ren, Rn.of, Rn.ix, T.renL, T.ren] <;> rfl), rfl, rfl, rfl, rfl, trivial⟩ rfl ⟨rfl, rfl⟩

end Go.Proofs.YtmmjbpgdkokjgaaGreat
end

section
set_option linter.unusedVariables false
set_option linter.unusedSimpArgs false
set_option maxRecDepth 100000
namespace Go.Proofs.YtmmjbpgdkokjgaaGreat
open Go.RowKit

theorem cellsLeaf_fn (k : Int) (hk : 0 ≤ k ∧ k ≤ 5) : Fun env.P 76 [.agg (V.mk k 0 noS [] []).rowP] (.og 0 0) [.gr 5 93 ((cellK k).map Cell.row) 0 false] :=
  cellsP_fn 1 (V.mk k 0 noS [] []) (by simp [V.count, V.counts]) (by omega) ⟨⟨hk.1, by omega⟩, fun h => absurd rfl h, fun h => absurd rfl h, fun h => absurd rfl h, by decide, rfl, fun h => absurd h (by omega), fun _ => rfl, (fun _ h => by cases h), trivial, trivial⟩
theorem cellsTru_fn (b : Bool) : Fun env.P 76 [.agg (V.mk (if b then 2 else 1) 0 noS [] []).rowP] (.og 0 0) [.gr 5 93 ((cellK (if b then 2 else 1)).map Cell.row) 0 false] := by
  cases b
  · exact cellsLeaf_fn 1 (by decide)
  · exact cellsLeaf_fn 2 (by decide)
theorem truthK_fn (ns : List Nd) (L : List Co) (b : Bool) (hl : L.length ≤ 100000) : CloI ns 79 [.lp 2 0, .lp 3 0] (truO b) (truP b) L := truthF_fn ns L b (cellsTru_fn b) hl

set_option maxHeartbeats 2000000 in
theorem call1_fn (ns : List Nd) (L : List Co) (hl : L.length ≤ 100000) : CloI ns 83 [.lp 2 0] [bxL] (Pt.lf 1 0) L := by
  unfold CloI
  refine FunQ.intro Tryz.func83 rfl (by kernel_rfl) rfl ?_
  unfold Go.Proofs.YtmmjbpgdkokjgaaGreat.loI
  repeat' (first | refine W.seq ?_ | refine W.rg ?_ | refine WG.nil ?_ | refine WG.run' (E := env) ?_ | refine WG.adoptD 3 5 5 93 rfl rfl rfl ?_ | refine WG.loT (R := [_]) (v := []) rfl rfl (putLeafI ns L 1 0 hl) rfl rfl ?_)
  refine W.ret ?_
  exact RetR.own (ob' := loI ns ((Pt.lf 1 0).on L) 1 ++ [bxL]) ⟨[0, 1, 2], [0, 0, 0], 4⟩ (.inl rfl) rfl (by first | trivial | exact resOK_of (E := env) rfl) rfl rfl rfl rfl rfl rfl ⟨rfl, rfl, rfl, trivial⟩ rfl ⟨rfl, rfl⟩

set_option maxHeartbeats 2000000 in
theorem callOne1_fn (ns : List Nd) (L : List Co) (hl : L.length ≤ 100000) : CloI ns 81 [.lp 2 0] [bxL] (Pt.lf 1 0) L := by
  unfold CloI
  refine FunQ.intro Tryz.func81 rfl (by kernel_rfl) rfl ?_
  unfold Go.Proofs.YtmmjbpgdkokjgaaGreat.loI
  repeat' (first | refine W.seq ?_ | refine W.rg ?_ | refine WG.nil ?_ | refine WG.run' (E := env) ?_ | refine WG.adoptD 3 5 5 93 rfl rfl rfl ?_ | refine WG.loT (R := [_]) (v := []) rfl rfl (putLeafI ns L 1 0 hl) rfl rfl ?_)
  refine W.ret ?_
  exact RetR.own (ob' := loI ns ((Pt.lf 1 0).on L) 1 ++ [bxL]) ⟨[0, 1, 2], [0, 0, 0], 4⟩ (.inl rfl) rfl (by first | trivial | exact resOK_of (E := env) rfl) rfl rfl rfl rfl rfl rfl ⟨rfl, rfl, rfl, trivial⟩ rfl ⟨rfl, rfl⟩

set_option maxHeartbeats 2000000 in
theorem callOne2_fn (ns : List Nd) (L : List Co) (hl : L.length ≤ 100000) : CloI ns 82 [.lp 2 0] [bxL] (Pt.lf 17 0) L := by
  unfold CloI
  refine FunQ.intro Tryz.func82 rfl (by kernel_rfl) rfl ?_
  unfold Go.Proofs.YtmmjbpgdkokjgaaGreat.loI
  repeat' (first | refine W.seq ?_ | refine W.rg ?_ | refine WG.nil ?_ | refine WG.run' (E := env) ?_ | refine WG.adoptD 3 5 5 93 rfl rfl rfl ?_ | refine WG.loT (R := [_]) (v := []) rfl rfl (putLeafI ns L 17 0 hl) rfl rfl ?_)
  refine W.ret ?_
  exact RetR.own (ob' := loI ns ((Pt.lf 17 0).on L) 1 ++ [bxL]) ⟨[0, 1, 2], [0, 0, 0], 4⟩ (.inl rfl) rfl (by first | trivial | exact resOK_of (E := env) rfl) rfl rfl rfl rfl rfl rfl ⟨rfl, rfl, rfl, trivial⟩ rfl ⟨rfl, rfl⟩

end Go.Proofs.YtmmjbpgdkokjgaaGreat
end
