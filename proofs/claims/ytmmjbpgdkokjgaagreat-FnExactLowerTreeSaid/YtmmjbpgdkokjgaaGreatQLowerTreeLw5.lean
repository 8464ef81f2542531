/-
  Texts of this claim in one. Conditions: none.
-/
import Derived.Test.YtmmjbpgdkokjgaaGreatQLowerTreeLwJ
import Derived.Test.YtmmjbpgdkokjgaaGreatQLowerTreeLwD
import Derived.Test.YtmmjbpgdkokjgaaGreatQLowerTreeTr1
section
set_option linter.unusedVariables false
set_option linter.unusedSimpArgs false
set_option maxRecDepth 100000
namespace Go.Proofs.YtmmjbpgdkokjgaaGreat
open Go.RowKit

/-- What the program makes of the node j. -/
def GoI (ns : List Nd) (j : Int) (P : List ByteArray → Pt) (c : Nat) : Prop := (∀ names, (P names).count ≤ 5 * c) ∧ ∀ (names : List ByteArray) (L : List Co), names.length + c ≤ 10000 → L.length + 5 * c ≤ 5000 →
  FunQ env.P 18 [.lp 0 0, .d (dI j), .d (namesD names)] (loI ns L 0) (just (.d (dI (plc ((P names).on L)))) (loI ns ((P names).on L) (P names).count))

theorem lower1_fn {ns : List Nd} {n : Nd} {names : List ByteArray} {A : List ByteArray → Pt} {c : Nat} (h : GoI ns n.a A c) (L : List Co) (hn : names.length + c ≤ 10000) (hl : L.length + 5 * c ≤ 5000) : CloI ns 39 [.lp 2 0, .lp 4 0, .lp 3 0] (envA names n) (A names) L := by
  have h1 := h.2 names L hn hl
  unfold CloI
  refine FunQ.intro Tryz.func39 rfl (by kernel_rfl) rfl ?_
  unfold Go.Proofs.YtmmjbpgdkokjgaaGreat.loI
  repeat' (first | refine W.seq ?_ | refine W.rg ?_ | refine WG.nil ?_ | refine WG.run' (E := env) ?_ | refine WG.loI rfl rfl h1 rfl rfl ?_)
  refine W.ret ?_
  exact RetR.own (ob' := loI ns ((A names).on L) (A names).count ++ envA names n) ⟨[0, 1, 2, 3, 4], [0, 0, 0, 0, 0], 5⟩ (.inl rfl) rfl (by first | trivial | exact resOK_of (E := env) rfl) rfl rfl rfl rfl rfl rfl ⟨by simp [Ob.ren, Rn.of, Rn.ix, T.renL, T.ren] <;> rfl, by simp [Ob.ren, Rn.of, Rn.ix, T.renL, T.ren] <;> rfl, rfl, rfl, rfl, trivial⟩ rfl ⟨rfl, rfl⟩

theorem lower2_fn {ns : List Nd} {n : Nd} {names : List ByteArray} {A : List ByteArray → Pt} {c : Nat} (h : GoI ns n.b A c) (L : List Co) (hn : names.length + c ≤ 10000) (hl : L.length + 5 * c ≤ 5000) : CloI ns 40 [.lp 2 0, .lp 4 0, .lp 3 0] (envA names n) (A names) L := by
  have h1 := h.2 names L hn hl
  unfold CloI
  refine FunQ.intro Tryz.func40 rfl (by kernel_rfl) rfl ?_
  unfold Go.Proofs.YtmmjbpgdkokjgaaGreat.loI
  repeat' (first | refine W.seq ?_ | refine W.rg ?_ | refine WG.nil ?_ | refine WG.run' (E := env) ?_ | refine WG.loI rfl rfl h1 rfl rfl ?_)
  refine W.ret ?_
  exact RetR.own (ob' := loI ns ((A names).on L) (A names).count ++ envA names n) ⟨[0, 1, 2, 3, 4], [0, 0, 0, 0, 0], 5⟩ (.inl rfl) rfl (by first | trivial | exact resOK_of (E := env) rfl) rfl rfl rfl rfl rfl rfl ⟨by simp [Ob.ren, Rn.of, Rn.ix, T.renL, T.ren] <;> rfl, by simp [Ob.ren, Rn.of, Rn.ix, T.renL, T.ren] <;> rfl, rfl, rfl, rfl, trivial⟩ rfl ⟨rfl, rfl⟩

end Go.Proofs.YtmmjbpgdkokjgaaGreat
end

section
set_option linter.unusedVariables false
set_option linter.unusedSimpArgs false
set_option maxRecDepth 100000
namespace Go.Proofs.YtmmjbpgdkokjgaaGreat
open Go.RowKit

set_option maxHeartbeats 4000000 in
theorem lower3_fn {ns : List Nd} {n : Nd} {names : List ByteArray} {B : List ByteArray → Pt} {c : Nat} (h : GoI ns n.b B c) (L : List Co) (hn : names.length + c ≤ 10000) (hl : L.length + 5 * c ≤ 5000) : CloI ns 50 [.lp 2 0, .lp 5 0] (envB names n) (Pt.n3 12 0 (B names) (truP true) (truP false)) L := by
  have hc := h.1 names
  have q1 := Pt.on_length (B names) L
  have q2 := Pt.on_length (truP true) ((B names).on L)
  have q3 := Pt.on_length (truP false) ((truP true).on ((B names).on L))
  rw [tru_count] at q2 q3
  have hch := choiceIn_fn ns names n L (B names) (truP true) (truP false) (lower2_fn h L hn hl) (truthK_fn ns _ true (by omega)) (truthK_fn ns _ false (by omega)) (by omega)
  unfold CloI
  refine FunQ.intro Tryz.func50 rfl (by kernel_rfl) rfl ?_
  unfold Go.Proofs.YtmmjbpgdkokjgaaGreat.loI
  repeat' (first | refine W.dre' (id := 1) [3, 5, 6] (fun f => bif bt f 4 then [.pv [.d (nodesD ns), .og 1 (0 + (Pt.n3 12 0 (B names) (truP true) (truP false)).count)], .x (neC (((Pt.n3 12 0 (B names) (truP true) (truP false)).on L).map coN) none) (0 + (Pt.n3 12 0 (B names) (truP true) (truP false)).count), .pv [.lp 0 0], .pv [.d (namesD names)], .pv (n.row.map .d), .pv [.clo 40 [.lp 2 0, .lp 4 0, .lp 3 0]], .pv [.lp 0 0], .pv [.d (dB true)], .pv [.lp 0 0], .pv [.d (dB false)]] else bif bt f 2 then [.pv [.d (nodesD ns), .og 1 0], .x (neC (L.map coN) none) 0, .pv [.lp 0 0], .pv [.d (namesD names)], .pv (n.row.map .d), .pv [.clo 40 [.lp 2 0, .lp 4 0, .lp 3 0]], .pv [.lp 0 0], .pv [.d (dB true)], .pv [.lp 0 0], .pv [.d (dB false)]] else bif bt f 1 then [.pv [.d (nodesD ns), .og 1 0], .x (neC (L.map coN) none) 0, .pv [.lp 0 0], .pv [.d (namesD names)], .pv (n.row.map .d), .pv [.clo 40 [.lp 2 0, .lp 4 0, .lp 3 0]], .pv [.lp 0 0], .pv [.d (dB true)]] else [.pv [.d (nodesD ns), .og 1 0], .x (neC (L.map coN) none) 0, .pv [.lp 0 0], .pv [.d (namesD names)], .pv (n.row.map .d), .pv [.clo 40 [.lp 2 0, .lp 4 0, .lp 3 0]]]) [(0, [0, 1, 3]), (0, [0, 1, 3]), (0, [0]), (1, [0]), (0, [0, 1]), (2, [1]), (4, [3]), (0, [7])] [.pv [.d (nodesD ns), .og 1 (0 + (Pt.n3 12 0 (B names) (truP true) (truP false)).count)], .x (neC (((Pt.n3 12 0 (B names) (truP true) (truP false)).on L).map coN) none) (0 + (Pt.n3 12 0 (B names) (truP true) (truP false)).count), .pv [.lp 0 0], .pv [.d (namesD names)], .pv (n.row.map .d), .pv [.clo 40 [.lp 2 0, .lp 4 0, .lp 3 0]], .pv [.lp 0 0], .pv [.d (dB true)], .pv [.lp 0 0], .pv [.d (dB false)]] ?_ | refine WE.mkd (.clo 79 [.lp 6 0, .lp 7 0]) ?_ (.c (OpS1.cqM (E := env) [0, 1] [0, 0] rfl rfl (truthC_fn ns L true) rfl rfl rfl rfl rfl rfl rfl ⟨rfl, rfl, trivial⟩ rfl rfl rfl) .n) | refine WE.mkd (.clo 79 [.lp 8 0, .lp 9 0]) ?_ (.c (OpS1.cqM (E := env) [0, 1] [0, 0] rfl rfl (truthC_fn ns L false) rfl rfl rfl rfl rfl rfl rfl ⟨rfl, rfl, trivial⟩ rfl rfl rfl) .n) | refine WE.mkd (.d (dI (plc ((Pt.n3 12 0 (B names) (truP true) (truP false)).on L)))) ?_ (.c (OpS1.cqM (E := env) [0, 1, 2, 3, 4, 5, 6, 7, 8, 9] [0, 0, 0, 0, 0, 0, 0, 0, 0, 0] rfl rfl hch rfl rfl rfl rfl rfl rfl rfl ⟨rfl, rfl, rfl, rfl, rfl, rfl, rfl, rfl, rfl, rfl, trivial⟩ rfl rfl rfl) .n) | refine WE.s' (E := env) (t := .clo _ _) ?_ | refine WE.nil ?_ | refine WE.s' (E := env) (t := .d _) ?_ | refine WE.s' (E := env) (t := .lp _ _) ?_ | refine WE.s' (E := env) (t := .og _ _) ?_ | refine WE.s' (E := env) (t := .ea _ _) ?_ | refine WE.s' (E := env) (t := .agg _) ?_ | refine WE.s' (E := env) (t := .tup _) ?_ | refine W.seq ?_ | refine W.rg ?_ | refine WG.nil ?_ | refine WG.run' (E := env) ?_ | fail)
  refine W.ret ?_
  exact RetR.own (ob' := loI ns ((Pt.n3 12 0 (B names) (truP true) (truP false)).on L) (Pt.n3 12 0 (B names) (truP true) (truP false)).count ++ envB names n) ⟨[0, 1, 2, 3, 4, 5], [0, 0, 0, 0, 0, 0], 10⟩ (.inl rfl) rfl (by first | trivial | exact resOK_of (E := env) rfl) rfl rfl rfl rfl rfl rfl ⟨by simp [Ob.ren, Rn.of, Rn.ix, T.renL, T.ren] <;> rfl, by simp [Ob.ren, Rn.of, Rn.ix, T.renL, T.ren] <;> rfl, rfl, rfl, rfl, rfl, trivial⟩ rfl ⟨rfl, rfl⟩

set_option maxHeartbeats 4000000 in
theorem lower4_fn {ns : List Nd} {n : Nd} {names : List ByteArray} {B : List ByteArray → Pt} {c : Nat} (h : GoI ns n.b B c) (L : List Co) (hn : names.length + c ≤ 10000) (hl : L.length + 5 * c ≤ 5000) : CloI ns 51 [.lp 2 0, .lp 5 0] (envB names n) (Pt.n3 12 0 (B names) (truP true) (truP false)) L := by
  have hc := h.1 names
  have q1 := Pt.on_length (B names) L
  have q2 := Pt.on_length (truP true) ((B names).on L)
  have q3 := Pt.on_length (truP false) ((truP true).on ((B names).on L))
  rw [tru_count] at q2 q3
  have hch := choiceIn_fn ns names n L (B names) (truP true) (truP false) (lower2_fn h L hn hl) (truthK_fn ns _ true (by omega)) (truthK_fn ns _ false (by omega)) (by omega)
  unfold CloI
  refine FunQ.intro Tryz.func51 rfl (by kernel_rfl) rfl ?_
  unfold Go.Proofs.YtmmjbpgdkokjgaaGreat.loI
  repeat' (first | refine W.dre' (id := 1) [3, 5, 6] (fun f => bif bt f 4 then [.pv [.d (nodesD ns), .og 1 (0 + (Pt.n3 12 0 (B names) (truP true) (truP false)).count)], .x (neC (((Pt.n3 12 0 (B names) (truP true) (truP false)).on L).map coN) none) (0 + (Pt.n3 12 0 (B names) (truP true) (truP false)).count), .pv [.lp 0 0], .pv [.d (namesD names)], .pv (n.row.map .d), .pv [.clo 40 [.lp 2 0, .lp 4 0, .lp 3 0]], .pv [.lp 0 0], .pv [.d (dB true)], .pv [.lp 0 0], .pv [.d (dB false)]] else bif bt f 2 then [.pv [.d (nodesD ns), .og 1 0], .x (neC (L.map coN) none) 0, .pv [.lp 0 0], .pv [.d (namesD names)], .pv (n.row.map .d), .pv [.clo 40 [.lp 2 0, .lp 4 0, .lp 3 0]], .pv [.lp 0 0], .pv [.d (dB true)], .pv [.lp 0 0], .pv [.d (dB false)]] else bif bt f 1 then [.pv [.d (nodesD ns), .og 1 0], .x (neC (L.map coN) none) 0, .pv [.lp 0 0], .pv [.d (namesD names)], .pv (n.row.map .d), .pv [.clo 40 [.lp 2 0, .lp 4 0, .lp 3 0]], .pv [.lp 0 0], .pv [.d (dB true)]] else [.pv [.d (nodesD ns), .og 1 0], .x (neC (L.map coN) none) 0, .pv [.lp 0 0], .pv [.d (namesD names)], .pv (n.row.map .d), .pv [.clo 40 [.lp 2 0, .lp 4 0, .lp 3 0]]]) [(0, [0, 1, 3]), (0, [0, 1, 3]), (0, [0]), (1, [0]), (0, [0, 1]), (2, [1]), (4, [3]), (0, [7])] [.pv [.d (nodesD ns), .og 1 (0 + (Pt.n3 12 0 (B names) (truP true) (truP false)).count)], .x (neC (((Pt.n3 12 0 (B names) (truP true) (truP false)).on L).map coN) none) (0 + (Pt.n3 12 0 (B names) (truP true) (truP false)).count), .pv [.lp 0 0], .pv [.d (namesD names)], .pv (n.row.map .d), .pv [.clo 40 [.lp 2 0, .lp 4 0, .lp 3 0]], .pv [.lp 0 0], .pv [.d (dB true)], .pv [.lp 0 0], .pv [.d (dB false)]] ?_ | refine WE.mkd (.clo 79 [.lp 6 0, .lp 7 0]) ?_ (.c (OpS1.cqM (E := env) [0, 1] [0, 0] rfl rfl (truthC_fn ns L true) rfl rfl rfl rfl rfl rfl rfl ⟨rfl, rfl, trivial⟩ rfl rfl rfl) .n) | refine WE.mkd (.clo 79 [.lp 8 0, .lp 9 0]) ?_ (.c (OpS1.cqM (E := env) [0, 1] [0, 0] rfl rfl (truthC_fn ns L false) rfl rfl rfl rfl rfl rfl rfl ⟨rfl, rfl, trivial⟩ rfl rfl rfl) .n) | refine WE.mkd (.d (dI (plc ((Pt.n3 12 0 (B names) (truP true) (truP false)).on L)))) ?_ (.c (OpS1.cqM (E := env) [0, 1, 2, 3, 4, 5, 6, 7, 8, 9] [0, 0, 0, 0, 0, 0, 0, 0, 0, 0] rfl rfl hch rfl rfl rfl rfl rfl rfl rfl ⟨rfl, rfl, rfl, rfl, rfl, rfl, rfl, rfl, rfl, rfl, trivial⟩ rfl rfl rfl) .n) | refine WE.s' (E := env) (t := .clo _ _) ?_ | refine WE.nil ?_ | refine WE.s' (E := env) (t := .d _) ?_ | refine WE.s' (E := env) (t := .lp _ _) ?_ | refine WE.s' (E := env) (t := .og _ _) ?_ | refine WE.s' (E := env) (t := .ea _ _) ?_ | refine WE.s' (E := env) (t := .agg _) ?_ | refine WE.s' (E := env) (t := .tup _) ?_ | refine W.seq ?_ | refine W.rg ?_ | refine WG.nil ?_ | refine WG.run' (E := env) ?_ | fail)
  refine W.ret ?_
  exact RetR.own (ob' := loI ns ((Pt.n3 12 0 (B names) (truP true) (truP false)).on L) (Pt.n3 12 0 (B names) (truP true) (truP false)).count ++ envB names n) ⟨[0, 1, 2, 3, 4, 5], [0, 0, 0, 0, 0, 0], 10⟩ (.inl rfl) rfl (by first | trivial | exact resOK_of (E := env) rfl) rfl rfl rfl rfl rfl rfl ⟨by simp [Ob.ren, Rn.of, Rn.ix, T.renL, T.ren] <;> rfl, by simp [Ob.ren, Rn.of, Rn.ix, T.renL, T.ren] <;> rfl, rfl, rfl, rfl, rfl, trivial⟩ rfl ⟨rfl, rfl⟩

end Go.Proofs.YtmmjbpgdkokjgaaGreat
end

section
set_option linter.unusedVariables false
set_option linter.unusedSimpArgs false
set_option maxRecDepth 100000
namespace Go.Proofs.YtmmjbpgdkokjgaaGreat
open Go.RowKit

/-- What is made of the node j. -/
def GoL (ns : List Nd) (j : Int) (P : List ByteArray → Pt) (c : Nat) : Prop := (∀ names, (P names).count ≤ 5 * c) ∧ ∀ (names : List ByteArray) (L : List Co), names.length + c ≤ 10000 → L.length + 5 * c ≤ 5000 →
  FunQ env.P 15 [.lp 0 0, .d (dI j), .d (namesD names)] (loS ns L 0) (just (.d (dI (plc ((P names).on L)))) (loS ns ((P names).on L) (P names).count))

section
variable {ns : List Nd} {n : Nd} {names : List ByteArray} {L : List Co} {A B C : List ByteArray → Pt}

set_option maxHeartbeats 4000000 in
theorem l6Leaf_1 (hop : n.op = 1) (hn : names.length ≤ 10000) (hl : L.length ≤ 5000) : FunQ env.P 28 [.lp 0 0, .d (.agg n.row), .d (namesD names)] (loS ns L 0) (just (.d (dI (plc ((Pt.lf 1 0).on L)))) (loS ns ((Pt.lf 1 0).on L) (Pt.lf 1 0).count)) := by
  obtain ⟨op, a, b, c, num, text⟩ := n
  obtain rfl : op = 1 := hop
  refine FunQ.intro Tryz.func28 rfl (by kernel_rfl) rfl ?_
  unfold Go.Proofs.YtmmjbpgdkokjgaaGreat.loS
  repeat' (first | refine W.seq ?_ | refine W.rg ?_ | refine W.cond_true' ?_ | refine WG.nil ?_ | refine WG.run' (E := env) ?_ | refine W.block ?_ | refine WG.loS rfl rfl (putLeafS ns _ _ _ (by (try simp only [Pt.on_length, tru_count, cv_count, lf_count, n1_count, n2_count, n3_count] at *); omega)) rfl rfl ?_)
  refine W.ret ?_
  exact RetR.loS (.inl rfl) rfl (by first | trivial | exact resOK_of (E := env) rfl) rfl rfl rfl rfl rfl

set_option maxHeartbeats 4000000 in
theorem l6Leaf_2 (hop : n.op = 2) (hn : names.length ≤ 10000) (hl : L.length ≤ 5000) : FunQ env.P 28 [.lp 0 0, .d (.agg n.row), .d (namesD names)] (loS ns L 0) (just (.d (dI (plc ((Pt.cv (cellN n.num)).on L)))) (loS ns ((Pt.cv (cellN n.num)).on L) (Pt.cv (cellN n.num)).count)) := by
  obtain ⟨op, a, b, c, num, text⟩ := n
  obtain rfl : op = 2 := hop
  have hv := l6Num_fn num
  refine FunQ.intro Tryz.func28 rfl (by kernel_rfl) rfl ?_
  unfold Go.Proofs.YtmmjbpgdkokjgaaGreat.loS
  repeat' (first | refine W.seq ?_ | refine W.rg ?_ | refine W.cond_true' ?_ | refine W.cond_false' ?_ | refine WG.nil ?_ | refine WG.run' (E := env) ?_ | refine W.block ?_ | refine WG.loS rfl rfl (putCvS ns _ (cellN num) (by (try simp only [Pt.on_length, tru_count, cv_count, lf_count, n1_count, n2_count, n3_count] at *); omega)) rfl rfl ?_ | refine WG.c (E := env) rfl rfl (hv) rfl rfl ?_)
  refine W.ret ?_
  exact RetR.loS (.inl rfl) rfl (by first | trivial | exact resOK_of (E := env) rfl) rfl rfl rfl rfl rfl

set_option maxHeartbeats 4000000 in
theorem l6Leaf_3 (hop : n.op = 3) (hn : names.length ≤ 10000) (hl : L.length ≤ 5000) : FunQ env.P 28 [.lp 0 0, .d (.agg n.row), .d (namesD names)] (loS ns L 0) (just (.d (dI (plc ((Pt.cv (cellT n.text)).on L)))) (loS ns ((Pt.cv (cellT n.text)).on L) (Pt.cv (cellT n.text)).count)) := by
  obtain ⟨op, a, b, c, num, text⟩ := n
  obtain rfl : op = 3 := hop
  have hv := l6Str_fn text
  refine FunQ.intro Tryz.func28 rfl (by kernel_rfl) rfl ?_
  unfold Go.Proofs.YtmmjbpgdkokjgaaGreat.loS
  repeat' (first | refine W.seq ?_ | refine W.rg ?_ | refine W.cond_true' ?_ | refine W.cond_false' ?_ | refine WG.nil ?_ | refine WG.run' (E := env) ?_ | refine W.block ?_ | refine WG.loS rfl rfl (putCvS ns _ (cellT text) (by (try simp only [Pt.on_length, tru_count, cv_count, lf_count, n1_count, n2_count, n3_count] at *); omega)) rfl rfl ?_ | refine WG.c (E := env) rfl rfl (hv) rfl rfl ?_)
  refine W.ret ?_
  exact RetR.loS (.inl rfl) rfl (by first | trivial | exact resOK_of (E := env) rfl) rfl rfl rfl rfl rfl

set_option maxHeartbeats 4000000 in
theorem l6Leaf_4 (hop : n.op = 4) (hn : names.length ≤ 10000) (hl : L.length ≤ 5000) : FunQ env.P 28 [.lp 0 0, .d (.agg n.row), .d (namesD names)] (loS ns L 0) (just (.d (dI (plc ((Pt.cv (cellK n.num)).on L)))) (loS ns ((Pt.cv (cellK n.num)).on L) (Pt.cv (cellK n.num)).count)) := by
  obtain ⟨op, a, b, c, num, text⟩ := n
  obtain rfl : op = 4 := hop
  refine FunQ.intro Tryz.func28 rfl (by kernel_rfl) rfl ?_
  unfold Go.Proofs.YtmmjbpgdkokjgaaGreat.loS
  repeat' (first | refine W.seq ?_ | refine W.rg ?_ | refine W.cond_true' ?_ | refine W.cond_false' ?_ | refine WG.nil ?_ | refine WG.run' (E := env) ?_ | refine W.block ?_ | refine WG.pubK 3 rfl ?_ | refine WG.loS rfl rfl (putCvS ns _ (cellK num) (by (try simp only [Pt.on_length, tru_count, cv_count, lf_count, n1_count, n2_count, n3_count] at *); omega)) rfl rfl ?_)
  refine W.ret ?_
  exact RetR.loS (.inl rfl) rfl (by first | trivial | exact resOK_of (E := env) rfl) rfl rfl rfl rfl rfl

set_option maxHeartbeats 4000000 in
theorem l6Leaf_15 (hop : n.op = 15) (hn : names.length ≤ 10000) (hl : L.length ≤ 5000) : FunQ env.P 28 [.lp 0 0, .d (.agg n.row), .d (namesD names)] (loS ns L 0) (just (.d (dI (plc ((Pt.cv (cellK 5)).on L)))) (loS ns ((Pt.cv (cellK 5)).on L) (Pt.cv (cellK 5)).count)) := by
  obtain ⟨op, a, b, c, num, text⟩ := n
  obtain rfl : op = 15 := hop
  refine FunQ.intro Tryz.func28 rfl (by kernel_rfl) rfl ?_
  unfold Go.Proofs.YtmmjbpgdkokjgaaGreat.loS
  repeat' (first | refine W.seq ?_ | refine W.rg ?_ | refine W.cond_true' ?_ | refine W.cond_false' ?_ | refine WG.nil ?_ | refine WG.run' (E := env) ?_ | refine W.block ?_ | refine WG.pubK 3 rfl ?_ | refine WG.loS rfl rfl (putCvS ns _ (cellK 5) (by (try simp only [Pt.on_length, tru_count, cv_count, lf_count, n1_count, n2_count, n3_count] at *); omega)) rfl rfl ?_)
  refine W.ret ?_
  exact RetR.loS (.inl rfl) rfl (by first | trivial | exact resOK_of (E := env) rfl) rfl rfl rfl rfl rfl

set_option maxHeartbeats 4000000 in
theorem l6Leaf_16 (hop : n.op = 16) (hn : names.length ≤ 10000) (hl : L.length ≤ 5000) : FunQ env.P 28 [.lp 0 0, .d (.agg n.row), .d (namesD names)] (loS ns L 0) (just (.d (dI (plc ((Pt.cv (cellK 6)).on L)))) (loS ns ((Pt.cv (cellK 6)).on L) (Pt.cv (cellK 6)).count)) := by
  obtain ⟨op, a, b, c, num, text⟩ := n
  obtain rfl : op = 16 := hop
  refine FunQ.intro Tryz.func28 rfl (by kernel_rfl) rfl ?_
  unfold Go.Proofs.YtmmjbpgdkokjgaaGreat.loS
  repeat' (first | refine W.seq ?_ | refine W.rg ?_ | refine W.cond_true' ?_ | refine W.cond_false' ?_ | refine WG.nil ?_ | refine WG.run' (E := env) ?_ | refine W.block ?_ | refine WG.pubK 3 rfl ?_ | refine WG.loS rfl rfl (putCvS ns _ (cellK 6) (by (try simp only [Pt.on_length, tru_count, cv_count, lf_count, n1_count, n2_count, n3_count] at *); omega)) rfl rfl ?_)
  refine W.ret ?_
  exact RetR.loS (.inl rfl) rfl (by first | trivial | exact resOK_of (E := env) rfl) rfl rfl rfl rfl rfl

set_option maxHeartbeats 4000000 in
theorem l6Leaf_24 (hop : n.op = 24) (hn : names.length ≤ 10000) (hl : L.length ≤ 5000) : FunQ env.P 28 [.lp 0 0, .d (.agg n.row), .d (namesD names)] (loS ns L 0) (just (.d (dI (plc ((Pt.n1 8 (.lf 16 7)).on L)))) (loS ns ((Pt.n1 8 (.lf 16 7)).on L) (Pt.n1 8 (.lf 16 7)).count)) := by
  obtain ⟨op, a, b, c, num, text⟩ := n
  obtain rfl : op = 24 := hop
  refine FunQ.intro Tryz.func28 rfl (by kernel_rfl) rfl ?_
  unfold Go.Proofs.YtmmjbpgdkokjgaaGreat.loS
  repeat' (first | refine W.seq ?_ | refine W.rg ?_ | refine W.cond_true' ?_ | refine W.cond_false' ?_ | refine WG.nil ?_ | refine WG.run' (E := env) ?_ | refine W.block ?_ | refine WG.loS rfl rfl (put1S ns _ _ _ (by (try simp only [Pt.on_length, tru_count, cv_count, lf_count, n1_count, n2_count, n3_count] at *); omega)) rfl rfl ?_ | refine WG.loS rfl rfl (putLeafS ns _ _ _ (by (try simp only [Pt.on_length, tru_count, cv_count, lf_count, n1_count, n2_count, n3_count] at *); omega)) rfl rfl ?_)
  refine W.ret ?_
  exact RetR.loS (.inl rfl) rfl (by first | trivial | exact resOK_of (E := env) rfl) rfl rfl rfl rfl rfl

set_option maxHeartbeats 4000000 in
theorem l6Leaf_21 (hop : n.op = 21) (hn : names.length ≤ 10000) (hl : L.length ≤ 5000) : FunQ env.P 28 [.lp 0 0, .d (.agg n.row), .d (namesD names)] (loS ns L 0) (just (.d (dI (plc ((Pt.lf 15 (slotM names n.text)).on L)))) (loS ns ((Pt.lf 15 (slotM names n.text)).on L) (Pt.lf 15 (slotM names n.text)).count)) := by
  obtain ⟨op, a, b, c, num, text⟩ := n
  obtain rfl : op = 21 := hop
  have hv := l6Slot_fn names text (by omega)
  refine FunQ.intro Tryz.func28 rfl (by kernel_rfl) rfl ?_
  unfold Go.Proofs.YtmmjbpgdkokjgaaGreat.loS
  repeat' (first | refine W.seq ?_ | refine W.rg ?_ | refine W.cond_true' ?_ | refine W.cond_false' ?_ | refine WG.nil ?_ | refine WG.run' (E := env) ?_ | refine W.block ?_ | refine WG.loS rfl rfl (putLeafS ns _ _ _ (by (try simp only [Pt.on_length, tru_count, cv_count, lf_count, n1_count, n2_count, n3_count] at *); omega)) rfl rfl ?_ | refine WG.c (E := env) rfl rfl (hv) rfl rfl ?_)
  refine W.ret ?_
  exact RetR.loS (.inl rfl) rfl (by first | trivial | exact resOK_of (E := env) rfl) rfl rfl rfl rfl rfl

set_option maxHeartbeats 4000000 in
theorem l6Leaf_22 (hop : n.op = 22) (hn : names.length ≤ 10000) (hl : L.length ≤ 5000) : FunQ env.P 28 [.lp 0 0, .d (.agg n.row), .d (namesD names)] (loS ns L 0) (just (.d (dI (plc ((callP n.text).on L)))) (loS ns ((callP n.text).on L) (callP n.text).count)) := by
  obtain ⟨op, a, b, c, num, text⟩ := n
  obtain rfl : op = 22 := hop
  refine FunQ.intro Tryz.func28 rfl (by kernel_rfl) rfl ?_
  unfold Go.Proofs.YtmmjbpgdkokjgaaGreat.loS
  repeat' (first | refine W.seq ?_ | refine W.rg ?_ | refine W.cond_false' ?_ | refine WG.nil ?_ | refine WG.run' (E := env) ?_ | refine W.block ?_ | refine W.skip ?_ | refine WG.loS rfl rfl (l6Call_fn ns _ text (by omega)) rfl rfl ?_)
  refine W.ret ?_
  exact RetR.loS (.inl rfl) rfl (by first | trivial | exact resOK_of (E := env) rfl) rfl rfl rfl (Nat.zero_add _) rfl

end

end Go.Proofs.YtmmjbpgdkokjgaaGreat
end
