/-
  Texts of this claim in one. Conditions: none.
-/
import Derived.Test.YtmmjbpgdkokjgaaGreatQLowerTreeLw3
import Derived.Test.YtmmjbpgdkokjgaaGreatQLowerTreeLwC
section
set_option linter.unusedVariables false
set_option linter.unusedSimpArgs false
set_option maxRecDepth 100000
namespace Go.Proofs.YtmmjbpgdkokjgaaGreat
open Go.RowKit

section
variable (ns : List Nd) (L : List Co)
theorem putLeafS (op num : Int) (hl : L.length ≤ 100000) : FunQ env.P 32 [.lp 0 0, .d (.agg [dI op, dI 0, dI 0, dI 0, dI num, .sl 5 []])] (loS ns L 0) (just (.d (dI (plc ((Pt.lf op num).on L)))) (loS ns ((Pt.lf op num).on L) 1)) := by
  have := l6Put_fn ns L ⟨op, 0, 0, 0, num, []⟩ hl
  rw [Pt.on_leaf] at this
  exact this
theorem putCvS (v : List Cell) (hl : L.length ≤ 100000) : FunQ env.P 32 [.lp 0 0, .d (.agg [dI 2, dI 0, dI 0, dI 0, dI 0, cellsD v])] (loS ns L 0) (just (.d (dI (plc ((Pt.cv v).on L)))) (loS ns ((Pt.cv v).on L) 1)) := by
  have := l6Put_fn ns L ⟨2, 0, 0, 0, 0, v⟩ hl
  rw [Pt.on_leaf] at this
  exact this
theorem put1S (op : Int) (A : Pt) (hl : (A.on L).length ≤ 100000) : FunQ env.P 32 [.lp 0 0, .d (.agg [dI op, dI (plc (A.on L)), dI 0, dI 0, dI 0, .sl 5 []])] (loS ns (A.on L) 0) (just (.d (dI (plc ((Pt.n1 op A).on L)))) (loS ns ((Pt.n1 op A).on L) 1)) := by
  have := l6Put_fn ns (A.on L) ⟨op, plc (A.on L), 0, 0, 0, []⟩ hl
  rw [Pt.on_1 ⟨op, 0, 0, 0, 0, []⟩] at this
  exact this
theorem put2S (op num : Int) (v : List Cell) (A B : Pt) (hl : (B.on (A.on L)).length ≤ 100000) : FunQ env.P 32 [.lp 0 0, .d (.agg [dI op, dI (plc (A.on L)), dI (plc (B.on (A.on L))), dI 0, dI num, cellsD v])] (loS ns (B.on (A.on L)) 0) (just (.d (dI (plc ((Pt.n2 op num v A B).on L)))) (loS ns ((Pt.n2 op num v A B).on L) 1)) := by
  have := l6Put_fn ns (B.on (A.on L)) ⟨op, plc (A.on L), plc (B.on (A.on L)), 0, num, v⟩ hl
  rw [Pt.on_2 ⟨op, 0, 0, 0, num, v⟩] at this
  exact this
theorem put3S (op num : Int) (A B C : Pt) (hl : (C.on (B.on (A.on L))).length ≤ 100000) : FunQ env.P 32 [.lp 0 0, .d (.agg [dI op, dI (plc (A.on L)), dI (plc (B.on (A.on L))), dI (plc (C.on (B.on (A.on L)))), dI num, .sl 5 []])] (loS ns (C.on (B.on (A.on L))) 0) (just (.d (dI (plc ((Pt.n3 op num A B C).on L)))) (loS ns ((Pt.n3 op num A B C).on L) 1)) := by
  have := l6Put_fn ns (C.on (B.on (A.on L))) ⟨op, plc (A.on L), plc (B.on (A.on L)), plc (C.on (B.on (A.on L))), num, []⟩ hl
  rw [Pt.on_3 ⟨op, 0, 0, 0, num, []⟩] at this
  exact this
end

theorem tru_count (b : Bool) : (truP b).count = 1 := rfl
theorem cv_count (v : List Cell) : (Pt.cv v).count = 1 := rfl
theorem lf_count (op num : Int) : (Pt.lf op num).count = 1 := rfl
theorem n1_count (op : Int) (A : Pt) : (Pt.n1 op A).count = A.count + 1 := by simp [Pt.n1, Pt.count, Pt.counts]
theorem n2_count (op num : Int) (v : List Cell) (A B : Pt) : (Pt.n2 op num v A B).count = A.count + B.count + 1 := by simp [Pt.n2, Pt.count, Pt.counts]
theorem n3_count (op num : Int) (A B C : Pt) : (Pt.n3 op num A B C).count = A.count + B.count + C.count + 1 := by simp [Pt.n3, Pt.count, Pt.counts]; omega

theorem l6Num_fn (n : Int) : Fun env.P 64 [dI n] (.d (cellsD (cellN n))) [] := by
  refine Fun.intro Tryz.func64 rfl (by kernel_rfl) rfl ?_
  repeat' (first | refine W.seq ?_ | refine W.rg ?_ | refine WG.nil ?_ | refine WG.run' (E := env) ?_)
  (refine W.ret ?_; first | refine RetR.agp' ?_ ?_ | refine RetR.gp' ?_ | (first | fail))
  rfl
theorem l6Str_fn (t : ByteArray) : Fun env.P 34 [dS t] (.d (cellsD (cellT t))) [] := by
  refine Fun.intro Tryz.func34 rfl (by kernel_rfl) rfl ?_
  repeat' (first | refine W.seq ?_ | refine W.rg ?_ | refine WG.nil ?_ | refine WG.run' (E := env) ?_)
  (refine W.ret ?_; first | refine RetR.agp' ?_ ?_ | refine RetR.gp' ?_ | (first | fail))
  rfl
theorem l6BoolV_fn (b : Bool) : Fun env.P 67 [dB b] (.d (cellsD (cellK (if b then 2 else 1)))) [] := by
  cases b <;>
  · refine Fun.intro Tryz.func67 rfl (by kernel_rfl) rfl ?_
    repeat' (first | refine W.seq ?_ | refine W.rg ?_ | refine W.skip ?_ | refine W.cond_true' ?_ | refine W.cond_false' ?_ | refine WG.nil ?_ | refine WG.run' (E := env) ?_)
    (refine W.ret ?_; first | refine RetR.agp' ?_ ?_ | refine RetR.gp' ?_ | (first | fail))
    rfl

theorem l6Bool_fn (ns : List Nd) (L : List Co) (b : Bool) (hl : L.length ≤ 100000) : FunQ env.P 30 [.lp 0 0, .d (dB b)] (loS ns L 0) (just (.d (dI (plc ((truP b).on L)))) (loS ns ((truP b).on L) 1)) := by
  have hb := l6BoolV_fn b
  refine FunQ.intro Tryz.func30 rfl (by kernel_rfl) rfl ?_
  unfold Go.Proofs.YtmmjbpgdkokjgaaGreat.loS
  repeat' (first | refine W.seq ?_ | refine W.rg ?_ | refine WG.nil ?_ | refine WG.run' (E := env) ?_ | refine WG.loS rfl rfl (putCvS ns _ _ (by omega)) rfl rfl ?_ | refine WG.c (E := env) rfl rfl (hb) rfl rfl ?_)
  refine W.ret ?_
  exact RetR.loS (.inl rfl) rfl (by first | trivial | exact resOK_of (E := env) rfl) rfl rfl rfl rfl rfl

theorem l6Truth_fn (ns : List Nd) (L : List Co) (A : Pt) (hl : L.length + A.count ≤ 90000) : FunQ env.P 31 [.lp 0 0, .d (dI (plc (A.on L)))] (loS ns (A.on L) 0) (just (.d (dI (plc ((Pt.n3 12 0 A (truP true) (truP false)).on L)))) (loS ns ((Pt.n3 12 0 A (truP true) (truP false)).on L) 3)) := by
  have h1 := Pt.on_length A L
  have h2 := Pt.on_length (truP true) (A.on L)
  have h3 := Pt.on_length (truP false) ((truP true).on (A.on L))
  rw [tru_count] at h2 h3
  refine FunQ.intro Tryz.func31 rfl (by kernel_rfl) rfl ?_
  unfold Go.Proofs.YtmmjbpgdkokjgaaGreat.loS
  repeat' (first | refine W.seq ?_ | refine W.rg ?_ | refine WG.nil ?_ | refine WG.run' (E := env) ?_ | refine WG.loS rfl rfl (l6Bool_fn ns _ _ (by omega)) rfl rfl ?_ | refine WG.loS rfl rfl (put3S ns _ _ _ _ _ _ (by omega)) rfl rfl ?_)
  refine W.ret ?_
  exact RetR.loS (.inl rfl) rfl (by first | trivial | exact resOK_of (E := env) rfl) rfl rfl rfl rfl rfl

set_option maxHeartbeats 2000000 in
theorem l6Slot_fn (names : List ByteArray) (t : ByteArray) (hl : names.length ≤ 100000) : Fun env.P 65 [namesD names, dS t] (.d (dI (slotM names t))) [] := by
  refine Fun.intro Tryz.func65 rfl (by kernel_rfl) rfl ?_
  repeat' (first | refine W.seq ?_ | refine W.rg ?_ | refine W.block ?_ | refine W.skip ?_ | refine W.exit ?_ | refine WG.nil ?_ | refine WG.run' (E := env) ?_ | refine WG.ixm' (E := env) ?_ | ((refine W.cond' (fun h => ?_) fun h => ?_) <;> (try simp only [atS, List.length_map, beq_self_eq_true] at h) <;> (try (exfalso; first | contradiction | omega))))
  refine W.loop (fun m S => ∃ (i : Nat), m = names.length - i ∧ i ≤ names.length ∧ S = ⟨ofL [(0, .d (namesD names)), (1, .d (dS t)), (5, vI .i64 (slotL t names i)), (6, vI .i64 i)], []⟩) _ _ ⟨0, rfl, by omega, rfl⟩ (by (refine le_ofL rfl ?_ ?_ <;> (repeat (first | exact trivial | refine ⟨⟨rfl, rfl⟩, ?_⟩ | refine ⟨rfl, .inl rfl, ?_⟩ | refine ⟨rfl, .inr rfl, ?_⟩)))) ?_
  rintro m S ⟨i, rfl, hi, rfl⟩
  by_cases hlt : i < names.length
  · have hs : slotL t names (i + 1) = if names.getD (Int.toNat (i : Int)) default = t then (i : Int) else slotL t names i := by rw [Int.toNat_natCast]; rfl
    repeat' (first | refine W.seq ?_ | refine W.rg ?_ | refine W.block ?_ | refine W.skip ?_ | refine W.exit ?_ | refine WG.nil ?_ | refine WG.run' (E := env) ?_ | refine WG.ixm' (E := env) ?_ | ((refine W.cond' (fun h => ?_) fun h => ?_) <;> (try simp only [atS, List.length_map, beq_self_eq_true] at h) <;> (try (exfalso; first | contradiction | omega))))
    all_goals first | (exfalso; omega) | skip
    · rw [if_pos (by assumption)] at hs
      exact ⟨_, _, by omega, ⟨i + 1, rfl, by omega, by rw [hs]⟩, (by (refine le_ofL rfl ?_ ?_ <;> (repeat (first | exact trivial | refine ⟨⟨rfl, rfl⟩, ?_⟩ | refine ⟨rfl, .inl rfl, ?_⟩ | refine ⟨rfl, .inr rfl, ?_⟩))))⟩
    · rw [if_neg (by assumption)] at hs
      exact ⟨_, _, by omega, ⟨i + 1, rfl, by omega, by rw [hs]⟩, (by (refine le_ofL rfl ?_ ?_ <;> (repeat (first | exact trivial | refine ⟨⟨rfl, rfl⟩, ?_⟩ | refine ⟨rfl, .inl rfl, ?_⟩ | refine ⟨rfl, .inr rfl, ?_⟩))))⟩
  · obtain rfl : i = names.length := by omega
    repeat' (first | refine W.seq ?_ | refine W.rg ?_ | refine W.block ?_ | refine W.skip ?_ | refine W.exit ?_ | refine WG.nil ?_ | refine WG.run' (E := env) ?_ | refine WG.ixm' (E := env) ?_ | ((refine W.cond' (fun h => ?_) fun h => ?_) <;> (try simp only [atS, List.length_map, beq_self_eq_true] at h) <;> (try (exfalso; first | contradiction | omega))))
    (refine W.ret ?_; (first | refine RetQ.i' ?_))
    rfl

set_option maxHeartbeats 4000000 in
theorem l6Call_fn (ns : List Nd) (L : List Co) (t : ByteArray) (hl : L.length ≤ 90000) : FunQ env.P 66 [.lp 0 0, .d (dS t)] (loS ns L 0) (just (.d (dI (plc ((callP t).on L)))) (loS ns ((callP t).on L) (callP t).count)) := by
  have h1 := Pt.on_length (.lf 1 0) L
  have h2 := Pt.on_length (truP false) ((Pt.lf 1 0).on L)
  have h3 := Pt.on_length (truP true) ((truP false).on ((Pt.lf 1 0).on L))
  rw [tru_count] at h2 h3
  rw [lf_count] at h1
  refine FunQ.intro Tryz.func66 rfl (by kernel_rfl) rfl ?_
  unfold Go.Proofs.YtmmjbpgdkokjgaaGreat.loS
  repeat' (first | refine W.seq ?_ | refine W.rg ?_ | refine W.block ?_ | refine W.skip ?_ | refine WG.nil ?_ | refine WG.run' (E := env) ?_ | refine WG.loS rfl rfl (l6Bool_fn ns _ _ (by omega)) rfl rfl ?_ | refine WG.loS rfl rfl (put3S ns _ _ _ _ _ _ (by omega)) rfl rfl ?_ | refine WG.loS rfl rfl (putLeafS ns _ _ _ (by omega)) rfl rfl ?_ | fail | ((refine W.cond' (fun h => ?_) fun h => ?_) <;> (try simp only [atS, List.length_map, beq_self_eq_true] at h) <;> (try (exfalso; first | contradiction | omega))))
  all_goals refine W.ret ?_
  all_goals refine RetR.loS (.inl rfl) rfl (by first | trivial | exact resOK_of (E := env) rfl) rfl rfl ?_ ?_ ?_
  all_goals (unfold callP; try unfold doM)
  all_goals simp [*, n3_count, lf_count, tru_count]

end Go.Proofs.YtmmjbpgdkokjgaaGreat
end

section
set_option linter.unusedVariables false
set_option linter.unusedSimpArgs false
set_option maxRecDepth 100000
namespace Go.Proofs.YtmmjbpgdkokjgaaGreat
open Go.RowKit

set_option maxHeartbeats 2000000 in
theorem doI_fn (ns : List Nd) (L : List Co) (num : Int) (hl : L.length ≤ 100000) : FunQ env.P 47 [.lp 0 0, .d (dI num)] (loI ns L 0) (just (.d (dI (plc ((Pt.lf 16 num).on L)))) (loI ns ((Pt.lf 16 num).on L) 1)) := by
  refine FunQ.intro Tryz.func47 rfl (by kernel_rfl) rfl ?_
  unfold Go.Proofs.YtmmjbpgdkokjgaaGreat.loI
  repeat' (first | refine W.seq ?_ | refine W.rg ?_ | refine WG.nil ?_ | refine WG.run' (E := env) ?_ | refine WG.adoptD 7 5 5 93 rfl rfl rfl ?_ | refine WG.loT (R := []) (v := []) rfl rfl (putLeafI ns L 16 num hl) rfl rfl ?_)
  refine W.ret ?_
  exact RetR.loI (.inl rfl) rfl (by first | trivial | exact resOK_of (E := env) rfl) rfl rfl rfl rfl rfl _ (Nat.le_of_ble_eq_true rfl)

set_option maxHeartbeats 2000000 in
theorem eachI_fn (ns : List Nd) (L : List Co) (A : Pt) (hl : (A.on L).length ≤ 100000) : FunQ env.P 46 [.lp 0 0, .d (dI (plc (A.on L)))] (loI ns (A.on L) 0) (just (.d (dI (plc ((Pt.n1 8 A).on L)))) (loI ns ((Pt.n1 8 A).on L) 1)) := by
  refine FunQ.intro Tryz.func46 rfl (by kernel_rfl) rfl ?_
  unfold Go.Proofs.YtmmjbpgdkokjgaaGreat.loI
  repeat' (first | refine W.seq ?_ | refine W.rg ?_ | refine WG.nil ?_ | refine WG.run' (E := env) ?_ | refine WG.adoptD 7 5 5 93 rfl rfl rfl ?_ | refine WG.loT (R := []) (v := []) rfl rfl (put1I ns L ⟨8, 0, 0, 0, 0, []⟩ A hl) rfl rfl ?_)
  refine W.ret ?_
  exact RetR.loI (.inl rfl) rfl (by first | trivial | exact resOK_of (E := env) rfl) rfl rfl rfl rfl rfl _ (Nat.le_of_ble_eq_true rfl)

set_option maxHeartbeats 2000000 in
/-- A constant, of a value whose cells are made. -/
theorem constI_fn (ns : List Nd) (L : List Co) (x : V) (v : List Cell) (hc : Fun env.P 76 [.agg x.rowP] (.og 0 0) [.gr 5 93 (v.map Cell.row) 0 false]) (hl : L.length ≤ 100000) : FunQ env.P 41 [.lp 0 0, .d (.agg x.rowP)] (loI ns L 0) (just (.d (dI (plc ((Pt.cv v).on L)))) (loI ns ((Pt.cv v).on L) 1)) := by
  refine FunQ.intro Tryz.func41 rfl (by kernel_rfl) rfl ?_
  unfold Go.Proofs.YtmmjbpgdkokjgaaGreat.loI
  repeat' (first | refine W.seq ?_ | refine W.rg ?_ | refine WG.nil ?_ | refine WG.run' (E := env) ?_ | refine WG.loT (R := [_]) (v := v) rfl rfl (putCvI ns L v hl) rfl rfl ?_ | refine WG.coG' (E := env) rfl rfl hc rfl ?_)
  refine W.ret ?_
  exact RetR.loI (.inl rfl) rfl (by first | trivial | exact resOK_of (E := env) rfl) rfl rfl rfl rfl rfl _ (Nat.le_of_ble_eq_true rfl)

theorem truthP_fn (x : Bool) : Fun env.P 80 [dB x] (.d (.agg (V.mk (if x then 2 else 1) 0 noS [] []).rowP)) [] := by
  cases x <;>
  · refine Fun.intro Tryz.func80 rfl (by kernel_rfl) rfl ?_
    repeat' (first | refine W.seq ?_ | refine W.rg ?_ | refine W.skip ?_ | refine W.cond_true' ?_ | refine W.cond_false' ?_ | refine WG.nil ?_ | refine WG.run' (E := env) ?_)
    (refine W.ret ?_; (first | refine RetQ.d' ?_))
    rfl

/-- What the boxes of a function that puts a truth hold. -/
abbrev truO (b : Bool) : List Ob := [.pv [.lp 0 0], .pv [.d (dB b)]]

theorem truthC_fn (ns : List Nd) (L : List Co) (b : Bool) : FunQ env.P 49 [.lp 0 0, .d (dB b)] (loI ns L 0) (just (.clo 79 [.lp 2 0, .lp 3 0]) (loI ns L 0 ++ truO b)) := by
  refine FunQ.intro Tryz.func49 rfl (by kernel_rfl) rfl ?_
  unfold Go.Proofs.YtmmjbpgdkokjgaaGreat.loI
  repeat' (first | refine W.seq ?_ | refine W.rg ?_ | refine WG.nil ?_ | refine WG.run' (E := env) ?_)
  refine W.ret ?_
  exact RetR.own (ob' := loI ns L 0 ++ truO b) ⟨[0, 1, 2, 3], [0, 0, 0, 0], 4⟩ (.inl rfl) rfl (by first | trivial | exact resOK_of (E := env) rfl) rfl rfl rfl rfl rfl rfl ⟨rfl, rfl, rfl, rfl, trivial⟩ rfl ⟨rfl, rfl⟩

set_option maxHeartbeats 2000000 in
theorem truthF_fn (ns : List Nd) (L : List Co) (b : Bool) (hc : Fun env.P 76 [.agg (V.mk (if b then 2 else 1) 0 noS [] []).rowP] (.og 0 0) [.gr 5 93 ((cellK (if b then 2 else 1)).map Cell.row) 0 false]) (hl : L.length ≤ 100000) :
    FunQ env.P 79 [.lp 2 0, .lp 3 0] (loI ns L 0 ++ truO b) (just (.d (dI (plc ((truP b).on L)))) (loI ns ((truP b).on L) 1 ++ truO b)) := by
  have ht := truthP_fn b
  have hk := constI_fn ns L _ _ hc hl
  refine FunQ.intro Tryz.func79 rfl (by kernel_rfl) rfl ?_
  unfold Go.Proofs.YtmmjbpgdkokjgaaGreat.loI
  repeat' (first | refine W.dre' (id := 1) [3] (fun f => bif bt f 1 then [.pv [.d (nodesD ns), .og 1 1], .x (neC (((truP b).on L).map coN) none) 1, .pv [.lp 0 0], .pv [.d (dB b)]] else [.pv [.d (nodesD ns), .og 1 0], .x (neC (L.map coN) none) 0, .pv [.lp 0 0], .pv [.d (dB b)]]) [(0, [0]), (0, [0]), (0, [0]), (1, [0]), (0, [1])] [.pv [.d (nodesD ns), .og 1 1], .x (neC (((truP b).on L).map coN) none) 1, .pv [.lp 0 0], .pv [.d (dB b)]] ?_ | refine WE.c' ht ?_ | refine WE.mkd (.d (dI (plc ((truP b).on L)))) ?_ (.c (OpS1.cqM (E := env) [0, 1] [0, 0] rfl rfl hk rfl rfl rfl rfl rfl rfl rfl ⟨rfl, rfl, trivial⟩ rfl rfl rfl) .n) | refine WE.nil ?_ | refine WE.s' (E := env) (t := .d _) ?_ | refine WE.s' (E := env) (t := .lp _ _) ?_ | refine WE.s' (E := env) (t := .og _ _) ?_ | refine WE.s' (E := env) (t := .ea _ _) ?_ | refine WE.s' (E := env) (t := .agg _) ?_ | refine WE.s' (E := env) (t := .tup _) ?_ | refine W.seq ?_ | refine W.rg ?_ | refine WG.nil ?_ | refine WG.run' (E := env) ?_ | fail)
  refine W.ret ?_
  exact RetR.own (ob' := loI ns ((truP b).on L) 1 ++ truO b) ⟨[0, 1, 2, 3], [0, 0, 0, 0], 4⟩ (.inl rfl) rfl (by first | trivial | exact resOK_of (E := env) rfl) rfl rfl rfl rfl rfl rfl ⟨rfl, rfl, rfl, rfl, trivial⟩ rfl ⟨rfl, rfl⟩

end Go.Proofs.YtmmjbpgdkokjgaaGreat
end
