/-
  What the laws' own functions on nodes of a tree do: their size, their copy, their comparison. Conditions: none.
-/
import Derived.Test.YtmmjbpgdkokjgaaGreatQLowerTreeV5
set_option linter.unusedVariables false
set_option linter.unusedSimpArgs false
set_option maxRecDepth 100000
namespace Go.Proofs.YtmmjbpgdkokjgaaGreat
open Go.RowKit

structure Nd where
  op : Int
  a : Int
  b : Int
  c : Int
  num : Int
  text : ByteArray
  deriving Inhabited, DecidableEq

def Nd.row (n : Nd) : List D := [dI n.op, dI n.a, dI n.b, dI n.c, dI n.num, dS n.text]
abbrev nodesD (ns : List Nd) : D := .sl 6 (ns.map Nd.row)

def szNd (n : Nd) (l : Int) : Int := if l - n.text.size < 0 then -1 else l - n.text.size
def szT (ns : List Nd) (l : Int) : Int := szSl szNd ns l
def Nd.fit (n : Nd) : Prop := n.text.size ≤ maxLen

theorem szNd_ok : SzOK szNd := fun n l h => by unfold szNd; split <;> omega
theorem szT_ok {ns : List Nd} (h : 0 ≤ szT ns 1048576) : ns.length ≤ 1048576 ∧ ∀ n ∈ ns, n.text.size ≤ 1048576 := by
  obtain ⟨h1, h2⟩ := szSl_each szNd_ok ns _ h
  refine ⟨by omega, fun n hn => ?_⟩
  obtain ⟨l', h3, h4, h5⟩ := h2 n hn
  unfold szNd at h5
  split at h5 <;> omega

set_option maxHeartbeats 400000 in
theorem szNode_fn (n : Nd) (l : Int) (hc : n.fit) (h0 : 0 ≤ l) (h1 : l ≤ 1048576) : Fun env.P 13 [.agg n.row, dI l] (.d (dI (szNd n l))) [] := by
  unfold Nd.fit at hc
  simp only [maxLen] at hc
  refine Fun.intro Tryz.func13 rfl (by kernel_rfl) rfl ?_
  repeat' (first | refine W.seq ?_ | refine W.rg ?_ | refine W.skip ?_ | refine WG.nil ?_ | refine WG.run' (E := env) ?_ | ((refine W.cond' (fun h => ?_) fun h => ?_) <;> (try simp only [atS, List.length_map, beq_self_eq_true] at h) <;> (try (exfalso; first | contradiction | omega))))
  all_goals (refine W.ret ?_; (first | refine RetQ.i' ?_))
  · rw [szNd, if_pos (by omega)]
  · rw [szNd, if_neg (by omega)]

set_option maxHeartbeats 400000 in
theorem szNodeS_fn (xs : List Nd) (l : Int) (hc : ∀ c ∈ xs, c.fit) (hm : xs.length ≤ maxLen) (h0 : 0 ≤ l) (h1 : l ≤ 1048576) : Fun env.P 4 [nodesD xs, dI l] (.d (dI (szT xs l))) [] := by
  simp only [maxLen] at hm
  unfold szT
  refine Fun.intro Tryz.func4 rfl (by kernel_rfl) rfl ?_
  repeat' (first | refine W.seq ?_ | refine W.rg ?_ | refine W.block ?_ | refine W.skip ?_ | refine W.exit ?_ | refine WG.nil ?_ | refine WG.run' (E := env) ?_ | refine WG.ixm' (E := env) ?_ | ((refine W.cond' (fun h => ?_) fun h => ?_) <;> (try simp only [atS, List.length_map, beq_self_eq_true] at h) <;> (try (exfalso; first | contradiction | omega))))
  · (refine W.ret ?_; (first | refine RetQ.i' ?_))
    rw [szSl, if_pos (by omega)]
  refine W.loop (fun m S => ∃ (k : Nat) (l' : Int), m = xs.length - k ∧ (k ≤ xs.length ∧ 0 ≤ l' ∧ l' ≤ 1048576 ∧ szList szNd xs (l - xs.length) = szList szNd (xs.drop k) l') ∧ S = ⟨ofL [(0, .d (nodesD xs)), (1, vI .i64 l'), (5, vI .i64 k)], []⟩) _ _ ⟨0, l - (xs.map Nd.row).length, rfl, ⟨by omega, by simpa using h, by simp; omega, by simp⟩, rfl⟩ (by (refine le_ofL rfl ?_ ?_ <;> (repeat (first | exact trivial | refine ⟨⟨rfl, rfl⟩, ?_⟩ | refine ⟨rfl, .inl rfl, ?_⟩ | refine ⟨rfl, .inr rfl, ?_⟩)))) ?_
  rintro m S ⟨k, l', rfl, ⟨hk, hl0, hl1, he⟩, rfl⟩
  have hat : ∀ i : Nat, i < xs.length → (xs.getD i default).fit := fun i hi => hc _ (getD_mem' hi)
  repeat' (first | refine W.seq ?_ | refine W.rg ?_ | refine W.block ?_ | refine W.skip ?_ | refine W.exit ?_ | refine WG.nil ?_ | refine WG.run' (E := env) ?_ | refine WG.ixm' (E := env) ?_ | refine WG.c (E := env) rfl rfl (szNode_fn _ _ (hat _ (by omega)) hl0 hl1) rfl rfl ?_ | ((refine W.cond' (fun h => ?_) fun h => ?_) <;> (try simp only [atS, List.length_map, beq_self_eq_true] at h) <;> (try (exfalso; first | contradiction | omega))))
  · (refine W.ret ?_; (first | refine RetQ.i' ?_))
    (try simp only [Int.toNat_natCast, Int.toNat_zero, toNat_cc, toNat_c1, toNat_cm1, toNat_cm] at *)
    rw [szSl, if_neg (by omega), he, drop_step (by omega), szList, if_pos (by assumption)]
  · (try simp only [Int.toNat_natCast, Int.toNat_zero, toNat_cc, toNat_c1, toNat_cm1, toNat_cm] at *)
    have := szNd_ok (xs.getD k default) l' (by omega)
    refine ⟨_, _, ?_, ⟨k + 1, szNd (xs.getD k default) l', rfl, ⟨by omega, by assumption, by omega, ?_⟩, rfl⟩, (by (refine le_ofL rfl ?_ ?_ <;> (repeat (first | exact trivial | refine ⟨⟨rfl, rfl⟩, ?_⟩ | refine ⟨rfl, .inl rfl, ?_⟩ | refine ⟨rfl, .inr rfl, ?_⟩))))⟩
    · omega
    · rw [he, drop_step (by omega), szList, if_neg (by omega)]
  · (refine W.ret ?_; (first | refine RetQ.i' ?_))
    rw [szSl, if_neg (by omega), he, List.drop_eq_nil_of_le (by omega), szList]

set_option maxHeartbeats 400000 in
theorem toNode_fn (n : Nd) : Fun env.P 16 [.agg n.row] (.d (.agg n.row)) [] := by
  refine Fun.intro Tryz.func16 rfl (by kernel_rfl) rfl ?_
  repeat' (first | refine W.seq ?_ | refine W.rg ?_ | refine WG.nil ?_ | refine WG.run' (E := env) ?_)
  all_goals (refine W.ret ?_; (first | refine RetQ.d' ?_))
  rfl

set_option maxHeartbeats 400000 in
theorem eqNode_fn (a b : Nd) : Fun env.P 21 [.agg a.row, .agg b.row] (.d (dB (decide (a = b)))) [] := by
  have e : a = b ↔ a.op = b.op ∧ a.a = b.a ∧ a.b = b.b ∧ a.c = b.c ∧ a.num = b.num ∧ a.text = b.text := by
    cases a; cases b; simp
  refine Fun.intro Tryz.func21 rfl (by kernel_rfl) rfl ?_
  repeat' (first | refine W.seq ?_ | refine W.rg ?_ | refine W.skip ?_ | refine WG.nil ?_ | refine WG.run' (E := env) ?_ | ((refine W.cond' (fun h => ?_) fun h => ?_) <;> (try simp only [atS, List.length_map, beq_self_eq_true] at h) <;> (try (exfalso; first | contradiction | omega))))
  all_goals (refine W.ret ?_; (first | refine RetQ.b' ?_))
  all_goals simp [e, *]

set_option maxHeartbeats 400000 in
theorem eqNodeS_fn (xs ys : List Nd) (hm : xs.length ≤ 1048576) : Fun env.P 9 [nodesD xs, nodesD ys] (.d (dB (decide (xs = ys)))) [] := by
  refine Fun.intro Tryz.func9 rfl (by kernel_rfl) rfl ?_
  repeat' (first | refine W.seq ?_ | refine W.rg ?_ | refine W.dra' ?_ | refine W.block ?_ | refine W.skip ?_ | refine W.exit ?_ | refine WG.nil ?_ | refine WG.run' (E := env) ?_ | refine WD.nil ?_ | refine WD.s' (E := env) (t := .d _) ?_ | refine WD.s' (E := env) (t := .ea _ _) ?_ | refine WD.s' (E := env) (t := .lp _ _) ?_ | refine WD.s' (E := env) (t := .og _ _) ?_ | refine WD.s' (E := env) (t := .agg _) ?_ | refine WD.s' (E := env) (t := .tup _) ?_ | refine WD.s' (E := env) (t := .clo _ _) ?_ | refine WD.ixm' (E := env) ?_ | ((refine W.cond' (fun h => ?_) fun h => ?_) <;> (try simp only [atS, List.length_map, beq_self_eq_true] at h) <;> (try (exfalso; first | contradiction | omega))))
  · (refine W.ret ?_; (first | refine RetQ.b' ?_))
    symm
    rw [decide_eq_false_iff_not]
    rintro rfl
    exact h rfl
  refine W.loop (fun m S => ∃ (k : Nat), m = xs.length - k ∧ (k ≤ xs.length ∧ xs.take k = ys.take k) ∧ S = ⟨ofL [(0, .d (nodesD xs)), (1, .d (nodesD ys)), (5, vI .i64 k)], []⟩) _ _ ⟨0, rfl, ⟨by omega, by simp⟩, rfl⟩ (by (refine le_ofL rfl ?_ ?_ <;> (repeat (first | exact trivial | refine ⟨⟨rfl, rfl⟩, ?_⟩ | refine ⟨rfl, .inl rfl, ?_⟩ | refine ⟨rfl, .inr rfl, ?_⟩)))) ?_
  rintro m S ⟨k, rfl, ⟨hk, he⟩, rfl⟩
  repeat' (first | refine W.seq ?_ | refine W.rg ?_ | refine W.dra' ?_ | refine W.block ?_ | refine W.skip ?_ | refine W.exit ?_ | refine WG.nil ?_ | refine WG.run' (E := env) ?_ | refine WD.nil ?_ | refine WD.s' (E := env) (t := .d _) ?_ | refine WD.s' (E := env) (t := .ea _ _) ?_ | refine WD.s' (E := env) (t := .lp _ _) ?_ | refine WD.s' (E := env) (t := .og _ _) ?_ | refine WD.s' (E := env) (t := .agg _) ?_ | refine WD.s' (E := env) (t := .tup _) ?_ | refine WD.s' (E := env) (t := .clo _ _) ?_ | refine WD.ixm' (E := env) ?_ | refine WD.c (E := env) rfl rfl (eqNode_fn _ _) rfl rfl ?_ | ((refine W.cond' (fun h => ?_) fun h => ?_) <;> (try simp only [atS, List.length_map, beq_self_eq_true] at h) <;> (try (exfalso; first | contradiction | omega))))
  · (refine W.ret ?_; (first | refine RetQ.b' ?_))
    (try simp only [Int.toNat_natCast, Int.toNat_zero, toNat_cc, toNat_c1, toNat_cm1, toNat_cm] at *)
    symm
    rw [decide_eq_false_iff_not]
    rintro rfl
    contradiction
  · (try simp only [Int.toNat_natCast, Int.toNat_zero, toNat_cc, toNat_c1, toNat_cm1, toNat_cm] at *)
    exact ⟨_, _, by omega, ⟨k + 1, rfl, ⟨by omega, by rw [take_step (by omega), take_step (by omega), he]; simp only [*]⟩, rfl⟩, (by (refine le_ofL rfl ?_ ?_ <;> (repeat (first | exact trivial | refine ⟨⟨rfl, rfl⟩, ?_⟩ | refine ⟨rfl, .inl rfl, ?_⟩ | refine ⟨rfl, .inr rfl, ?_⟩))))⟩
  · (refine W.ret ?_; (first | refine RetQ.b' ?_))
    symm
    rw [decide_eq_true_eq]
    rwa [List.take_of_length_le (by omega), List.take_of_length_le (by omega)] at he

def zeroNode : List D := [dI 0, dI 0, dI 0, dI 0, dI 0, dS ByteArray.empty]

set_option maxHeartbeats 400000 in
theorem toNodeS_fn (xs : List Nd) (hm : xs.length ≤ 1048576) : Fun env.P 6 [nodesD xs] (.d (nodesD xs)) [] := by
  refine Fun.intro Tryz.func6 rfl (by kernel_rfl) rfl ?_
  repeat' (first | refine W.seq ?_ | refine W.rg ?_ | refine W.block ?_ | refine W.skip ?_ | refine W.exit ?_ | refine WG.nil ?_ | refine WG.run' (E := env) ?_ | refine WG.ixm' (E := env) ?_ | ((refine W.cond' (fun h => ?_) fun h => ?_) <;> (try simp only [atS, List.length_map, beq_self_eq_true] at h) <;> (try (exfalso; first | contradiction | omega))))
  refine WG.mk (E := env) (z := 6) (zs := zeroNode) rfl rfl rfl rfl rfl rfl rfl rfl rfl rfl rfl ?_ ?_
  · refine ⟨by simp, by simp, ?_⟩
    show ((56 : Nat) : Int) * _ ≤ _
    simp; omega
  rw [show List.replicate (((xs.map Nd.row).length : Int)).toNat zeroNode = rowsK Nd.row zeroNode xs 0 by rw [rowsK_zero]; simp]
  repeat' (first | refine W.seq ?_ | refine W.rg ?_ | refine W.block ?_ | refine W.skip ?_ | refine W.exit ?_ | refine WG.nil ?_ | refine WG.run' (E := env) ?_ | refine WG.ixm' (E := env) ?_ | ((refine W.cond' (fun h => ?_) fun h => ?_) <;> (try simp only [atS, List.length_map, beq_self_eq_true] at h) <;> (try (exfalso; first | contradiction | omega))))
  refine W.loop (fun m S => ∃ (k : Nat), m = xs.length - k ∧ k ≤ xs.length ∧ S = ⟨ofL [(0, .d (nodesD xs)), (3, .og 0 0), (4, vI .i64 k)], [.gr 6 45 (rowsK Nd.row zeroNode xs k) 0 false]⟩) _ _ ⟨0, rfl, by omega, rfl⟩ (by (refine le_ofL rfl ?_ ?_ <;> (repeat (first | exact trivial | refine ⟨⟨rfl, rfl⟩, ?_⟩ | refine ⟨rfl, .inl rfl, ?_⟩ | refine ⟨rfl, .inr rfl, ?_⟩)))) ?_
  rintro m S ⟨k, rfl, hk, rfl⟩
  repeat' (first | refine W.seq ?_ | refine W.rg ?_ | refine W.block ?_ | refine W.skip ?_ | refine W.exit ?_ | refine WG.nil ?_ | refine WG.run' (E := env) ?_ | refine WG.ixm' (E := env) ?_ | refine WG.c (E := env) rfl rfl (toNode_fn _) rfl rfl ?_ | ((refine W.cond' (fun h => ?_) fun h => ?_) <;> (try simp only [atS, List.length_map, beq_self_eq_true] at h) <;> (try (exfalso; first | contradiction | omega))))
  · refine WG.ixo (E := env) rfl rfl rfl rfl rfl rfl rfl rfl (by rw [rowsK_length _ _ _ (by omega)]; omega) ?_
    refine WG.stE (E := env) rfl rfl rfl rfl (rowsK_at _ _ _ (by omega)) rfl rfl rfl rfl ?_
    refine WG.obEq (ob' := [.gr 6 45 (rowsK Nd.row zeroNode xs (k + 1)) 0 false]) (congrArg (fun r => [Ob.gr 6 45 r 0 false]) (rowsK_set Nd.row zeroNode xs (by omega))) ?_
    repeat' (first | refine W.seq ?_ | refine W.rg ?_ | refine W.block ?_ | refine W.skip ?_ | refine W.exit ?_ | refine WG.nil ?_ | refine WG.run' (E := env) ?_ | refine WG.ixm' (E := env) ?_ | ((refine W.cond' (fun h => ?_) fun h => ?_) <;> (try simp only [atS, List.length_map, beq_self_eq_true] at h) <;> (try (exfalso; first | contradiction | omega))))
    exact ⟨_, _, by omega, ⟨k + 1, rfl, by omega, rfl⟩, (by (refine le_ofL rfl ?_ ?_ <;> (repeat (first | exact trivial | refine ⟨⟨rfl, rfl⟩, ?_⟩ | refine ⟨rfl, .inl rfl, ?_⟩ | refine ⟨rfl, .inr rfl, ?_⟩))))⟩
  · refine W.pub 0 rfl ?_
    (refine W.ret ?_; (first | refine RetQ.d' ?_))
    rw [show k = xs.length by omega, rowsK_all]

theorem node_of {n : Nat} {r : List D} (h : wfD env.P n 37 r) : ∃ c : Nd, c.fit ∧ r = c.row := by
  obtain ⟨m, hm⟩ := wfD_fields (ts := [2, 2, 2, 2, 2, 9]) (by kernel_rfl) (by kernel_rfl) h
  match r, hm with
  | [a, b, c, d, e, f], ⟨h1, h2, h3, h4, h5, h6, _⟩ =>
    obtain ⟨i1, _, rfl⟩ := wfD_int (k := .i64) (by kernel_rfl) h1
    obtain ⟨i2, _, rfl⟩ := wfD_int (k := .i64) (by kernel_rfl) h2
    obtain ⟨i3, _, rfl⟩ := wfD_int (k := .i64) (by kernel_rfl) h3
    obtain ⟨i4, _, rfl⟩ := wfD_int (k := .i64) (by kernel_rfl) h4
    obtain ⟨i5, _, rfl⟩ := wfD_int (k := .i64) (by kernel_rfl) h5
    obtain ⟨s6, l6, rfl⟩ := wfD_str (by kernel_rfl) h6
    exact ⟨⟨i1, i2, i3, i4, i5, s6⟩, l6, rfl⟩

theorem nodes_of {x : D} (h : wfA env.P 22 x) : ∃ cs : List Nd, (∀ c ∈ cs, c.fit) ∧ cs.length ≤ maxLen ∧ x = nodesD cs := by
  obtain ⟨rows, rfl, hm, n, hr⟩ := wfA_sl (e := 37) (by kernel_rfl) h
  obtain ⟨cs, rfl, hcs⟩ := rows_map fun r hmem => node_of (hr r hmem).2
  rw [show env.P.cellsOf 37 = 6 by kernel_rfl]
  exact ⟨cs, hcs, by simpa using hm, rfl⟩

end Go.Proofs.YtmmjbpgdkokjgaaGreat
