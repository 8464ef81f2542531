/-
  Texts of this claim in one. Conditions: none.
-/
import Derived.Test.YtmmjbpgdkokjgaaGreatQLowerTreeOr1
import Derived.Test.YtmmjbpgdkokjgaaGreatQLowerTreeNd1
import Derived.Test.YtmmjbpgdkokjgaaGreatQLowerTreePgF
import Derived.Test.YtmmjbpgdkokjgaaGreatQLowerTreeLwQ
section
set_option linter.unusedVariables false
set_option linter.unusedSimpArgs false
set_option maxRecDepth 100000
namespace Go.Proofs.YtmmjbpgdkokjgaaGreat
open Go.RowKit

theorem toNodeSown_fn (xs : List Nd) (hm : xs.length ≤ 1048576) : Fun env.P 6 [nodesD xs] (.og 0 0) [.gr 6 45 (xs.map Nd.row) 0 false] := by
  refine Fun.intro Tryz.func6 rfl (by kernel_rfl) rfl ?_
  repeat' (first | refine W.seq ?_ | refine W.rg ?_ | refine W.block ?_ | refine W.skip ?_ | refine W.exit ?_ | refine WG.nil ?_ | refine WG.run' (E := env) ?_ | refine WG.ixm' (E := env) ?_ | ((refine W.cond' (fun h => ?_) fun h => ?_) <;> (try simp only [atS, List.length_map, beq_self_eq_true] at h) <;> (try (exfalso; first | contradiction | omega))))
  refine WG.mk (E := env) (z := 6) (zs := zeroNode) rfl rfl rfl rfl rfl rfl rfl rfl rfl rfl rfl ?_ ?_
  · refine ⟨by simp, by simp, ?_⟩
    show ((56 : Nat) : Int) * _ ≤ _
    simp; omega
  rw [show List.replicate (((xs.map Nd.row).length : Int)).toNat zeroNode = rowsK Nd.row zeroNode xs 0 by rw [rowsK_zero]; simp]
  repeat' (first | refine W.seq ?_ | refine W.rg ?_ | refine W.block ?_ | refine W.skip ?_ | refine W.exit ?_ | refine WG.nil ?_ | refine WG.run' (E := env) ?_ | refine WG.ixm' (E := env) ?_ | ((refine W.cond' (fun h => ?_) fun h => ?_) <;> (try simp only [atS, List.length_map, beq_self_eq_true] at h) <;> (try (exfalso; first | contradiction | omega))))
  refine W.loop (fun m S => ∃ (k : Nat), m = xs.length - k ∧ k ≤ xs.length ∧ S = ⟨ofL [(0, .d (nodesD xs)), (3, .og 0 0), (4, vI .i64 k)], [.gr 6 45 (rowsK Nd.row zeroNode xs k) 0 false]⟩) _ _ ⟨0, rfl, by omega, rfl⟩ (by (refine le_ofL rfl ?_ ?_ <;> (repeat (first | exact trivial | refine ⟨⟨rfl, rfl⟩, ?_⟩ | refine ⟨rfl, .inl rfl, ?_⟩ | refine ⟨rfl, .inr rfl, ?_⟩)))) ?_
  rintro m S ⟨k, rfl, hk, rfl⟩
  repeat' (first | refine W.seq ?_ | refine W.rg ?_ | refine W.block ?_ | refine W.skip ?_ | refine W.exit ?_ | refine WG.nil ?_ | refine WG.run' (E := env) ?_ | refine WG.ixm' (E := env) ?_ | refine WG.c (E := env) rfl rfl (toNode_fn _) rfl rfl ?_ | ((refine W.cond' (fun h => ?_) fun h => ?_) <;> (try simp only [atS, List.length_map, beq_self_eq_true] at h) <;> (try (exfalso; first | contradiction | omega))))
  · refine WG.ixo (E := env) rfl rfl rfl rfl rfl rfl rfl rfl (by rw [rowsK_length _ _ _ (by omega)]; omega) ?_
    refine WG.stE (E := env) rfl rfl rfl rfl (rowsK_at _ _ _ (by omega)) rfl rfl rfl rfl ?_
    refine WG.obEq (ob' := [.gr 6 45 (rowsK Nd.row zeroNode xs (k + 1)) 0 false]) (congrArg (fun r => [Ob.gr 6 45 r 0 false]) (rowsK_set Nd.row zeroNode xs (by omega))) ?_
    repeat' (first | refine W.seq ?_ | refine W.rg ?_ | refine W.block ?_ | refine W.skip ?_ | refine W.exit ?_ | refine WG.nil ?_ | refine WG.run' (E := env) ?_ | refine WG.ixm' (E := env) ?_ | ((refine W.cond' (fun h => ?_) fun h => ?_) <;> (try simp only [atS, List.length_map, beq_self_eq_true] at h) <;> (try (exfalso; first | contradiction | omega))))
    exact ⟨_, _, by omega, ⟨k + 1, rfl, by omega, rfl⟩, (by (refine le_ofL rfl ?_ ?_ <;> (repeat (first | exact trivial | refine ⟨⟨rfl, rfl⟩, ?_⟩ | refine ⟨rfl, .inl rfl, ?_⟩ | refine ⟨rfl, .inr rfl, ?_⟩))))⟩
  · obtain rfl : k = xs.length := by omega
    rw [rowsK_all]
    refine W.ret ?_
    exact RetQ.own (tt := .og 0 0) 0 0 (.inl rfl) rfl (by first | trivial | exact resOK_of (E := env) rfl) rfl rfl rfl rfl rfl

def markN (q : Nat) : Nd := ⟨(q : Int), (q : Int) + 1, (q : Int) + 1 + 1, (q : Int) + 1 + 1 + 1, (q : Int) + 1 + 1 + 1 + 1, markS (q + 5)⟩
def marksT (k n : Nat) : List Nd := (List.range n).map fun i => markN (k + 6 * i)
theorem marksT_length (k n : Nat) : (marksT k n).length = n := by simp [marksT]
theorem marksT_at (k n i : Nat) (h : i < n) : (marksT k n).getD i default = markN (k + 6 * i) := by simp [marksT, h]

set_option maxHeartbeats 4000000 in
theorem markNodeS_fn (xs : List Nd) (k : Nat) (hk : k + 6 * xs.length ≤ 1099511000000) :
    FunQ env.P 10 [.og 0 0, vI .i64 k] [.gr 6 45 (xs.map Nd.row) 0 false] (just (vI .i64 ((k + 6 * xs.length : Nat) : Int)) [.gr 6 45 ((marksT k xs.length).map Nd.row) 0 false]) := by
  have hml := marksT_length k xs.length
  refine FunQ.intro Tryz.func10 rfl (by kernel_rfl) rfl ?_
  repeat' (first | refine W.seq ?_ | refine W.rg ?_ | refine W.block ?_ | refine W.skip ?_ | refine W.exit ?_ | refine WG.nil ?_ | refine WG.run' (E := env) ?_ | refine WG.ixo' (E := env) ?_ | ((refine W.cond' (fun h => ?_) fun h => ?_) <;> (try simp only [atS, List.length_map, beq_self_eq_true] at h) <;> (try (exfalso; first | contradiction | omega))))
  refine W.loopI (fun m S => ∃ (i : Nat) (R : List (List D)) (q : Int), m = xs.length - i ∧ (i ≤ xs.length ∧ R = (mixL (marksT k xs.length) xs i).map Nd.row ∧ q = ((k + 6 * i : Nat) : Int)) ∧ S = ⟨ofL [(0, .og 0 0), (1, vI .i64 q), (5, vI .i64 i)], [.gr 6 45 R 0 false]⟩) _ _
    ⟨0, xs.map Nd.row, k, rfl, ⟨by omega, by rw [mixL_zero], by omega⟩, rfl⟩ (St.imp.of_le (by (refine le_ofL rfl ?_ ?_ <;> (repeat (first | exact trivial | refine ⟨⟨rfl, rfl⟩, ?_⟩ | refine ⟨rfl, .inl rfl, ?_⟩ | refine ⟨rfl, .inr rfl, ?_⟩))))) ?_
  rintro m S ⟨i, R, q, rfl, ⟨hi, hR, hq⟩, rfl⟩
  have hRl : R.length = xs.length := by rw [hR, List.length_map, mixL_length _ _ hml i hi]
  by_cases hlt : i < xs.length
  · have hat : R[Int.toNat (i : Int)]? = some (xs.getD i default).row := by rw [hR, Int.toNat_natCast, List.getElem?_map, mixL_at _ _ hml hlt]; rfl
    have hili : Int.toNat (i : Int) < R.length := by rw [Int.toNat_natCast]; omega
    have hma := marksT_at k xs.length i hlt
    generalize hp : k + 6 * i = p at hma hq
    subst hq
    have hmt := markText_at 0 (n := (p : Int) + 1 + 1 + 1 + 1 + 1) (p + 5) (by omega) (by omega)
    repeat' (first | refine WG.ixo (E := env) rfl rfl rfl rfl rfl rfl rfl rfl (by simp only [List.length_set]; omega) ?_ | refine WG.stE (E := env) rfl rfl rfl rfl (by first | exact hat | exact List.getElem?_set_self (by simpa using hili)) rfl rfl rfl rfl ?_ | refine W.seq ?_ | refine W.rg ?_ | refine W.block ?_ | refine W.skip ?_ | refine W.exit ?_ | refine WG.nil ?_ | refine WG.run' (E := env) ?_ | refine WG.ixo' (E := env) ?_ | refine WG.c (E := env) rfl rfl (hmt) rfl rfl ?_ | ((refine W.cond' (fun h => ?_) fun h => ?_) <;> (try simp only [atS, List.length_map, beq_self_eq_true] at h) <;> (try (exfalso; first | contradiction | omega))))
    refine ⟨_, _, by omega, ⟨i + 1, R.set (Int.toNat (i : Int)) ((marksT k xs.length).getD i default).row, ((p : Int) + 1 + 1 + 1 + 1 + 1 + 1), rfl, ⟨by omega, ?_, by omega⟩, rfl⟩, ?_⟩
    · rw [Int.toNat_natCast, hR, ← mixL_set _ _ hml hlt, List.map_set]
    · simp only [List.set_set]
      rw [hma]
      exact (St.imp.of_le (by (refine le_ofL rfl ?_ ?_ <;> (repeat (first | exact trivial | refine ⟨⟨rfl, rfl⟩, ?_⟩ | refine ⟨rfl, .inl rfl, ?_⟩ | refine ⟨rfl, .inr rfl, ?_⟩)))))
  · obtain rfl : i = xs.length := by omega
    repeat' (first | refine W.seq ?_ | refine W.rg ?_ | refine W.block ?_ | refine W.skip ?_ | refine W.exit ?_ | refine WG.nil ?_ | refine WG.run' (E := env) ?_ | refine WG.ixo' (E := env) ?_ | ((refine W.cond' (fun h => ?_) fun h => ?_) <;> (try simp only [atS, List.length_map, beq_self_eq_true] at h) <;> (try (exfalso; first | contradiction | omega))))
    rw [mixL_all _ _ hml] at hR
    subst hR hq
    refine W.ret ?_
    exact RetR.own (ob' := [.gr 6 45 ((marksT k xs.length).map Nd.row) 0 false]) ⟨[0], [0], 1⟩ (.inl rfl) rfl (by first | trivial | exact resOK_of (E := env) rfl) rfl rfl rfl rfl rfl rfl ⟨rfl, trivial⟩ rfl ⟨rfl, rfl⟩

end Go.Proofs.YtmmjbpgdkokjgaaGreat
end

section
set_option linter.unusedVariables false
set_option linter.unusedSimpArgs false
set_option maxRecDepth 100000
namespace Go.Proofs.YtmmjbpgdkokjgaaGreat
open Go.RowKit

set_option maxHeartbeats 8000000 in
theorem lawLowerTree_fn (ns : List Nd) (hc0 : ∀ c ∈ ns, c.fit) (hm0 : ns.length ≤ maxLen) : Fun env.P 3 [nodesD ns] (.d (dB true)) [] := by
  have hz0 := szNodeS_fn ns (1048576) hc0 hm0 (by omega) (by omega)
  by_cases hn0 : szT ns (1048576) < 0
  · refine Fun.intro Tryz.func3 rfl (by kernel_rfl) rfl ?_
    repeat' (first | refine W.seq ?_ | refine W.rg ?_ | refine W.skip ?_ | refine W.cond_false' ?_ | refine WG.nil ?_ | refine WG.run' (E := env) ?_ | refine WG.gt' ?_ | refine WG.c (E := env) rfl rfl (hz0) rfl rfl ?_ | ((refine W.cond' (fun h => ?_) fun h => ?_) <;> (try simp only [atS, List.length_map, beq_self_eq_true] at h) <;> (try (exfalso; first | contradiction | omega))))
    all_goals first | ((refine W.ret ?_; (first | refine RetQ.b' ?_)); rfl; done) | (exfalso; omega)
  have hl0n : 0 ≤ szT ns (1048576) := Int.not_lt.1 hn0
  obtain ⟨hl0, ht0⟩ := szT_ok (Int.not_lt.1 hn0)
  obtain ⟨code, did, rs, hrl, hrx, hrs, h1, h2⟩ : ∃ (code did : Int) (rs : List (Co)), rs.length ≤ 1048576 ∧ (∀ n ∈ rs, n.fine) ∧ sumV rs ≤ 943718400 ∧ Fun env.P 7 [nodesD ns] (.agg [vI .i64 code, vI .i64 did, .og 0 0]) [.x (neC (rs.map coN) (some (rs.map Co.row))) 0] ∧
      Fun env.P 5 [nodesD ns] (.d (.agg [dI code, dI did, .sl 6 (rs.map Co.row)])) [] := LowerTree_both ns ⟨ht0, hl0⟩ 
  have h2d := h2
  have h1d := FunQ.fin h1 (Fin.pubX3 rfl)
  have o0 := toNodeSown_fn ns hl0
  have d0 := toNodeS_fn ns hl0
  have e0 := eqNodeS_fn ns ns hl0
  have m0 := markNodeS_fn ns (1) (by omega)
  have er := eqCoreResult_fn code code did did rs rs hrl hrx
  have mr := markCoreResult_fn code did rs (some (rs.map Co.row)) 1 (by omega)
  have qr := heldCoreResult_fn code did (rs.map fun n => n.val.length) 1 (by rw [endK_le]; omega) (by simpa using hrl)
  rw [endK_le] at qr
  refine Fun.intro Tryz.func3 rfl (by kernel_rfl) rfl ?_
  repeat' (first | refine WG.coG (E := env) (K := 1) rfl rfl o0 rfl rfl ?_ | refine WG.cq (E := env) (K := 2) (t' := .agg [vI .i64 code, vI .i64 did, .og 2 0]) (ob2 := [.pv [.d (dI code), .d (dI did), .d (.sl 6 (rs.map Co.row))], .gr 6 45 (ns.map Nd.row) 0 false, .x (neC (rs.map coN) (some (rs.map Co.row))) 0]) [] [] true rfl rfl h1 rfl rfl rfl rfl rfl rfl rfl trivial (.inr rfl) rfl (fun _ => ⟨rfl, by intro o ho; cases ho with | head => exact neC_flat _ _ _ | tail _ h => cases h⟩) rfl rfl ?_ | refine WG.cq (E := env) (t' := vI .i64 ((1 + 6 * ns.length : Nat) : Int)) (ob2 := [.pv [.d (dI code), .d (dI did), .d (.sl 6 (rs.map Co.row))], .gr 6 45 ((marksT (1) ns.length).map Nd.row) 0 false, .x (neC (rs.map coN) (some (rs.map Co.row))) 0, .pv [vI .i64 code, vI .i64 did, .og 2 0]]) [1] [0] false rfl rfl m0 rfl rfl rfl rfl rfl rfl rfl ⟨rfl, trivial⟩ (.inl rfl) rfl (fun h => nomatch h) rfl rfl ?_ | refine WG.cq (E := env) (t' := vI .i64 ((1 + 5 * rs.length + 5 * sumV rs : Nat) : Int)) (ob2 := [.pv [.d (dI code), .d (dI did), .d (.sl 6 (rs.map Co.row))], .gr 6 45 ((marksT (1) ns.length).map Nd.row) 0 false, .x (neC ((marksK 1 (rs.map fun n => n.val.length)).map coN) (some ((marksK 1 (rs.map fun n => n.val.length)).map Co.row))) 0, .pv [vI .i64 code, vI .i64 did, .og 2 0]]) [2] [0] false rfl rfl mr rfl rfl rfl rfl rfl rfl rfl ⟨rfl, trivial⟩ (.inl rfl) rfl (fun h => nomatch h) rfl rfl ?_ | refine W.seq ?_ | refine W.rg ?_ | refine W.skip ?_ | refine W.cond_false' ?_ | refine WG.nil ?_ | refine WG.run' (E := env) ?_ | refine WG.gt' ?_ | refine WG.c (E := env) rfl rfl (h2d) rfl rfl ?_ | refine WG.c (E := env) rfl rfl (h1d) rfl rfl ?_ | refine WG.c (E := env) rfl rfl (hz0) rfl rfl ?_ | refine WG.c (E := env) rfl rfl (d0) rfl rfl ?_ | refine WG.cL (E := env) rfl rfl (e0) rfl rfl rfl rfl ?_ | refine WG.cL (E := env) rfl rfl (er) rfl rfl rfl rfl ?_ | refine WG.cL (E := env) rfl rfl (qr) rfl rfl rfl rfl ?_ | ((refine W.cond' (fun h => ?_) fun h => ?_) <;> (try simp only [atS, List.length_map, beq_self_eq_true] at h) <;> (try (exfalso; first | contradiction | omega))))
  all_goals first | ((refine W.ret ?_; (first | refine RetQ.b' ?_)); rfl; done) | (exfalso; simp_all; done)
  all_goals trace_state

theorem lawLowerTree (xs : List D) (h : wfAs env.P [22] xs) : Fun env.P 3 xs (.d (dB true)) [] := by
  match xs, h with
  | [x0], ⟨h0, _⟩ =>
    obtain ⟨ns, hc0, hm0, rfl⟩ := nodes_of h0
    exact lawLowerTree_fn ns hc0 hm0

end Go.Proofs.YtmmjbpgdkokjgaaGreat
end
