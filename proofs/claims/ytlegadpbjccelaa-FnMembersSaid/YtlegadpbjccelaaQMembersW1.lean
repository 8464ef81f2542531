/-
  Texts of this claim in one. Conditions: none.
-/
import Derived.Test.YtlegadpbjccelaaQMembersG17
import Derived.Test.YtlegadpbjccelaaQMembersEnv
import Derived.Test.YtlegadpbjccelaaQMembersOr1
import Derived.Test.YtlegadpbjccelaaQMembersPgC
section
set_option linter.unusedVariables false
set_option linter.unusedSimpArgs false
set_option maxRecDepth 100000
namespace Go.Proofs.Ytlegadpbjccelaa
open Go.RowKit

theorem posK_all {key : ByteArray} : ∀ {ks : List ByteArray}, (∀ a ∈ ks, lessK a key = true) → posK key ks = ks.length
  | [], _ => rfl
  | a :: r, h => by rw [posK, if_pos (h a (List.mem_cons_self ..)), posK_all fun b hb => h b (List.mem_cons_of_mem _ hb)]; rfl

theorem objK_incr {α : Type} [Inhabited α] {keys : List ByteArray} (h : incr keys) (xs : List α) (hl : keys.length = xs.length) : ∀ i, i ≤ keys.length → objK keys i = keys.take i ∧ objX keys xs i = xs.take i
  | 0, _ => by simp [objK, objX]
  | i + 1, hi => by
    obtain ⟨e1, e2⟩ := objK_incr h xs hl i (by omega)
    have hall : ∀ a ∈ keys.take i, lessK a (keys.getD i default) = true := fun a ha => by
      obtain ⟨j, hj, rfl⟩ := List.getElem_of_mem ha
      have hj2 : j < i := by simp at hj; omega
      have := less_getD h j i hj2 (by omega)
      have hj3 : j < keys.length := by omega
      simpa [hj3] using this
    have hp := posK_all hall
    have hh : hasK (keys.take i) (keys.getD i default) = false := by rw [hasK, hp, decide_eq_false (by omega), Bool.false_and]
    have hxl : (xs.take i).length = (keys.take i).length := by simp [hl]
    constructor
    · rw [objK, e1, insK, if_neg (by rw [hh]; simp), hp, List.take_length, List.drop_length, take_step (by omega)]
    · rw [objX, e1, e2, insX, if_neg (by rw [hh]; simp), hp, ← hxl, List.take_length, List.drop_length, take_step (l := xs) (by omega)]

theorem keyed_cells (k : ByteArray) (v : V) : keyed k v.cells = v.cellsK k := by cases v; rfl

theorem pcs_cells : ∀ (ks : List ByteArray) (vs : List V), ks.length = vs.length → ∀ i, i ≤ ks.length → pcs ks (vs.map V.cells) i = V.kidsC (vs.take i) (ks.take i)
  | ks, vs, hl, 0, _ => by simp [pcs, V.kidsC]
  | ks, vs, hl, i + 1, hi => by
    have ih := pcs_cells ks vs hl i (by omega)
    have e : (vs.map V.cells).getD i default = (vs.getD i default).cells := by
      have : i < vs.length := by omega
      simp [this]
    rw [pcs, ih, e, keyed_cells, take_step (l := vs) (by omega), take_step (l := ks) (by omega), V.kidsC_app _ _ _ _ (by simp [hl])]

set_option maxHeartbeats 1000000 in
theorem dropKeyC_fn (v : V) (h : v.fine) (key : ByteArray) (hs : key.size ≤ 1048576) : FunQ env.P 149 [.d (.agg v.rowP), .lp 0 0] [.pv [.d (dS key)]] (just (.d (outD (dropO2 v key).1 (dropO2 v key).2)) [.pv [.d (dS key)]]) := by
  have h1 := dropKeyP_fn v h key hs
  generalize (dropO2 v key).2 = w at h1 ⊢
  generalize (dropO2 v key).1 = c at h1 ⊢
  refine FunQ.intro Try.func149 rfl (by kernel_rfl) rfl ?_
  repeat' (first | refine W.seq ?_ | refine W.rg ?_ | refine W.dra' ?_ | refine W.block ?_ | refine W.skip ?_ | refine W.exit ?_ | refine W.cond_true' ?_ | refine W.cond_false' ?_ | refine WG.nil ?_ | refine WG.run' (E := env) ?_ | refine WG.gt' ?_ | refine WG.gf' ?_ | refine WG.ixm' (E := env) ?_ | refine WG.ixo' (E := env) ?_ | refine WG.legm' (E := env) ?_ | refine WG.slS' (E := env) ?_ | refine WG.slD' (E := env) ?_ | refine WG.ap' (E := env) ?_ | refine WD.nil ?_ | refine WD.bs' (E := env) ?_ | refine WD.s' (E := env) (t := .d _) ?_ | refine WD.p' ?_ | refine WD.px' ?_ | refine WD.s' (E := env) (t := .ea _ _) ?_ | refine WD.s' (E := env) (t := .lp _ _) ?_ | refine WD.s' (E := env) (t := .og _ _) ?_ | refine WD.s' (E := env) (t := .agg _) ?_ | refine WD.s' (E := env) (t := .tup _) ?_ | refine WD.s' (E := env) (t := .clo _ _) ?_ | refine WD.ixm' (E := env) ?_ | refine WD.ixo' (E := env) ?_ | refine WD.legm' (E := env) ?_ | refine WD.slS' (E := env) ?_ | refine WD.slD' (E := env) ?_ | refine WG.c (E := env) rfl rfl (h1) rfl rfl ?_ | refine WD.c (E := env) rfl rfl (h1) rfl rfl ?_ | refine WG.co (E := env) rfl rfl (h1) rfl rfl rfl rfl ?_ | refine WG.cx (E := env) rfl (h1) rfl ?_ | ((first | refine WG.sp' (fun h => ?_) fun h => ?_ | refine W.cond' (fun h => ?_) fun h => ?_ | refine WD.sp' (fun h => ?_) fun h => ?_) <;> (try simp only [decide_eq_true_eq, decide_eq_false_iff_not, Bool.not_eq_true', Bool.not_eq_false', Bool.and_eq_true, Bool.or_eq_true, Bool.and_eq_false_iff, Bool.or_eq_false_iff, Bool.not_eq_true, Bool.not_eq_false, Int.not_lt, Int.not_le, List.length_map, beq_self_eq_true, Bool.true_eq_false, Bool.false_eq_true] at h) <;> (try (exfalso; first | contradiction | omega))))
  refine W.ret ?_
  exact RetR.own (ob' := [.pv [.d (dS key)]]) ⟨[0], [0], 3⟩ (.inl rfl) rfl (by first | trivial | exact resOK_of (E := env) rfl) rfl rfl rfl rfl rfl rfl ⟨rfl, trivial⟩ rfl ⟨rfl, rfl⟩

set_option maxHeartbeats 1000000 in
theorem DropKey_fn (cs : List Cell) (hf : fitsC cs) (key : ByteArray) (hs : key.size ≤ 1048576) : Fun env.P 78 [cellsD cs, dS key] (.agg [vI .i64 (oneCode cs (dropO2 (valOfM cs).1 key).1), .og 0 0]) [.gr 5 91 ((oneCells cs (dropO2 (valOfM cs).1 key).1 (dropO2 (valOfM cs).1 key).2).map Cell.row) 0 false] := by
  have h1 := ofOneC_fn (f := 149) (dS key) cs hf (dropO2 (valOfM cs).1 key).1 (dropO2 (valOfM cs).1 key).2 (fun h0 => dropKeyC_fn _ (valOfM_fine h0).1 key hs) (oneOK fun h0 => dropO2_fine (valOfM_fine h0).1 key)
  generalize oneCode cs (dropO2 (valOfM cs).1 key).1 = code at h1 ⊢
  generalize oneCells cs (dropO2 (valOfM cs).1 key).1 (dropO2 (valOfM cs).1 key).2 = rs at h1 ⊢
  refine Fun.intro Try.func78 rfl (by kernel_rfl) rfl ?_
  repeat' (first | refine W.seq ?_ | refine W.rg ?_ | refine W.dra' ?_ | refine W.block ?_ | refine W.skip ?_ | refine W.exit ?_ | refine W.cond_true' ?_ | refine W.cond_false' ?_ | refine WG.nil ?_ | refine WG.run' (E := env) ?_ | refine WG.gt' ?_ | refine WG.gf' ?_ | refine WG.ixm' (E := env) ?_ | refine WG.ixo' (E := env) ?_ | refine WG.legm' (E := env) ?_ | refine WG.slS' (E := env) ?_ | refine WG.slD' (E := env) ?_ | refine WG.ap' (E := env) ?_ | refine WD.nil ?_ | refine WD.bs' (E := env) ?_ | refine WD.s' (E := env) (t := .d _) ?_ | refine WD.p' ?_ | refine WD.px' ?_ | refine WD.s' (E := env) (t := .ea _ _) ?_ | refine WD.s' (E := env) (t := .lp _ _) ?_ | refine WD.s' (E := env) (t := .og _ _) ?_ | refine WD.s' (E := env) (t := .agg _) ?_ | refine WD.s' (E := env) (t := .tup _) ?_ | refine WD.s' (E := env) (t := .clo _ _) ?_ | refine WD.ixm' (E := env) ?_ | refine WD.ixo' (E := env) ?_ | refine WD.legm' (E := env) ?_ | refine WD.slS' (E := env) ?_ | refine WD.slD' (E := env) ?_ | ((first | refine WG.sp' (fun h => ?_) fun h => ?_ | refine W.cond' (fun h => ?_) fun h => ?_ | refine WD.sp' (fun h => ?_) fun h => ?_) <;> (try simp only [decide_eq_true_eq, decide_eq_false_iff_not, Bool.not_eq_true', Bool.not_eq_false', Bool.and_eq_true, Bool.or_eq_true, Bool.and_eq_false_iff, Bool.or_eq_false_iff, Bool.not_eq_true, Bool.not_eq_false, Int.not_lt, Int.not_le, List.length_map, beq_self_eq_true, Bool.true_eq_false, Bool.false_eq_true] at h) <;> (try (exfalso; first | contradiction | omega))))
  refine WG.cq (E := env) (K := 2) (t' := .agg [vI .i64 code, .og 2 0]) (ob2 := [.pv [.d (dS key)], .pv [.d (dI 0), .d (.nl 5)], .gr 5 91 (rs.map Cell.row) 0 false]) [0] [0] false rfl rfl h1 rfl rfl rfl rfl rfl rfl rfl ⟨rfl, trivial⟩ (.inl rfl) rfl (fun h => nomatch h) rfl rfl ?_
  repeat' (first | refine W.seq ?_ | refine W.rg ?_ | refine W.dra' ?_ | refine W.block ?_ | refine W.skip ?_ | refine W.exit ?_ | refine W.cond_true' ?_ | refine W.cond_false' ?_ | refine WG.nil ?_ | refine WG.run' (E := env) ?_ | refine WG.gt' ?_ | refine WG.gf' ?_ | refine WG.ixm' (E := env) ?_ | refine WG.ixo' (E := env) ?_ | refine WG.legm' (E := env) ?_ | refine WG.slS' (E := env) ?_ | refine WG.slD' (E := env) ?_ | refine WG.ap' (E := env) ?_ | refine WD.nil ?_ | refine WD.bs' (E := env) ?_ | refine WD.s' (E := env) (t := .d _) ?_ | refine WD.p' ?_ | refine WD.px' ?_ | refine WD.s' (E := env) (t := .ea _ _) ?_ | refine WD.s' (E := env) (t := .lp _ _) ?_ | refine WD.s' (E := env) (t := .og _ _) ?_ | refine WD.s' (E := env) (t := .agg _) ?_ | refine WD.s' (E := env) (t := .tup _) ?_ | refine WD.s' (E := env) (t := .clo _ _) ?_ | refine WD.ixm' (E := env) ?_ | refine WD.ixo' (E := env) ?_ | refine WD.legm' (E := env) ?_ | refine WD.slS' (E := env) ?_ | refine WD.slD' (E := env) ?_ | ((first | refine WG.sp' (fun h => ?_) fun h => ?_ | refine W.cond' (fun h => ?_) fun h => ?_ | refine WD.sp' (fun h => ?_) fun h => ?_) <;> (try simp only [decide_eq_true_eq, decide_eq_false_iff_not, Bool.not_eq_true', Bool.not_eq_false', Bool.and_eq_true, Bool.or_eq_true, Bool.and_eq_false_iff, Bool.or_eq_false_iff, Bool.not_eq_true, Bool.not_eq_false, Int.not_lt, Int.not_le, List.length_map, beq_self_eq_true, Bool.true_eq_false, Bool.false_eq_true] at h) <;> (try (exfalso; first | contradiction | omega))))
  (refine W.ret ?_; first | refine RetR.g' ?_ | refine RetR.ag' ?_ ?_ | refine RetR.agn' ?_ | exact RetR.gn' | refine RetR.ag3' ?_ ?_ ?_ | refine RetR.agn3' ?_ ?_)
  all_goals rfl

end Go.Proofs.Ytlegadpbjccelaa
end

section
set_option linter.unusedVariables false
set_option linter.unusedSimpArgs false
set_option maxRecDepth 100000
namespace Go.Proofs.Ytlegadpbjccelaa
open Go.RowKit

/-! ### words -/

def among (l : List ByteArray) (s : ByteArray) : Bool := match l with | [] => false | x :: r => decide (s = x) || among r s

end Go.Proofs.Ytlegadpbjccelaa
end
