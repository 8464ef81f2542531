/-
  The reference's fault of a value; the law on faults. Conditions: none beyond the law's own.
-/
import Derived.Test.YtmmjbpgdkokjgaaQCompileCoreV5
import Derived.Test.YtmmjbpgdkokjgaaQCompileCoreC1
set_option linter.unusedVariables false
set_option linter.unusedSimpArgs false
set_option maxRecDepth 100000
namespace Go.Proofs.Ytmmjbpgdkokjgaa
open Go.RowKit

set_option maxHeartbeats 1000000 in
theorem ValueFaultS_fn (cs : List Cell) (ht : ∀ c ∈ cs, c.text.size ≤ 1048576 ∧ c.key.size ≤ 1048576) (hl : cs.length ≤ 1048576) : Fun env.P 66 [cellsD cs] (.d (dI (valOfM cs).2)) [] := by
  have hat : ∀ i : Nat, i < cs.length → (cs.getD i default).text.size ≤ 1048576 ∧ (cs.getD i default).key.size ≤ 1048576 := fun i hi => ht _ (getD_mem' hi)
  by_cases hlen : 1 ≤ cs.length ∧ cs.length ≤ 200
  · refine Fun.intro Try.func66 rfl (by kernel_rfl) rfl ?_
    repeat' (first | refine W.seq ?_ | refine W.rg ?_ | refine W.dra' ?_ | refine W.block ?_ | refine W.skip ?_ | refine W.exit ?_ | refine W.cond_true' ?_ | refine W.cond_false' ?_ | refine WG.nil ?_ | refine WG.run' (E := env) ?_ | refine WG.gt' ?_ | refine WG.gf' ?_ | refine WG.ixm' (E := env) ?_ | refine WG.ixo' (E := env) ?_ | refine WG.legm' (E := env) ?_ | refine WG.slS' (E := env) ?_ | refine WG.slD' (E := env) ?_ | refine WG.ap' (E := env) ?_ | refine WD.nil ?_ | refine WD.bs' (E := env) ?_ | refine WD.s' (E := env) (t := .d _) ?_ | refine WD.p' ?_ | refine WD.px' ?_ | refine WD.s' (E := env) (t := .ea _ _) ?_ | refine WD.s' (E := env) (t := .lp _ _) ?_ | refine WD.s' (E := env) (t := .og _ _) ?_ | refine WD.s' (E := env) (t := .agg _) ?_ | refine WD.s' (E := env) (t := .tup _) ?_ | refine WD.s' (E := env) (t := .clo _ _) ?_ | refine WD.ixm' (E := env) ?_ | refine WD.ixo' (E := env) ?_ | refine WD.legm' (E := env) ?_ | refine WD.slS' (E := env) ?_ | refine WD.slD' (E := env) ?_ | ((first | refine WG.sp' (fun h => ?_) fun h => ?_ | refine W.cond' (fun h => ?_) fun h => ?_ | refine WD.sp' (fun h => ?_) fun h => ?_) <;> (try simp only [atS, List.length_map, beq_self_eq_true] at h) <;> (try (exfalso; first | contradiction | omega))))
    refine W.loop (fun m S => ∃ (i : Nat), m = cs.length - i ∧ (i ≤ cs.length ∧ cellsCode cs = cellsCode (cs.drop i)) ∧ S = ⟨ofL [(0, .d (cellsD cs)), (3, vI .i64 i)], []⟩) _ _ ⟨0, rfl, ⟨by omega, rfl⟩, rfl⟩ (by (refine le_ofL rfl ?_ ?_ <;> (repeat (first | exact trivial | refine ⟨⟨rfl, rfl⟩, ?_⟩ | refine ⟨rfl, .inl rfl, ?_⟩ | refine ⟨rfl, .inr rfl, ?_⟩)))) ?_
    rintro m S ⟨i, rfl, ⟨hi, he⟩, rfl⟩
    repeat' (first | refine W.seq ?_ | refine W.rg ?_ | refine W.dra' ?_ | refine W.block ?_ | refine W.skip ?_ | refine W.exit ?_ | refine W.cond_true' ?_ | refine W.cond_false' ?_ | refine WG.nil ?_ | refine WG.run' (E := env) ?_ | refine WG.gt' ?_ | refine WG.gf' ?_ | refine WG.ixm' (E := env) ?_ | refine WG.ixo' (E := env) ?_ | refine WG.legm' (E := env) ?_ | refine WG.slS' (E := env) ?_ | refine WG.slD' (E := env) ?_ | refine WG.ap' (E := env) ?_ | refine WD.nil ?_ | refine WD.bs' (E := env) ?_ | refine WD.s' (E := env) (t := .d _) ?_ | refine WD.p' ?_ | refine WD.px' ?_ | refine WD.s' (E := env) (t := .ea _ _) ?_ | refine WD.s' (E := env) (t := .lp _ _) ?_ | refine WD.s' (E := env) (t := .og _ _) ?_ | refine WD.s' (E := env) (t := .agg _) ?_ | refine WD.s' (E := env) (t := .tup _) ?_ | refine WD.s' (E := env) (t := .clo _ _) ?_ | refine WD.ixm' (E := env) ?_ | refine WD.ixo' (E := env) ?_ | refine WD.legm' (E := env) ?_ | refine WD.slS' (E := env) ?_ | refine WD.slD' (E := env) ?_ | refine WG.c (E := env) rfl rfl (l1Cell_fn _ (hat _ (by omega)).1 (hat _ (by omega)).2) rfl rfl ?_ | refine WD.c (E := env) rfl rfl (l1Cell_fn _ (hat _ (by omega)).1 (hat _ (by omega)).2) rfl rfl ?_ | refine WG.co (E := env) rfl rfl (l1Cell_fn _ (hat _ (by omega)).1 (hat _ (by omega)).2) rfl rfl rfl rfl ?_ | refine WG.cx (E := env) rfl (l1Cell_fn _ (hat _ (by omega)).1 (hat _ (by omega)).2) rfl ?_ | ((first | refine WG.sp' (fun h => ?_) fun h => ?_ | refine W.cond' (fun h => ?_) fun h => ?_ | refine WD.sp' (fun h => ?_) fun h => ?_) <;> (try simp only [atS, List.length_map, beq_self_eq_true] at h) <;> (try (exfalso; first | contradiction | omega))))
    · (try simp only [Int.toNat_natCast, Int.toNat_zero, toNat_cc, toNat_c1, toNat_cm1, toNat_cm] at *)
      rw [drop_step (by omega), cellsCode, if_pos (by assumption)] at he
      have e : valOfM cs = (V.zero, cellCode (cs.getD i default)) := by rw [valOfM, if_neg (by omega), if_pos (by rw [he]; assumption), he]
      rw [e]
      (refine W.ret ?_; (first | refine RetQ.b' ?_ | refine RetQ.i' ?_ | refine RetQ.d' ?_ | refine RetQ.t2' ?_ ?_ | refine RetQ.t3' ?_ ?_ ?_))
      rfl
    · (try simp only [Int.toNat_natCast, Int.toNat_zero, toNat_cc, toNat_c1, toNat_cm1, toNat_cm] at *)
      exact ⟨_, _, by omega, ⟨i + 1, rfl, ⟨by omega, by rw [he, drop_step (by omega), cellsCode, if_neg (by simp only [*]; simp)]⟩, rfl⟩, (by (refine le_ofL rfl ?_ ?_ <;> (repeat (first | exact trivial | refine ⟨⟨rfl, rfl⟩, ?_⟩ | refine ⟨rfl, .inl rfl, ?_⟩ | refine ⟨rfl, .inr rfl, ?_⟩))))⟩
    rw [List.drop_eq_nil_of_le (by omega)] at he
    cases hv : valAtM cs (cs.length + 1) 0 with
    | none =>
      have hc := (l1Shape_fn cs (by omega) (cs.length + 1) 0 0 (by omega) (by omega) (by omega)).cast rfl (congrArg (fun x => T.tup (shapeRes x)) hv) rfl
      have e : valOfM cs = (V.zero, 1) := by rw [valOfM, if_neg (by omega), if_neg (by rw [he]; simp [cellsCode]), hv]
      rw [e]
      repeat' (first | refine W.seq ?_ | refine W.rg ?_ | refine W.dra' ?_ | refine W.block ?_ | refine W.skip ?_ | refine W.exit ?_ | refine W.cond_true' ?_ | refine W.cond_false' ?_ | refine WG.nil ?_ | refine WG.run' (E := env) ?_ | refine WG.gt' ?_ | refine WG.gf' ?_ | refine WG.ixm' (E := env) ?_ | refine WG.ixo' (E := env) ?_ | refine WG.legm' (E := env) ?_ | refine WG.slS' (E := env) ?_ | refine WG.slD' (E := env) ?_ | refine WG.ap' (E := env) ?_ | refine WD.nil ?_ | refine WD.bs' (E := env) ?_ | refine WD.s' (E := env) (t := .d _) ?_ | refine WD.p' ?_ | refine WD.px' ?_ | refine WD.s' (E := env) (t := .ea _ _) ?_ | refine WD.s' (E := env) (t := .lp _ _) ?_ | refine WD.s' (E := env) (t := .og _ _) ?_ | refine WD.s' (E := env) (t := .agg _) ?_ | refine WD.s' (E := env) (t := .tup _) ?_ | refine WD.s' (E := env) (t := .clo _ _) ?_ | refine WD.ixm' (E := env) ?_ | refine WD.ixo' (E := env) ?_ | refine WD.legm' (E := env) ?_ | refine WD.slS' (E := env) ?_ | refine WD.slD' (E := env) ?_ | refine WG.c (E := env) rfl rfl (hc) rfl rfl ?_ | refine WD.c (E := env) rfl rfl (hc) rfl rfl ?_ | refine WG.co (E := env) rfl rfl (hc) rfl rfl rfl rfl ?_ | refine WG.cx (E := env) rfl (hc) rfl ?_ | ((first | refine WG.sp' (fun h => ?_) fun h => ?_ | refine W.cond' (fun h => ?_) fun h => ?_ | refine WD.sp' (fun h => ?_) fun h => ?_) <;> (try simp only [atS, List.length_map, beq_self_eq_true] at h) <;> (try (exfalso; first | contradiction | omega))))
      all_goals first | ((refine W.ret ?_; (first | refine RetQ.b' ?_ | refine RetQ.i' ?_ | refine RetQ.d' ?_ | refine RetQ.t2' ?_ ?_ | refine RetQ.t3' ?_ ?_ ?_)); all_goals rfl; done) | (exfalso; omega)
    | some p =>
      obtain ⟨v, b⟩ := p
      have hc := (l1Shape_fn cs (by omega) (cs.length + 1) 0 0 (by omega) (by omega) (by omega)).cast rfl (congrArg (fun x => T.tup (shapeRes x)) hv) rfl
      have e0 : valOfM cs = if b ≠ cs.length ∨ (cs.getD 0 default).key ≠ noS then (V.zero, 1) else if 20 < v.depth then (V.zero, 7) else (v, 0) := by
        rw [valOfM, if_neg (by omega), if_neg (by rw [he]; simp [cellsCode]), hv]
      by_cases h1 : b ≠ cs.length ∨ (cs.getD 0 default).key ≠ noS
      · rw [if_pos h1] at e0
        rw [e0]
        repeat' (first | refine W.seq ?_ | refine W.rg ?_ | refine W.dra' ?_ | refine W.block ?_ | refine W.skip ?_ | refine W.exit ?_ | refine W.cond_true' ?_ | refine W.cond_false' ?_ | refine WG.nil ?_ | refine WG.run' (E := env) ?_ | refine WG.gt' ?_ | refine WG.gf' ?_ | refine WG.ixm' (E := env) ?_ | refine WG.ixo' (E := env) ?_ | refine WG.legm' (E := env) ?_ | refine WG.slS' (E := env) ?_ | refine WG.slD' (E := env) ?_ | refine WG.ap' (E := env) ?_ | refine WD.nil ?_ | refine WD.bs' (E := env) ?_ | refine WD.s' (E := env) (t := .d _) ?_ | refine WD.p' ?_ | refine WD.px' ?_ | refine WD.s' (E := env) (t := .ea _ _) ?_ | refine WD.s' (E := env) (t := .lp _ _) ?_ | refine WD.s' (E := env) (t := .og _ _) ?_ | refine WD.s' (E := env) (t := .agg _) ?_ | refine WD.s' (E := env) (t := .tup _) ?_ | refine WD.s' (E := env) (t := .clo _ _) ?_ | refine WD.ixm' (E := env) ?_ | refine WD.ixo' (E := env) ?_ | refine WD.legm' (E := env) ?_ | refine WD.slS' (E := env) ?_ | refine WD.slD' (E := env) ?_ | refine WG.c (E := env) rfl rfl (hc) rfl rfl ?_ | refine WD.c (E := env) rfl rfl (hc) rfl rfl ?_ | refine WG.co (E := env) rfl rfl (hc) rfl rfl rfl rfl ?_ | refine WG.cx (E := env) rfl (hc) rfl ?_ | ((first | refine WG.sp' (fun h => ?_) fun h => ?_ | refine W.cond' (fun h => ?_) fun h => ?_ | refine WD.sp' (fun h => ?_) fun h => ?_) <;> (try simp only [atS, List.length_map, beq_self_eq_true] at h) <;> (try (exfalso; first | contradiction | omega))))
        all_goals first | ((refine W.ret ?_; (first | refine RetQ.b' ?_ | refine RetQ.i' ?_ | refine RetQ.d' ?_ | refine RetQ.t2' ?_ ?_ | refine RetQ.t3' ?_ ?_ ?_)); all_goals rfl; done) | (exfalso; (try simp only [Int.toNat_natCast, Int.toNat_zero, toNat_cc, toNat_c1, toNat_cm1, toNat_cm] at *); rcases h1 with h1 | h1 <;> first | omega | contradiction)
      · rw [if_neg h1] at e0
        by_cases h2 : 20 < v.depth
        · rw [if_pos h2] at e0
          rw [e0]
          repeat' (first | refine W.seq ?_ | refine W.rg ?_ | refine W.dra' ?_ | refine W.block ?_ | refine W.skip ?_ | refine W.exit ?_ | refine W.cond_true' ?_ | refine W.cond_false' ?_ | refine WG.nil ?_ | refine WG.run' (E := env) ?_ | refine WG.gt' ?_ | refine WG.gf' ?_ | refine WG.ixm' (E := env) ?_ | refine WG.ixo' (E := env) ?_ | refine WG.legm' (E := env) ?_ | refine WG.slS' (E := env) ?_ | refine WG.slD' (E := env) ?_ | refine WG.ap' (E := env) ?_ | refine WD.nil ?_ | refine WD.bs' (E := env) ?_ | refine WD.s' (E := env) (t := .d _) ?_ | refine WD.p' ?_ | refine WD.px' ?_ | refine WD.s' (E := env) (t := .ea _ _) ?_ | refine WD.s' (E := env) (t := .lp _ _) ?_ | refine WD.s' (E := env) (t := .og _ _) ?_ | refine WD.s' (E := env) (t := .agg _) ?_ | refine WD.s' (E := env) (t := .tup _) ?_ | refine WD.s' (E := env) (t := .clo _ _) ?_ | refine WD.ixm' (E := env) ?_ | refine WD.ixo' (E := env) ?_ | refine WD.legm' (E := env) ?_ | refine WD.slS' (E := env) ?_ | refine WD.slD' (E := env) ?_ | refine WG.c (E := env) rfl rfl (hc) rfl rfl ?_ | refine WD.c (E := env) rfl rfl (hc) rfl rfl ?_ | refine WG.co (E := env) rfl rfl (hc) rfl rfl rfl rfl ?_ | refine WG.cx (E := env) rfl (hc) rfl ?_ | ((first | refine WG.sp' (fun h => ?_) fun h => ?_ | refine W.cond' (fun h => ?_) fun h => ?_ | refine WD.sp' (fun h => ?_) fun h => ?_) <;> (try simp only [atS, List.length_map, beq_self_eq_true] at h) <;> (try (exfalso; first | contradiction | omega))))
          all_goals first | ((refine W.ret ?_; (first | refine RetQ.b' ?_ | refine RetQ.i' ?_ | refine RetQ.d' ?_ | refine RetQ.t2' ?_ ?_ | refine RetQ.t3' ?_ ?_ ?_)); all_goals rfl; done) | (exfalso; (try simp only [Int.toNat_natCast, Int.toNat_zero, toNat_cc, toNat_c1, toNat_cm1, toNat_cm] at *); exact h1 (.inl (by omega)); done) | (exfalso; (try simp only [Int.toNat_natCast, Int.toNat_zero, toNat_cc, toNat_c1, toNat_cm1, toNat_cm] at *); exact h1 (.inr (by assumption)); done)
        · rw [if_neg h2] at e0
          rw [e0]
          repeat' (first | refine W.seq ?_ | refine W.rg ?_ | refine W.dra' ?_ | refine W.block ?_ | refine W.skip ?_ | refine W.exit ?_ | refine W.cond_true' ?_ | refine W.cond_false' ?_ | refine WG.nil ?_ | refine WG.run' (E := env) ?_ | refine WG.gt' ?_ | refine WG.gf' ?_ | refine WG.ixm' (E := env) ?_ | refine WG.ixo' (E := env) ?_ | refine WG.legm' (E := env) ?_ | refine WG.slS' (E := env) ?_ | refine WG.slD' (E := env) ?_ | refine WG.ap' (E := env) ?_ | refine WD.nil ?_ | refine WD.bs' (E := env) ?_ | refine WD.s' (E := env) (t := .d _) ?_ | refine WD.p' ?_ | refine WD.px' ?_ | refine WD.s' (E := env) (t := .ea _ _) ?_ | refine WD.s' (E := env) (t := .lp _ _) ?_ | refine WD.s' (E := env) (t := .og _ _) ?_ | refine WD.s' (E := env) (t := .agg _) ?_ | refine WD.s' (E := env) (t := .tup _) ?_ | refine WD.s' (E := env) (t := .clo _ _) ?_ | refine WD.ixm' (E := env) ?_ | refine WD.ixo' (E := env) ?_ | refine WD.legm' (E := env) ?_ | refine WD.slS' (E := env) ?_ | refine WD.slD' (E := env) ?_ | refine WG.c (E := env) rfl rfl (hc) rfl rfl ?_ | refine WD.c (E := env) rfl rfl (hc) rfl rfl ?_ | refine WG.co (E := env) rfl rfl (hc) rfl rfl rfl rfl ?_ | refine WG.cx (E := env) rfl (hc) rfl ?_ | ((first | refine WG.sp' (fun h => ?_) fun h => ?_ | refine W.cond' (fun h => ?_) fun h => ?_ | refine WD.sp' (fun h => ?_) fun h => ?_) <;> (try simp only [atS, List.length_map, beq_self_eq_true] at h) <;> (try (exfalso; first | contradiction | omega))))
          all_goals first | ((refine W.ret ?_; (first | refine RetQ.b' ?_ | refine RetQ.i' ?_ | refine RetQ.d' ?_ | refine RetQ.t2' ?_ ?_ | refine RetQ.t3' ?_ ?_ ?_)); all_goals rfl; done) | (exfalso; (try simp only [Int.toNat_natCast, Int.toNat_zero, toNat_cc, toNat_c1, toNat_cm1, toNat_cm] at *); exact h1 (.inl (by omega)); done) | (exfalso; (try simp only [Int.toNat_natCast, Int.toNat_zero, toNat_cc, toNat_c1, toNat_cm1, toNat_cm] at *); exact h1 (.inr (by assumption)); done)
  · have e : valOfM cs = (V.zero, 2) := by rw [valOfM, if_pos hlen]
    rw [e]
    refine Fun.intro Try.func66 rfl (by kernel_rfl) rfl ?_
    repeat' (first | refine W.seq ?_ | refine W.rg ?_ | refine W.dra' ?_ | refine W.block ?_ | refine W.skip ?_ | refine W.exit ?_ | refine W.cond_true' ?_ | refine W.cond_false' ?_ | refine WG.nil ?_ | refine WG.run' (E := env) ?_ | refine WG.gt' ?_ | refine WG.gf' ?_ | refine WG.ixm' (E := env) ?_ | refine WG.ixo' (E := env) ?_ | refine WG.legm' (E := env) ?_ | refine WG.slS' (E := env) ?_ | refine WG.slD' (E := env) ?_ | refine WG.ap' (E := env) ?_ | refine WD.nil ?_ | refine WD.bs' (E := env) ?_ | refine WD.s' (E := env) (t := .d _) ?_ | refine WD.p' ?_ | refine WD.px' ?_ | refine WD.s' (E := env) (t := .ea _ _) ?_ | refine WD.s' (E := env) (t := .lp _ _) ?_ | refine WD.s' (E := env) (t := .og _ _) ?_ | refine WD.s' (E := env) (t := .agg _) ?_ | refine WD.s' (E := env) (t := .tup _) ?_ | refine WD.s' (E := env) (t := .clo _ _) ?_ | refine WD.ixm' (E := env) ?_ | refine WD.ixo' (E := env) ?_ | refine WD.legm' (E := env) ?_ | refine WD.slS' (E := env) ?_ | refine WD.slD' (E := env) ?_ | ((first | refine WG.sp' (fun h => ?_) fun h => ?_ | refine W.cond' (fun h => ?_) fun h => ?_ | refine WD.sp' (fun h => ?_) fun h => ?_) <;> (try simp only [atS, List.length_map, beq_self_eq_true] at h) <;> (try (exfalso; first | contradiction | omega))))
    all_goals first | ((refine W.ret ?_; (first | refine RetQ.b' ?_ | refine RetQ.i' ?_ | refine RetQ.d' ?_ | refine RetQ.t2' ?_ ?_ | refine RetQ.t3' ?_ ?_ ?_)); all_goals rfl; done) | (exfalso; omega)

theorem szL_text : ∀ (cs : List Cell) (l : Int), 0 ≤ szL cs l → l ≤ 1048576 → ∀ c ∈ cs, c.text.size ≤ 1048576 ∧ c.key.size ≤ 1048576
  | [], l, _, _, c, hc => by cases hc
  | x :: r, l, h, hl, c, hc => by
    unfold szL at h
    split at h
    · omega
    · rename_i hx
      have hb : x.text.size ≤ 1048576 ∧ x.key.size ≤ 1048576 ∧ szC x l ≤ 1048576 := by
        unfold szC at hx ⊢
        split at hx
        · omega
        · rename_i h1
          rw [if_neg h1]
          split at hx
          · omega
          · rename_i h2
            rw [if_neg h2]
            omega
      rcases List.mem_cons.1 hc with rfl | hc
      · exact ⟨hb.1, hb.2.1⟩
      · exact szL_text r (szC x l) h hb.2.2 c hc

theorem cell_of {n : Nat} {r : List D} (h : wfD env.P n 91 r) : ∃ c : Cell, c.fit ∧ r = c.row := by
  obtain ⟨m, hm⟩ := wfD_fields (ts := [2, 2, 9, 9, 2]) (by kernel_rfl) (by kernel_rfl) h
  match r, hm with
  | [a, b, c, d, e], ⟨h1, h2, h3, h4, h5, _⟩ =>
    obtain ⟨i1, _, rfl⟩ := wfD_int (k := .i64) (by kernel_rfl) h1
    obtain ⟨i2, _, rfl⟩ := wfD_int (k := .i64) (by kernel_rfl) h2
    obtain ⟨s3, l3, rfl⟩ := wfD_str (by kernel_rfl) h3
    obtain ⟨s4, l4, rfl⟩ := wfD_str (by kernel_rfl) h4
    obtain ⟨i5, _, rfl⟩ := wfD_int (k := .i64) (by kernel_rfl) h5
    exact ⟨⟨i1, i2, s3, s4, i5⟩, ⟨l3, l4⟩, rfl⟩

end Go.Proofs.Ytmmjbpgdkokjgaa
