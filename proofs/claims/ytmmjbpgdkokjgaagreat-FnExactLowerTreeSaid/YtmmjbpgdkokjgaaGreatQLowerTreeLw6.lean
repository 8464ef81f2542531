/-
  Nodes of a tree with kids lowered, by the reference. Conditions: at most 5000 nodes.
-/
import Derived.Test.YtmmjbpgdkokjgaaGreatQLowerTreeLw5
set_option linter.unusedVariables false
set_option linter.unusedSimpArgs false
set_option maxRecDepth 100000
namespace Go.Proofs.YtmmjbpgdkokjgaaGreat
open Go.RowKit

section
variable {ns : List Nd} {n : Nd} {k : Nat} {names : List ByteArray} {L : List Co} {A B C : List ByteArray → Pt} {ca cb cc : Nat}

theorem putM1S (m : Co) (A : Pt) (hl : (A.on L).length ≤ 100000) : FunQ env.P 32 [.lp 0 0, .d (.agg [dI m.op, dI (plc (A.on L)), dI m.b, dI m.c, dI m.num, cellsD m.val])] (loS ns (A.on L) 0) (just (.d (dI (plc ((Pt.mk m [A]).on L)))) (loS ns ((Pt.mk m [A]).on L) 1)) := by
  have := l6Put_fn ns (A.on L) ⟨m.op, plc (A.on L), m.b, m.c, m.num, m.val⟩ hl
  rw [Pt.on_1 m] at this
  exact this
theorem putM2S (m : Co) (A B : Pt) (hl : (B.on (A.on L)).length ≤ 100000) : FunQ env.P 32 [.lp 0 0, .d (.agg [dI m.op, dI (plc (A.on L)), dI (plc (B.on (A.on L))), dI m.c, dI m.num, cellsD m.val])] (loS ns (B.on (A.on L)) 0) (just (.d (dI (plc ((Pt.mk m [A, B]).on L)))) (loS ns ((Pt.mk m [A, B]).on L) 1)) := by
  have := l6Put_fn ns (B.on (A.on L)) ⟨m.op, plc (A.on L), plc (B.on (A.on L)), m.c, m.num, m.val⟩ hl
  rw [Pt.on_2 m] at this
  exact this
theorem putM3S (m : Co) (A B C : Pt) (hl : (C.on (B.on (A.on L))).length ≤ 100000) : FunQ env.P 32 [.lp 0 0, .d (.agg [dI m.op, dI (plc (A.on L)), dI (plc (B.on (A.on L))), dI (plc (C.on (B.on (A.on L)))), dI m.num, cellsD m.val])] (loS ns (C.on (B.on (A.on L))) 0) (just (.d (dI (plc ((Pt.mk m [A, B, C]).on L)))) (loS ns ((Pt.mk m [A, B, C]).on L) 1)) := by
  have := l6Put_fn ns (C.on (B.on (A.on L))) ⟨m.op, plc (A.on L), plc (B.on (A.on L)), plc (C.on (B.on (A.on L))), m.num, m.val⟩ hl
  rw [Pt.on_3 m] at this
  exact this

theorem l6Same_5 : Fun env.P 33 [dI 5] (.d (dI 3)) [] := by
  refine Fun.intro Tryz.func33 rfl (by kernel_rfl) rfl ?_
  repeat' (first | refine W.seq ?_ | refine W.rg ?_ | refine W.block ?_ | refine W.cond_true' ?_ | refine WG.nil ?_ | refine WG.run' (E := env) ?_)
  (refine W.ret ?_; (first | refine RetQ.i' ?_))
  rfl

theorem l6Same_6 : Fun env.P 33 [dI 6] (.d (dI 4)) [] := by
  refine Fun.intro Tryz.func33 rfl (by kernel_rfl) rfl ?_
  repeat' (first | refine W.seq ?_ | refine W.rg ?_ | refine W.block ?_ | refine W.cond_true' ?_ | refine W.cond_false' ?_ | refine WG.nil ?_ | refine WG.run' (E := env) ?_)
  (refine W.ret ?_; (first | refine RetQ.i' ?_))
  rfl

theorem l6Same_7 : Fun env.P 33 [dI 7] (.d (dI 5)) [] := by
  refine Fun.intro Tryz.func33 rfl (by kernel_rfl) rfl ?_
  repeat' (first | refine W.seq ?_ | refine W.rg ?_ | refine W.block ?_ | refine W.cond_true' ?_ | refine W.cond_false' ?_ | refine WG.nil ?_ | refine WG.run' (E := env) ?_)
  (refine W.ret ?_; (first | refine RetQ.i' ?_))
  rfl

theorem l6Same_10 : Fun env.P 33 [dI 10] (.d (dI 6)) [] := by
  refine Fun.intro Tryz.func33 rfl (by kernel_rfl) rfl ?_
  repeat' (first | refine W.seq ?_ | refine W.rg ?_ | refine W.block ?_ | refine W.cond_true' ?_ | refine W.cond_false' ?_ | refine WG.nil ?_ | refine WG.run' (E := env) ?_)
  (refine W.ret ?_; (first | refine RetQ.i' ?_))
  rfl

theorem l6Same_11 : Fun env.P 33 [dI 11] (.d (dI 7)) [] := by
  refine Fun.intro Tryz.func33 rfl (by kernel_rfl) rfl ?_
  repeat' (first | refine W.seq ?_ | refine W.rg ?_ | refine W.block ?_ | refine W.cond_true' ?_ | refine W.cond_false' ?_ | refine WG.nil ?_ | refine WG.run' (E := env) ?_)
  (refine W.ret ?_; (first | refine RetQ.i' ?_))
  rfl

theorem l6Same_12 : Fun env.P 33 [dI 12] (.d (dI 8)) [] := by
  refine Fun.intro Tryz.func33 rfl (by kernel_rfl) rfl ?_
  repeat' (first | refine W.seq ?_ | refine W.rg ?_ | refine W.block ?_ | refine W.cond_true' ?_ | refine W.cond_false' ?_ | refine WG.nil ?_ | refine WG.run' (E := env) ?_)
  (refine W.ret ?_; (first | refine RetQ.i' ?_))
  rfl

theorem l6Same_13 : Fun env.P 33 [dI 13] (.d (dI 9)) [] := by
  refine Fun.intro Tryz.func33 rfl (by kernel_rfl) rfl ?_
  repeat' (first | refine W.seq ?_ | refine W.rg ?_ | refine W.block ?_ | refine W.cond_true' ?_ | refine W.cond_false' ?_ | refine WG.nil ?_ | refine WG.run' (E := env) ?_)
  (refine W.ret ?_; (first | refine RetQ.i' ?_))
  rfl

theorem l6Same_14 : Fun env.P 33 [dI 14] (.d (dI 10)) [] := by
  refine Fun.intro Tryz.func33 rfl (by kernel_rfl) rfl ?_
  repeat' (first | refine W.seq ?_ | refine W.rg ?_ | refine W.block ?_ | refine W.cond_true' ?_ | refine W.cond_false' ?_ | refine WG.nil ?_ | refine WG.run' (E := env) ?_)
  (refine W.ret ?_; (first | refine RetQ.i' ?_))
  rfl

theorem l6Same_17 : Fun env.P 33 [dI 17] (.d (dI 11)) [] := by
  refine Fun.intro Tryz.func33 rfl (by kernel_rfl) rfl ?_
  repeat' (first | refine W.seq ?_ | refine W.rg ?_ | refine W.block ?_ | refine W.cond_true' ?_ | refine W.cond_false' ?_ | refine WG.nil ?_ | refine WG.run' (E := env) ?_)
  (refine W.ret ?_; (first | refine RetQ.i' ?_))
  rfl

theorem l6Same_18 : Fun env.P 33 [dI 18] (.d (dI 12)) [] := by
  refine Fun.intro Tryz.func33 rfl (by kernel_rfl) rfl ?_
  repeat' (first | refine W.seq ?_ | refine W.rg ?_ | refine W.block ?_ | refine W.cond_true' ?_ | refine W.cond_false' ?_ | refine WG.nil ?_ | refine WG.run' (E := env) ?_)
  (refine W.ret ?_; (first | refine RetQ.i' ?_))
  rfl

theorem l6Same_19 : Fun env.P 33 [dI 19] (.d (dI 13)) [] := by
  refine Fun.intro Tryz.func33 rfl (by kernel_rfl) rfl ?_
  repeat' (first | refine W.seq ?_ | refine W.rg ?_ | refine W.block ?_ | refine W.cond_true' ?_ | refine W.cond_false' ?_ | refine WG.nil ?_ | refine WG.run' (E := env) ?_)
  (refine W.ret ?_; (first | refine RetQ.i' ?_))
  rfl

theorem l6Same_20 : Fun env.P 33 [dI 20] (.d (dI 14)) [] := by
  refine Fun.intro Tryz.func33 rfl (by kernel_rfl) rfl ?_
  repeat' (first | refine W.seq ?_ | refine W.rg ?_ | refine W.block ?_ | refine W.cond_true' ?_ | refine W.cond_false' ?_ | refine WG.nil ?_ | refine WG.run' (E := env) ?_)
  (refine W.ret ?_; (first | refine RetQ.i' ?_))
  rfl

set_option maxHeartbeats 8000000 in
theorem l6One_8 (hk : k < ns.length) (hat : ns.getD k default = n) (hop : n.op = 8) (hA : GoL ns n.a A ca) (hB : GoL ns n.b B cb) (hn : names.length + (1 + ca + cb) ≤ 10000) (hl : L.length + 5 * (1 + ca + cb) ≤ 5000) : FunQ env.P 15 [.lp 0 0, .d (dI k), .d (namesD names)] (loS ns L 0) (just (.d (dI (plc ((Pt.n3 12 0 (A names) (truP true) (.n3 12 0 (B names) (truP true) (truP false))).on L)))) (loS ns ((Pt.n3 12 0 (A names) (truP true) (.n3 12 0 (B names) (truP true) (truP false))).on L) (Pt.n3 12 0 (A names) (truP true) (.n3 12 0 (B names) (truP true) (truP false))).count)) := by
  obtain ⟨op, a, b, c, num, text⟩ := n
  obtain rfl : op = 8 := hop
  have hat' : ns.getD (Int.toNat (k : Int)) default = ⟨8, a, b, c, num, text⟩ := by simpa using hat
  have hks : Fun env.P 27 [dI 8] (.d (dI 2)) [] := l5Kids_fn 8
  have cA := hA.1 names
  have cB := hB.1 names
  refine FunQ.intro Tryz.func15 rfl (by kernel_rfl) rfl ?_
  unfold Go.Proofs.YtmmjbpgdkokjgaaGreat.loS
  repeat (first | refine W.seq ?_ | refine W.rg ?_ | refine W.skip ?_ | refine W.cond_true' ?_ | refine W.cond_false' ?_ | refine WG.nil ?_ | refine WG.run' (E := env) ?_ | refine WG.ixm' (E := env) ?_)
  rw [hat']
  repeat' (first | refine W.seq ?_ | refine W.rg ?_ | refine W.cond_true' ?_ | refine W.cond_false' ?_ | refine WG.nil ?_ | refine WG.run' (E := env) ?_ | refine W.skip ?_ | refine WG.loS rfl rfl (hA.2 names _ (by omega) (by (try simp only [Pt.on_length, tru_count, cv_count, lf_count, n1_count, n2_count, n3_count] at *); omega)) rfl rfl ?_ | refine WG.loS rfl rfl (hB.2 names _ (by omega) (by (try simp only [Pt.on_length, tru_count, cv_count, lf_count, n1_count, n2_count, n3_count] at *); omega)) rfl rfl ?_ | refine WG.loS rfl rfl (l6Bool_fn ns _ _ (by (try simp only [Pt.on_length, tru_count, cv_count, lf_count, n1_count, n2_count, n3_count] at *); omega)) rfl rfl ?_ | refine WG.loS rfl rfl (l6Truth_fn ns _ _ (by (try simp only [Pt.on_length, tru_count, cv_count, lf_count, n1_count, n2_count, n3_count] at *); omega)) rfl rfl ?_ | refine WG.loS rfl rfl (put3S ns _ _ _ _ _ _ (by (try simp only [Pt.on_length, tru_count, cv_count, lf_count, n1_count, n2_count, n3_count] at *); omega)) rfl rfl ?_ | refine WG.c (E := env) rfl rfl (hks) rfl rfl ?_)
  refine W.ret ?_
  exact RetR.loS (.inl rfl) rfl (by first | trivial | exact resOK_of (E := env) rfl) rfl rfl rfl (by simp only [n3_count, tru_count]; omega) rfl

set_option maxHeartbeats 8000000 in
theorem l6One_9 (hk : k < ns.length) (hat : ns.getD k default = n) (hop : n.op = 9) (hA : GoL ns n.a A ca) (hB : GoL ns n.b B cb) (hn : names.length + (1 + ca + cb) ≤ 10000) (hl : L.length + 5 * (1 + ca + cb) ≤ 5000) : FunQ env.P 15 [.lp 0 0, .d (dI k), .d (namesD names)] (loS ns L 0) (just (.d (dI (plc ((Pt.n3 12 0 (A names) (.n3 12 0 (B names) (truP true) (truP false)) (truP false)).on L)))) (loS ns ((Pt.n3 12 0 (A names) (.n3 12 0 (B names) (truP true) (truP false)) (truP false)).on L) (Pt.n3 12 0 (A names) (.n3 12 0 (B names) (truP true) (truP false)) (truP false)).count)) := by
  obtain ⟨op, a, b, c, num, text⟩ := n
  obtain rfl : op = 9 := hop
  have hat' : ns.getD (Int.toNat (k : Int)) default = ⟨9, a, b, c, num, text⟩ := by simpa using hat
  have hks : Fun env.P 27 [dI 9] (.d (dI 2)) [] := l5Kids_fn 9
  have cA := hA.1 names
  have cB := hB.1 names
  refine FunQ.intro Tryz.func15 rfl (by kernel_rfl) rfl ?_
  unfold Go.Proofs.YtmmjbpgdkokjgaaGreat.loS
  repeat (first | refine W.seq ?_ | refine W.rg ?_ | refine W.skip ?_ | refine W.cond_true' ?_ | refine W.cond_false' ?_ | refine WG.nil ?_ | refine WG.run' (E := env) ?_ | refine WG.ixm' (E := env) ?_)
  rw [hat']
  repeat' (first | refine W.seq ?_ | refine W.rg ?_ | refine W.cond_true' ?_ | refine W.cond_false' ?_ | refine WG.nil ?_ | refine WG.run' (E := env) ?_ | refine W.skip ?_ | refine WG.loS rfl rfl (hA.2 names _ (by omega) (by (try simp only [Pt.on_length, tru_count, cv_count, lf_count, n1_count, n2_count, n3_count] at *); omega)) rfl rfl ?_ | refine WG.loS rfl rfl (hB.2 names _ (by omega) (by (try simp only [Pt.on_length, tru_count, cv_count, lf_count, n1_count, n2_count, n3_count] at *); omega)) rfl rfl ?_ | refine WG.loS rfl rfl (l6Bool_fn ns _ _ (by (try simp only [Pt.on_length, tru_count, cv_count, lf_count, n1_count, n2_count, n3_count] at *); omega)) rfl rfl ?_ | refine WG.loS rfl rfl (l6Truth_fn ns _ _ (by (try simp only [Pt.on_length, tru_count, cv_count, lf_count, n1_count, n2_count, n3_count] at *); omega)) rfl rfl ?_ | refine WG.loS rfl rfl (put3S ns _ _ _ _ _ _ (by (try simp only [Pt.on_length, tru_count, cv_count, lf_count, n1_count, n2_count, n3_count] at *); omega)) rfl rfl ?_ | refine WG.c (E := env) rfl rfl (hks) rfl rfl ?_)
  refine W.ret ?_
  exact RetR.loS (.inl rfl) rfl (by first | trivial | exact resOK_of (E := env) rfl) rfl rfl rfl (by simp only [n3_count, tru_count]; omega) rfl

theorem l6CallOne_fn (hop : n.op = 23) (hA : GoL ns n.a A ca) (hn : names.length + (1 + ca) ≤ 10000) (hl : L.length + 5 * (1 + ca) ≤ 5000) : FunQ env.P 29 [.lp 0 0, .d (.agg n.row), .d (namesD names)] (loS ns L 0) (just (.d (dI (plc ((oneP n.text (A names)).on L)))) (loS ns ((oneP n.text (A names)).on L) (oneP n.text (A names)).count)) := by
  obtain ⟨op, a, b, c, num, text⟩ := n
  obtain rfl : op = 23 := hop
  have cA := hA.1 names
  refine FunQ.intro Tryz.func29 rfl (by kernel_rfl) rfl ?_
  unfold Go.Proofs.YtmmjbpgdkokjgaaGreat.loS
  repeat' (first | refine W.seq ?_ | refine W.rg ?_ | refine W.block ?_ | refine W.skip ?_ | refine WG.nil ?_ | refine WG.run' (E := env) ?_ | refine WG.loS rfl rfl (hA.2 names _ (by omega) (by (try simp only [Pt.on_length, tru_count, cv_count, lf_count, n1_count, n2_count, n3_count] at *); omega)) rfl rfl ?_ | refine WG.loS rfl rfl (putLeafS ns _ _ _ (by (try simp only [Pt.on_length, tru_count, cv_count, lf_count, n1_count, n2_count, n3_count] at *); omega)) rfl rfl ?_ | refine WG.loS rfl rfl (put1S ns _ _ _ (by (try simp only [Pt.on_length, tru_count, cv_count, lf_count, n1_count, n2_count, n3_count] at *); omega)) rfl rfl ?_ | refine WG.loS rfl rfl (put2S ns _ _ _ [] _ _ (by (try simp only [Pt.on_length, tru_count, cv_count, lf_count, n1_count, n2_count, n3_count] at *); omega)) rfl rfl ?_ | refine WG.loS rfl rfl (put3S ns _ _ _ _ _ _ (by (try simp only [Pt.on_length, tru_count, cv_count, lf_count, n1_count, n2_count, n3_count] at *); omega)) rfl rfl ?_ | fail | ((refine W.cond' (fun h => ?_) fun h => ?_) <;> (try simp only [atS, List.length_map, beq_self_eq_true] at h) <;> (try (exfalso; first | contradiction | omega))))
  all_goals refine W.ret ?_
  all_goals refine RetR.loS (.inl rfl) rfl (by first | trivial | exact resOK_of (E := env) rfl) rfl rfl ?_ ?_ ?_
  all_goals (unfold oneP)
  all_goals simp [*, n3_count, n2_count, n1_count, lf_count]
  all_goals omega

set_option maxHeartbeats 8000000 in
theorem l6One_23 (hk : k < ns.length) (hat : ns.getD k default = n) (hop : n.op = 23) (hA : GoL ns n.a A ca) (hn : names.length + (1 + ca) ≤ 10000) (hl : L.length + 5 * (1 + ca) ≤ 5000) : FunQ env.P 15 [.lp 0 0, .d (dI k), .d (namesD names)] (loS ns L 0) (just (.d (dI (plc ((oneP n.text (A names)).on L)))) (loS ns ((oneP n.text (A names)).on L) (oneP n.text (A names)).count)) := by
  obtain ⟨op, a, b, c, num, text⟩ := n
  obtain rfl : op = 23 := hop
  have hat' : ns.getD (Int.toNat (k : Int)) default = ⟨23, a, b, c, num, text⟩ := by simpa using hat
  have hks : Fun env.P 27 [dI 23] (.d (dI 1)) [] := l5Kids_fn 23
  have hone := l6CallOne_fn (L := L) (n := ⟨23, a, b, c, num, text⟩) rfl hA hn hl
  refine FunQ.intro Tryz.func15 rfl (by kernel_rfl) rfl ?_
  unfold Go.Proofs.YtmmjbpgdkokjgaaGreat.loS
  repeat (first | refine W.seq ?_ | refine W.rg ?_ | refine W.skip ?_ | refine W.cond_true' ?_ | refine W.cond_false' ?_ | refine WG.nil ?_ | refine WG.run' (E := env) ?_ | refine WG.ixm' (E := env) ?_)
  rw [hat']
  repeat' (first | refine W.seq ?_ | refine W.rg ?_ | refine W.cond_true' ?_ | refine W.cond_false' ?_ | refine WG.nil ?_ | refine WG.run' (E := env) ?_ | refine W.skip ?_ | refine WG.loS rfl rfl (hone) rfl rfl ?_ | refine WG.c (E := env) rfl rfl (hks) rfl rfl ?_)
  refine W.ret ?_
  exact RetR.loS (.inl rfl) rfl (by first | trivial | exact resOK_of (E := env) rfl) rfl rfl rfl (Nat.zero_add _) rfl

set_option maxHeartbeats 8000000 in
theorem l6One_12 (hk : k < ns.length) (hat : ns.getD k default = n) (hop : n.op = 12) (hA : GoL ns n.a A ca) (hn : names.length + (1 + ca) ≤ 10000) (hl : L.length + 5 * (1 + ca) ≤ 5000) : FunQ env.P 15 [.lp 0 0, .d (dI k), .d (namesD names)] (loS ns L 0) (just (.d (dI (plc ((Pt.mk (plainN n names) [A names]).on L)))) (loS ns ((Pt.mk (plainN n names) [A names]).on L) (Pt.mk (plainN n names) [A names]).count)) := by
  obtain ⟨op, a, b, c, num, text⟩ := n
  obtain rfl : op = 12 := hop
  have hat' : ns.getD (Int.toNat (k : Int)) default = ⟨12, a, b, c, num, text⟩ := by simpa using hat
  have hks : Fun env.P 27 [dI 12] (.d (dI 1)) [] := l5Kids_fn 12
  have cA := hA.1 names
  have hsm := l6Same_12
  refine FunQ.intro Tryz.func15 rfl (by kernel_rfl) rfl ?_
  unfold Go.Proofs.YtmmjbpgdkokjgaaGreat.loS
  repeat (first | refine W.seq ?_ | refine W.rg ?_ | refine W.block ?_ | refine W.skip ?_ | refine W.cond_false' ?_ | refine WG.nil ?_ | refine WG.run' (E := env) ?_ | refine WG.ixm' (E := env) ?_)
  rw [hat']
  repeat' (first | (refine W.dre' (id := 16) [0, 2, 6] (fun f => bif bt f 4 then [.pv [.d (nodesD ns), .og 1 (0 + (A names).count)], .gr 6 66 (((A names).on L).map Co.row) (0 + (A names).count) false, .pv ((⟨12, a, b, c, num, text⟩ : Nd).row.map .d), .pv [.d (dI 8), .d (dI (plc ((A names).on L))), .d (dI 0), .d (dI 0), .d (dI 0), .d (.nl 5)], .gr 1 9 (([] ++ (names.map txtRow)) ++ [[dS text]]) 2 false] else bif bt f 2 then [.pv [.d (nodesD ns), .og 1 (0 + (A names).count)], .gr 6 66 (((A names).on L).map Co.row) (0 + (A names).count) false, .pv ((⟨12, a, b, c, num, text⟩ : Nd).row.map .d), .pv [.d (dI 8), .d (dI (plc ((A names).on L))), .d (dI 0), .d (dI 0), .d (dI 0), .d (.nl 5)], .gr 1 9 ([] ++ (names.map txtRow)) 1 false] else bif bt f 1 then [.pv [.d (nodesD ns), .og 1 (0 + (A names).count)], .gr 6 66 (((A names).on L).map Co.row) (0 + (A names).count) false, .pv ((⟨12, a, b, c, num, text⟩ : Nd).row.map .d), .pv [.d (dI 8), .d (dI (plc ((A names).on L))), .d (dI 0), .d (dI 0), .d (dI 0), .d (.nl 5)], .gr 1 9 [] 0 false] else [.pv [.d (nodesD ns), .og 1 (0 + (A names).count)], .gr 6 66 (((A names).on L).map Co.row) (0 + (A names).count) false, .pv ((⟨12, a, b, c, num, text⟩ : Nd).row.map .d), .pv [.d (dI 8), .d (dI (plc ((A names).on L))), .d (dI 0), .d (dI 0), .d (dI 0), .d (.nl 5)]]) [(1, [0]), (0, [0, 1]), (2, [1]), (0, [0, 1, 3]), (0, [0, 1, 3]), (0, [0, 1, 3]), (4, [3]), (0, [7])] [.pv [.d (nodesD ns), .og 1 (0 + (A names).count)], .gr 6 66 (((A names).on L).map Co.row) (0 + (A names).count) false, .pv ((⟨12, a, b, c, num, text⟩ : Nd).row.map .d), .pv [.d (dI 8), .d (dI (plc ((A names).on L))), .d (dI 0), .d (dI 0), .d (dI 0), .d (.nl 5)], .gr 1 9 (([] ++ (names.map txtRow)) ++ [[dS text]]) 2 false] ?_) | refine W.pubD 4 rfl ?_ | refine WE.mkd (.og 4 0) ?_ (.c (OpS1.bsO rfl rfl rfl rfl rfl rfl rfl rfl rfl rfl rfl rfl) .n) | refine WE.nil ?_ | refine WE.s' (E := env) (t := .d _) ?_ | refine WE.s' (E := env) (t := .lp _ _) ?_ | refine WE.s' (E := env) (t := .og _ _) ?_ | refine WE.s' (E := env) (t := .ea _ _) ?_ | refine WE.s' (E := env) (t := .agg _) ?_ | refine WE.s' (E := env) (t := .tup _) ?_ | refine WE.ap' (E := env) ?_ | refine WE.bs' (E := env) ?_ | refine W.seq ?_ | refine W.rg ?_ | refine W.block ?_ | refine W.skip ?_ | refine W.cond_false' ?_ | refine WG.nil ?_ | refine WG.run' (E := env) ?_ | refine WG.ixm' (E := env) ?_ | refine WG.loS rfl rfl (hA.2 names _ (by omega) (by (try simp only [Pt.on_length, tru_count, cv_count, lf_count, n1_count, n2_count, n3_count] at *); omega)) rfl rfl ?_ | refine WG.loS rfl rfl (putM1S (ns := ns) (L := L) (plainN ⟨12, a, b, c, num, text⟩ names) (A names) (by (try simp only [Pt.on_length, tru_count, cv_count, lf_count, n1_count, n2_count, n3_count] at *); omega)) rfl rfl ?_ | refine WG.c (E := env) rfl rfl (hks) rfl rfl ?_ | refine WG.c (E := env) rfl rfl (hsm) rfl rfl ?_)
  refine W.ret ?_
  exact RetR.loS (.inl rfl) rfl (by first | trivial | exact resOK_of (E := env) rfl) rfl rfl rfl (by simp only [Pt.count, Pt.counts]; omega) rfl

end

end Go.Proofs.YtmmjbpgdkokjgaaGreat
