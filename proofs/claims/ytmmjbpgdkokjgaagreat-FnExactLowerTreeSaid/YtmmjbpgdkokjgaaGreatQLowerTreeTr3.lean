/-
  One node of a tree: its fault by the reference. Conditions: trees of at most 2^20 nodes, texts of at most 2^20 bytes.
-/
import Derived.Test.YtmmjbpgdkokjgaaGreatQLowerTreeTr2
set_option linter.unusedVariables false
set_option linter.unusedSimpArgs false
set_option maxRecDepth 100000
namespace Go.Proofs.YtmmjbpgdkokjgaaGreat
open Go.RowKit

set_option maxHeartbeats 4000000 in
theorem l5Node_fn (ns : List Nd) (k : Nat) (hk : k < ns.length) (hl : ns.length ≤ 1048576) (ht : ∀ n ∈ ns, n.text.size ≤ 1048576) : Fun env.P 57 [nodesD ns, dI k] (.d (dI (nodeCode ns k))) [] := by
  have htk := ht _ (getD_mem' hk)
  unfold nodeCode
  refine Fun.intro Tryz.func57 rfl (by kernel_rfl) rfl ?_
  repeat (first | refine W.seq ?_ | refine W.rg ?_ | refine W.block ?_ | refine W.skip ?_ | refine W.exit ?_ | refine W.cond_false' ?_ | refine WG.nil ?_ | refine WG.run' (E := env) ?_ | refine WG.gt' ?_ | refine WG.gf' ?_ | refine WG.ixm' (E := env) ?_)
  have hat : ns.getD (Int.toNat k) default = ns.getD k default := by simp
  rw [hat]
  generalize hn : ns.getD k default = n at htk
  have hin := l1In_fn n.op 1 24
  have hnm := l5Nums_fn n.op
  have htx := l5Texts_fn n.op
  have hks := l5Kids_fn n.op
  have hfit := l5TextFits_fn n htk
  have hle := arN_le n.op
  have ha : formB3 n k = true → n.op = 17 → 0 ≤ n.a ∧ n.a < ns.length := fun hf h17 => by
    have := formB3_named hf n.a (by simp [Nd.named, arN, h17])
    omega
  clear hn hat
  rw [← nodeS_eq]
  repeat (first | refine W.seq ?_ | refine W.rg ?_ | refine W.block ?_ | refine W.skip ?_ | refine W.exit ?_ | refine W.cond_false' ?_ | refine WG.nil ?_ | refine WG.run' (E := env) ?_ | refine WG.gt' ?_ | refine WG.gf' ?_ | refine WG.ixm' (E := env) ?_ | refine WG.c (E := env) rfl rfl (hin) rfl rfl ?_)
  refine W.cond rfl (fun e1 => ?_) (fun e1 => ?_)
  · repeat' (first | refine W.seq ?_ | refine W.rg ?_ | refine W.block ?_ | refine W.skip ?_ | refine W.exit ?_ | refine W.cond_false' ?_ | refine WG.nil ?_ | refine WG.run' (E := env) ?_ | refine WG.gt' ?_ | refine WG.gf' ?_ | refine WG.ixm' (E := env) ?_ | ((first | refine WG.sp' (fun h => ?_) fun h => ?_ | refine W.cond' (fun h => ?_) fun h => ?_) <;> (try simp only [atS, List.length_map, beq_self_eq_true] at h) <;> (try (exfalso; first | contradiction | omega))))
    (refine W.ret ?_; (first | refine RetQ.i' ?_))
    simp at e1
    unfold nodeS; rw [if_pos (by omega)]
  have h0 : ¬ ¬ (1 ≤ n.op ∧ n.op ≤ 24) := by simp at e1; omega
  refine W.skip ?_
  repeat refine W.seq ?_
  refine W.rg ?_
  repeat (first | refine WG.nil ?_ | refine WG.run' (E := env) ?_ | refine WG.gt' ?_ | refine WG.gf' ?_ | refine WG.ixm' (E := env) ?_ | refine WG.c (E := env) rfl rfl (hnm) rfl rfl ?_)
  repeat refine W.seq ?_
  refine W.jb 41 (decide ((numHi n.op = 0 ∧ n.num ≠ 0) ∨ (hasTx n.op = false ∧ n.text ≠ noS))) ?_ ?_
  · repeat' (first | refine WG.nil ?_ | refine WG.run' (E := env) ?_ | refine WG.gt' ?_ | refine WG.gf' ?_ | refine WG.ixm' (E := env) ?_ | refine WG.c (E := env) rfl rfl (htx) rfl rfl ?_ | (refine WG.sp' (fun h => ?_) fun h => ?_ <;> (try simp only [atS, List.length_map, beq_self_eq_true] at h) <;> (try (exfalso; first | contradiction | omega))))
    all_goals refine ⟨rfl, rfl, _, rfl, ?_, by (repeat refine leU.step rfl ?_) <;> first | exact leU.forget (leU.refl _) | exact leU.refl _ | (repeat (first | exact leU.forget (leU.refl _) | exact leU.refl _ | refine leU.step rfl ?_))⟩
    all_goals simp_all
  refine W.cond rfl (fun e2 => ?_) (fun e2 => ?_)
  · repeat' (first | refine W.seq ?_ | refine W.rg ?_ | refine W.block ?_ | refine W.skip ?_ | refine W.exit ?_ | refine W.cond_false' ?_ | refine WG.nil ?_ | refine WG.run' (E := env) ?_ | refine WG.gt' ?_ | refine WG.gf' ?_ | refine WG.ixm' (E := env) ?_ | ((first | refine WG.sp' (fun h => ?_) fun h => ?_ | refine W.cond' (fun h => ?_) fun h => ?_) <;> (try simp only [atS, List.length_map, beq_self_eq_true] at h) <;> (try (exfalso; first | contradiction | omega))))
    (refine W.ret ?_; (first | refine RetQ.i' ?_))
    simp only [decide_eq_true_eq] at e2
    unfold nodeS; rw [if_neg h0, if_pos e2]
  rw [decide_eq_false_iff_not] at e2
  refine W.skip ?_
  repeat (first | refine W.seq ?_ | refine W.rg ?_ | refine W.block ?_ | refine W.skip ?_ | refine W.exit ?_ | refine W.cond_false' ?_ | refine WG.nil ?_ | refine WG.run' (E := env) ?_ | refine WG.gt' ?_ | refine WG.gf' ?_ | refine WG.ixm' (E := env) ?_)
  refine W.loop (fun m S => ∃ i : Nat, m = 3 - i ∧ (i ≤ 3 ∧ ∀ j, j < i → kidB n k j = true) ∧ S = ⟨ofL [(0, .d (nodesD ns)), (1, vI .i64 k), (5, .lp 0 0), (6, vI .i64 (numLo n.op)), (7, vI .i64 (numHi n.op)), (8, vI .i64 i)], [.pv (n.row.map .d)]⟩) _ _ ⟨0, rfl, ⟨by omega, fun j hj => by omega⟩, rfl⟩ (by (refine le_ofL rfl ?_ ?_ <;> (repeat (first | exact trivial | refine ⟨⟨rfl, rfl⟩, ?_⟩ | refine ⟨rfl, .inl rfl, ?_⟩ | refine ⟨rfl, .inr rfl, ?_⟩)))) ?_
  rintro m S ⟨i, rfl, ⟨hi, hb⟩, rfl⟩
  by_cases hi3 : i < 3
  · have hkd := l5Kid_fn n i hi3
    repeat (first | refine W.seq ?_ | refine W.rg ?_ | refine W.block ?_ | refine W.skip ?_ | refine W.exit ?_ | refine W.cond_false' ?_ | refine WG.nil ?_ | refine WG.run' (E := env) ?_ | refine WG.gt' ?_ | refine WG.gf' ?_ | refine WG.ixm' (E := env) ?_)
    refine W.cond rfl (fun e3 => ?_) (fun e3 => ?_)
    rotate_left
    · exfalso; simp at e3; omega
    refine W.skip ?_
    repeat refine W.seq ?_
    refine W.block ?_
    repeat refine W.seq ?_
    refine W.rg ?_
    repeat (first | refine WG.nil ?_ | refine WG.run' (E := env) ?_ | refine WG.gt' ?_ | refine WG.gf' ?_ | refine WG.ixm' (E := env) ?_ | refine WG.c (E := env) rfl rfl (hkd) rfl rfl ?_)
    repeat refine W.seq ?_
    refine W.jb 71 (!kidB n k i) ?_ ?_
    · repeat' (first | refine WG.nil ?_ | refine WG.run' (E := env) ?_ | refine WG.gt' ?_ | refine WG.gf' ?_ | refine WG.ixm' (E := env) ?_ | refine WG.c (E := env) rfl rfl (hks) rfl rfl ?_ | refine WG.c (E := env) rfl rfl (l1In_fn _ _ _) rfl rfl ?_ | (refine WG.sp' (fun h => ?_) fun h => ?_ <;> (try simp only [atS, List.length_map, beq_self_eq_true] at h) <;> (try (exfalso; first | contradiction | omega))))
      all_goals refine ⟨rfl, rfl, _, rfl, ?_, by (repeat refine leU.step rfl ?_) <;> first | exact leU.forget (leU.refl _) | exact leU.refl _ | (repeat (first | exact leU.forget (leU.refl _) | exact leU.refl _ | refine leU.step rfl ?_))⟩
      all_goals first | (rw [kidB, if_pos (by omega)]; done) | (rw [kidB, if_pos (by omega)]; simp; done) | (rw [kidB, if_pos (by omega)]; simp; omega) | (rw [kidB, if_neg (by omega)]; simp; done) | (rw [kidB, if_neg (by omega)]; simp; omega)
    refine W.cond rfl (fun e4 => ?_) (fun e4 => ?_)
    · repeat' (first | refine W.seq ?_ | refine W.rg ?_ | refine W.block ?_ | refine W.skip ?_ | refine W.exit ?_ | refine W.cond_false' ?_ | refine WG.nil ?_ | refine WG.run' (E := env) ?_ | refine WG.gt' ?_ | refine WG.gf' ?_ | refine WG.ixm' (E := env) ?_ | ((first | refine WG.sp' (fun h => ?_) fun h => ?_ | refine W.cond' (fun h => ?_) fun h => ?_) <;> (try simp only [atS, List.length_map, beq_self_eq_true] at h) <;> (try (exfalso; first | contradiction | omega))))
      (refine W.ret ?_; (first | refine RetQ.i' ?_))
      unfold nodeS
      rw [if_neg h0, if_neg e2, if_pos (by
        have : i = 0 ∨ i = 1 ∨ i = 2 := by omega
        rcases this with rfl | rfl | rfl <;> simp_all)]
    · repeat' (first | refine W.seq ?_ | refine W.rg ?_ | refine W.block ?_ | refine W.skip ?_ | refine W.exit ?_ | refine W.cond_false' ?_ | refine WG.nil ?_ | refine WG.run' (E := env) ?_ | refine WG.gt' ?_ | refine WG.gf' ?_ | refine WG.ixm' (E := env) ?_ | ((first | refine WG.sp' (fun h => ?_) fun h => ?_ | refine W.cond' (fun h => ?_) fun h => ?_) <;> (try simp only [atS, List.length_map, beq_self_eq_true] at h) <;> (try (exfalso; first | contradiction | omega))))
      exact ⟨_, _, by omega, ⟨i + 1, rfl, ⟨by omega, fun j hj => by
        by_cases e : j = i
        · rw [e]; simpa using e4
        · exact hb j (by omega)⟩, rfl⟩, (by (refine le_ofL rfl ?_ ?_ <;> (repeat (first | exact trivial | refine ⟨⟨rfl, rfl⟩, ?_⟩ | refine ⟨rfl, .inl rfl, ?_⟩ | refine ⟨rfl, .inr rfl, ?_⟩))))⟩
  · have hb0 := hb 0 (by omega)
    have hb1 := hb 1 (by omega)
    have hb2 := hb 2 (by omega)
    have g2 : ¬ (kidB n k 0 = false ∨ kidB n k 1 = false ∨ kidB n k 2 = false) := by simp [hb0, hb1, hb2]
    have e : nodeS ns n k = if txFit n = false then 5 else if ¬ (numLo n.op ≤ n.num ∧ n.num ≤ numHi n.op) then 3 else if n.op = 17 ∧ (ns.getD n.a.toNat default).op ≠ 16 ∧ (ns.getD n.a.toNat default).op ≠ 17 then 1 else 0 := by
      unfold nodeS
      rw [if_neg h0, if_neg e2, if_neg g2]
    have ha' : n.op = 17 → 0 ≤ n.a ∧ n.a < ns.length := fun h17 => by
      have : 0 < arN n.op := by rw [h17]; decide
      rw [kidB, if_pos this] at hb0
      simp [kidI] at hb0
      omega
    rw [e]
    clear e
    have hi2 := l1In_fn n.num (numLo n.op) (numHi n.op)
    by_cases h17 : n.op = 17
    · obtain ⟨ha1, ha2⟩ := ha' h17
      repeat' (first | refine W.seq ?_ | refine W.rg ?_ | refine W.block ?_ | refine W.skip ?_ | refine W.exit ?_ | refine W.cond_false' ?_ | refine WG.nil ?_ | refine WG.run' (E := env) ?_ | refine WG.gt' ?_ | refine WG.gf' ?_ | refine WG.ixm' (E := env) ?_ | refine WG.c (E := env) rfl rfl (hfit) rfl rfl ?_ | refine WG.c (E := env) rfl rfl (hi2) rfl rfl ?_ | ((first | refine WG.sp' (fun h => ?_) fun h => ?_ | refine W.cond' (fun h => ?_) fun h => ?_) <;> (try simp only [atS, List.length_map, beq_self_eq_true] at h) <;> (try (exfalso; first | contradiction | omega))))
      all_goals first | (exfalso; omega) | skip
      all_goals (refine W.ret ?_; (first | refine RetQ.i' ?_))
      all_goals (clear hfit hi2 hks htx hnm hin ht ha ha' hb; simp_all; try (intros; first | omega | (exfalso; omega)))
    · repeat' (first | refine W.seq ?_ | refine W.rg ?_ | refine W.block ?_ | refine W.skip ?_ | refine W.exit ?_ | refine W.cond_false' ?_ | refine WG.nil ?_ | refine WG.run' (E := env) ?_ | refine WG.gt' ?_ | refine WG.gf' ?_ | refine WG.ixm' (E := env) ?_ | refine WG.c (E := env) rfl rfl (hfit) rfl rfl ?_ | refine WG.c (E := env) rfl rfl (hi2) rfl rfl ?_ | ((first | refine WG.sp' (fun h => ?_) fun h => ?_ | refine W.cond' (fun h => ?_) fun h => ?_) <;> (try simp only [atS, List.length_map, beq_self_eq_true] at h) <;> (try (exfalso; first | contradiction | omega))))
      all_goals first | (exfalso; omega) | skip
      all_goals (refine W.ret ?_; (first | refine RetQ.i' ?_))
      all_goals (clear hfit hi2 hks htx hnm hin ht ha ha' hb; simp_all; try (intros; first | omega | (exfalso; omega)))

end Go.Proofs.YtmmjbpgdkokjgaaGreat
