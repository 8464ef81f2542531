/-
  The fault of a tree, by the program and by the reference. Conditions: texts of at most 2^20 bytes.
-/
import Derived.Test.YtmmjbpgdkokjgaaGreatQLowerTreeTr3
import Derived.Test.YtmmjbpgdkokjgaaGreatQLowerTreeTr6
set_option linter.unusedVariables false
set_option linter.unusedSimpArgs false
set_option maxRecDepth 100000
namespace Go.Proofs.YtmmjbpgdkokjgaaGreat
open Go.RowKit

def codeFrom (f : Nat → Int) : Nat → Nat → Int
  | 0, _ => 0
  | m + 1, k => if f k ≠ 0 then f k else codeFrom f m (k + 1)

theorem codeFrom_zero {f : Nat → Int} : ∀ {m k : Nat}, codeFrom f m k = 0 → ∀ j, k ≤ j → j < k + m → f j = 0
  | 0, k, _, j, h1, h2 => by omega
  | m + 1, k, h, j, h1, h2 => by
    unfold codeFrom at h
    split at h
    · contradiction
    · rename_i hk
      by_cases e : j = k
      · rw [e]; simpa using hk
      · exact codeFrom_zero h j (by omega) (by omega)

noncomputable def treeM (ns : List Nd) : Int :=
  if ¬ (1 ≤ ns.length ∧ ns.length ≤ 200) then 2
  else if codeFrom (nodeCode ns) ns.length 0 ≠ 0 then codeFrom (nodeCode ns) ns.length 0
  else if begM (nmT ns) (ns.length - 1) ≠ 0 then 1
  else if 30 < nestM (nmT ns) (ns.length - 1) then 7 else 0

theorem nmOK_of {ns : List Nd} (h : codeFrom (nodeCode ns) ns.length 0 = 0) : NmOK ns := fun k hk => nodeCode_named (codeFrom_zero h k (by omega) (by omega))

theorem sizeN_fn (ns : List Nd) : Fun env.P 19 [nodesD ns] (.d (dI (ns.map Nd.row).length)) [] := by
  refine Fun.intro Tryz.func19 rfl (by kernel_rfl) rfl ?_
  repeat' (first | refine W.seq ?_ | refine W.rg ?_ | refine WG.nil ?_ | refine WG.run' (E := env) ?_)
  (refine W.ret ?_; (first | refine RetQ.i' ?_))
  rfl

set_option maxHeartbeats 4000000 in
theorem TreeFault_fn (ns : List Nd) (hl : ns.length ≤ 1048576) (ht : ∀ n ∈ ns, n.text.size ≤ 1048576) : Fun env.P 35 [nodesD ns] (.d (dI (treeM ns))) [] := by
  have hsz := sizeN_fn ns
  have hin := within_fn ((ns.map Nd.row).length : Int) 1 200
  by_cases hlen : 1 ≤ ns.length ∧ ns.length ≤ 200
  · have e0 : treeM ns = if codeFrom (nodeCode ns) ns.length 0 ≠ 0 then codeFrom (nodeCode ns) ns.length 0 else if begM (nmT ns) (ns.length - 1) ≠ 0 then 1 else if 30 < nestM (nmT ns) (ns.length - 1) then 7 else 0 := by
      unfold treeM; rw [if_neg (fun h => h hlen)]
    refine Fun.intro Tryz.func35 rfl (by kernel_rfl) rfl ?_
    repeat' (first | refine W.seq ?_ | refine W.rg ?_ | refine W.block ?_ | refine W.skip ?_ | refine W.exit ?_ | refine WG.nil ?_ | refine WG.run' (E := env) ?_ | refine WG.c (E := env) rfl rfl (hsz) rfl rfl ?_ | refine WG.c (E := env) rfl rfl (hin) rfl rfl ?_ | ((refine W.cond' (fun h => ?_) fun h => ?_) <;> (try simp only [atS, List.length_map, beq_self_eq_true] at h) <;> (try (exfalso; first | contradiction | omega))))
    all_goals first | (exfalso; omega) | skip
    refine W.loop (fun m S => ∃ i : Nat, m = ns.length - i ∧ (i ≤ ns.length ∧ codeFrom (nodeCode ns) ns.length 0 = codeFrom (nodeCode ns) (ns.length - i) i) ∧ S = ⟨ofL [(0, .d (nodesD ns)), (11, vI .i64 (ns.map Nd.row).length), (12, vI .i64 i)], []⟩) _ _ ⟨0, rfl, ⟨by omega, rfl⟩, rfl⟩ (by (refine le_ofL rfl ?_ ?_ <;> (repeat (first | exact trivial | refine ⟨⟨rfl, rfl⟩, ?_⟩ | refine ⟨rfl, .inl rfl, ?_⟩ | refine ⟨rfl, .inr rfl, ?_⟩)))) ?_
    rintro m S ⟨i, rfl, ⟨hi, he⟩, rfl⟩
    by_cases hin' : i < ns.length
    · have hnf := nodeFault_fn ns i hin' hl ht
      rw [show ns.length - i = (ns.length - (i + 1)) + 1 by omega, codeFrom] at he
      repeat' (first | refine W.seq ?_ | refine W.rg ?_ | refine W.block ?_ | refine W.skip ?_ | refine W.exit ?_ | refine WG.nil ?_ | refine WG.run' (E := env) ?_ | refine WG.c (E := env) rfl rfl (hnf) rfl rfl ?_ | ((refine W.cond' (fun h => ?_) fun h => ?_) <;> (try simp only [atS, List.length_map, beq_self_eq_true] at h) <;> (try (exfalso; first | contradiction | omega))))
      · (refine W.ret ?_; (first | refine RetQ.i' ?_))
        rw [if_pos (by assumption)] at he
        rw [e0, he, if_pos (by assumption)]
      · exact ⟨_, _, by omega, ⟨i + 1, rfl, ⟨by omega, by rw [he, if_neg (by simp only [*]; simp)]⟩, rfl⟩, (by (refine le_ofL rfl ?_ ?_ <;> (repeat (first | exact trivial | refine ⟨⟨rfl, rfl⟩, ?_⟩ | refine ⟨rfl, .inl rfl, ?_⟩ | refine ⟨rfl, .inr rfl, ?_⟩))))⟩
    · rw [show ns.length - i = 0 by omega, codeFrom] at he
      have hok := nmOK_of he
      have hb := beginOf_fn ns hl hok (ns.length - 1) (by omega)
      have hn := nest_fn ns hl hok (ns.length - 1) (by omega)
      rw [show ((ns.length - 1 : Nat) : Int) = ((ns.map Nd.row).length : Int) - 1 by simp; omega] at hb hn
      rw [e0, if_neg (fun h => h he)]
      repeat' (first | refine W.seq ?_ | refine W.rg ?_ | refine W.block ?_ | refine W.skip ?_ | refine W.exit ?_ | refine WG.nil ?_ | refine WG.run' (E := env) ?_ | refine WG.c (E := env) rfl rfl (hsz) rfl rfl ?_ | refine WG.c (E := env) rfl rfl (hb) rfl rfl ?_ | refine WG.c (E := env) rfl rfl (hn) rfl rfl ?_ | ((refine W.cond' (fun h => ?_) fun h => ?_) <;> (try simp only [atS, List.length_map, beq_self_eq_true] at h) <;> (try (exfalso; first | contradiction | omega))))
      all_goals first | (exfalso; simp at *; omega) | skip
      all_goals (refine W.ret ?_; (first | refine RetQ.i' ?_))
      · rw [if_pos (by assumption)]
      · rw [if_neg (fun h => h (by assumption)), if_pos (by omega)]
      · rw [if_neg (fun h => h (by assumption)), if_neg (by omega)]
  · have e0 : treeM ns = 2 := by unfold treeM; rw [if_pos hlen]
    rw [e0]
    refine Fun.intro Tryz.func35 rfl (by kernel_rfl) rfl ?_
    repeat' (first | refine W.seq ?_ | refine W.rg ?_ | refine W.block ?_ | refine W.skip ?_ | refine W.exit ?_ | refine WG.nil ?_ | refine WG.run' (E := env) ?_ | refine WG.c (E := env) rfl rfl (hsz) rfl rfl ?_ | refine WG.c (E := env) rfl rfl (hin) rfl rfl ?_ | ((refine W.cond' (fun h => ?_) fun h => ?_) <;> (try simp only [atS, List.length_map, beq_self_eq_true] at h) <;> (try (exfalso; first | contradiction | omega))))
    all_goals first | (exfalso; omega) | skip
    all_goals (refine W.ret ?_; (first | refine RetQ.i' ?_))
    all_goals rfl

theorem begM_ord {ns : List Nd} (h : 1 ≤ ns.length) : begM (nmT ns) (ns.length - 1) = 0 ↔ ordM (nmT ns) ns.length (ns.length - 1) [] = List.range ns.length := by
  rw [begM_zero]
  have := ordM_range (nm := nmT ns) (k := ns.length - 1)
  rw [show ns.length - 1 + 1 = ns.length by omega] at this ⊢
  exact this.symm

theorem range_of {l : List Nat} (h : ∀ j, j < l.length → l.getD j default = j) : l = List.range l.length := by
  apply List.ext_getElem
  · simp
  · intro j h1 h2
    have := h j h1
    simpa [h1] using this

set_option maxHeartbeats 4000000 in
theorem TreeFaultS_fn (ns : List Nd) (hl : ns.length ≤ 1048576) (ht : ∀ n ∈ ns, n.text.size ≤ 1048576) : Fun env.P 25 [nodesD ns] (.d (dI (treeM ns))) [] := by
  by_cases hlen : 1 ≤ ns.length ∧ ns.length ≤ 200
  · have e0 : treeM ns = if codeFrom (nodeCode ns) ns.length 0 ≠ 0 then codeFrom (nodeCode ns) ns.length 0 else if begM (nmT ns) (ns.length - 1) ≠ 0 then 1 else if 30 < nestM (nmT ns) (ns.length - 1) then 7 else 0 := by
      unfold treeM; rw [if_neg (fun h => h hlen)]
    refine Fun.intro Tryz.func25 rfl (by kernel_rfl) rfl ?_
    repeat' (first | refine W.seq ?_ | refine W.rg ?_ | refine W.block ?_ | refine W.skip ?_ | refine W.exit ?_ | refine W.cond_true' ?_ | refine WG.nil ?_ | refine WG.run' (E := env) ?_ | refine WG.ixo' (E := env) ?_ | refine WG.legm' (E := env) ?_ | ((first | refine WG.sp' (fun h => ?_) fun h => ?_ | refine W.cond' (fun h => ?_) fun h => ?_) <;> (try simp only [atS, List.length_map, beq_self_eq_true] at h) <;> (try (exfalso; first | contradiction | omega))))
    all_goals first | (exfalso; omega) | skip
    refine W.loop (fun m S => ∃ i : Nat, m = ns.length - i ∧ (i ≤ ns.length ∧ codeFrom (nodeCode ns) ns.length 0 = codeFrom (nodeCode ns) (ns.length - i) i) ∧ S = ⟨ofL [(0, .d (nodesD ns)), (3, vI .i64 i)], []⟩) _ _ ⟨0, rfl, ⟨by omega, rfl⟩, rfl⟩ (by (refine le_ofL rfl ?_ ?_ <;> (repeat (first | exact trivial | refine ⟨⟨rfl, rfl⟩, ?_⟩ | refine ⟨rfl, .inl rfl, ?_⟩ | refine ⟨rfl, .inr rfl, ?_⟩)))) ?_
    rintro m S ⟨i, rfl, ⟨hi, he⟩, rfl⟩
    by_cases hin' : i < ns.length
    · have hnf := l5Node_fn ns i hin' hl ht
      rw [show ns.length - i = (ns.length - (i + 1)) + 1 by omega, codeFrom] at he
      repeat' (first | refine W.seq ?_ | refine W.rg ?_ | refine W.block ?_ | refine W.skip ?_ | refine W.exit ?_ | refine W.cond_true' ?_ | refine WG.nil ?_ | refine WG.run' (E := env) ?_ | refine WG.ixo' (E := env) ?_ | refine WG.legm' (E := env) ?_ | refine WG.c (E := env) rfl rfl (hnf) rfl rfl ?_ | ((first | refine WG.sp' (fun h => ?_) fun h => ?_ | refine W.cond' (fun h => ?_) fun h => ?_) <;> (try simp only [atS, List.length_map, beq_self_eq_true] at h) <;> (try (exfalso; first | contradiction | omega))))
      · (refine W.ret ?_; (first | refine RetQ.i' ?_))
        rw [if_pos (by assumption)] at he
        rw [e0, he, if_pos (by assumption)]
      · exact ⟨_, _, by omega, ⟨i + 1, rfl, ⟨by omega, by rw [he, if_neg (by simp only [*]; simp)]⟩, rfl⟩, (by (refine le_ofL rfl ?_ ?_ <;> (repeat (first | exact trivial | refine ⟨⟨rfl, rfl⟩, ?_⟩ | refine ⟨rfl, .inl rfl, ?_⟩ | refine ⟨rfl, .inr rfl, ?_⟩))))⟩
    · rw [show ns.length - i = 0 by omega, codeFrom] at he
      have hok := nmOK_of he
      have ho := l5Order_fn ns (by omega) hok (ns.length - 1) (by omega) [] (by simp)
      have hd := l5Deep_fn ns (by omega) hok
      have hbo := begM_ord (ns := ns) hlen.1
      have hbz := begM_zero (nm := nmT ns) (k := ns.length - 1)
      have hol := (ordM_p (nmT ns) ns.length (ns.length - 1) []).2.2.2
      rw [show ((ns.length - 1 : Nat) : Int) = ((ns.map Nd.row).length : Int) - 1 by simp; omega] at ho
      rw [e0, if_neg (fun h => h he)]
      generalize ordM (nmT ns) ns.length (ns.length - 1) [] = o at ho hbo hol
      have hil := intsN_length o
      repeat' (first | refine WG.cqN (E := env) (t' := .og 1 0) (ob2 := [.dead, .gr 1 2 (natRows o) 0 false]) 2 2 1 [0] [0] rfl rfl ho rfl rfl rfl rfl rfl rfl rfl rfl ⟨rfl, trivial⟩ rfl rfl rfl ?_ | refine W.seq ?_ | refine W.rg ?_ | refine W.block ?_ | refine W.skip ?_ | refine W.exit ?_ | refine W.cond_true' ?_ | refine WG.nil ?_ | refine WG.run' (E := env) ?_ | refine WG.ixo' (E := env) ?_ | refine WG.legm' (E := env) ?_ | fail | ((first | refine WG.sp' (fun h => ?_) fun h => ?_ | refine W.cond' (fun h => ?_) fun h => ?_) <;> (try simp only [atS, List.length_map, beq_self_eq_true] at h) <;> (try (exfalso; first | contradiction | omega))))
      · (refine W.ret ?_; (first | refine RetQ.i' ?_))
        have hne : ¬ begM (nmT ns) (ns.length - 1) = 0 := fun hb => by
          have e2 : o.length = ns.length := by rw [hbo.1 hb]; simp
          omega
        rw [if_pos hne]
      have hll : o.length = ns.length := by omega
      refine W.loop (fun m S => ∃ j : Nat, m = ns.length - j ∧ (j ≤ ns.length ∧ ∀ p, p < j → o.getD p default = p) ∧ S = ⟨ofL [(0, .d (nodesD ns)), (5, .og 1 0), (6, vI .i64 j)], [.dead, .gr 1 2 (natRows o) 0 false]⟩) _ _ ⟨0, rfl, ⟨by omega, fun p hp => by omega⟩, rfl⟩ (by (refine le_ofL rfl ?_ ?_ <;> (repeat (first | exact trivial | refine ⟨⟨rfl, rfl⟩, ?_⟩ | refine ⟨rfl, .inl rfl, ?_⟩ | refine ⟨rfl, .inr rfl, ?_⟩)))) ?_
      rintro m S ⟨j, rfl, ⟨hj, hjj⟩, rfl⟩
      by_cases hjl : j < ns.length
      · have hat := intsN_at o j (by omega)
        repeat' (first | refine W.seq ?_ | refine W.rg ?_ | refine W.block ?_ | refine W.skip ?_ | refine W.exit ?_ | refine W.cond_true' ?_ | refine WG.nil ?_ | refine WG.run' (E := env) ?_ | refine WG.ixo' (E := env) ?_ | refine WG.legm' (E := env) ?_ | ((first | refine WG.sp' (fun h => ?_) fun h => ?_ | refine W.cond' (fun h => ?_) fun h => ?_) <;> (try simp only [atS, List.length_map, beq_self_eq_true] at h) <;> (try (exfalso; first | contradiction | omega))))
        all_goals (try simp only [Int.toNat_natCast] at *)
        · (refine W.ret ?_; (first | refine RetQ.i' ?_))
          have hne : ¬ begM (nmT ns) (ns.length - 1) = 0 := fun hb => by
            have e2 : o.getD j default = j := by rw [hbo.1 hb]; simp [hjl]
            rw [e2] at hat
            contradiction
          rw [if_pos hne]
        · refine ⟨_, _, by omega, ⟨j + 1, rfl, ⟨by omega, fun p hp => ?_⟩, rfl⟩, (by (refine le_ofL rfl ?_ ?_ <;> (repeat (first | exact trivial | refine ⟨⟨rfl, rfl⟩, ?_⟩ | refine ⟨rfl, .inl rfl, ?_⟩ | refine ⟨rfl, .inr rfl, ?_⟩))))⟩
          by_cases e : p = j
          · subst e
            omega
          · exact hjj p (by omega)
      · have hor : o = List.range ns.length := by
          rw [← hll]
          exact range_of fun p hp => hjj p (by omega)
        have hbz0 := hbo.2 hor
        have hmost := nest_most (hbz.1 hbz0)
        rw [show ns.length - 1 + 1 = ns.length by omega] at hmost
        rw [hmost] at hd
        rw [if_neg (fun h => h hbz0)]
        repeat' (first | refine W.seq ?_ | refine W.rg ?_ | refine W.block ?_ | refine W.skip ?_ | refine W.exit ?_ | refine W.cond_true' ?_ | refine WG.nil ?_ | refine WG.run' (E := env) ?_ | refine WG.ixo' (E := env) ?_ | refine WG.legm' (E := env) ?_ | refine WG.c (E := env) rfl rfl (hd) rfl rfl ?_ | ((first | refine WG.sp' (fun h => ?_) fun h => ?_ | refine W.cond' (fun h => ?_) fun h => ?_) <;> (try simp only [atS, List.length_map, beq_self_eq_true] at h) <;> (try (exfalso; first | contradiction | omega))))
        all_goals first | (exfalso; omega) | skip
        all_goals (refine W.ret ?_; (first | refine RetQ.i' ?_))
        · rw [if_pos (by omega)]
        · rw [if_neg (by omega)]
  · have e0 : treeM ns = 2 := by unfold treeM; rw [if_pos hlen]
    rw [e0]
    refine Fun.intro Tryz.func25 rfl (by kernel_rfl) rfl ?_
    repeat' (first | refine W.seq ?_ | refine W.rg ?_ | refine W.block ?_ | refine W.skip ?_ | refine W.exit ?_ | refine W.cond_true' ?_ | refine WG.nil ?_ | refine WG.run' (E := env) ?_ | refine WG.ixo' (E := env) ?_ | refine WG.legm' (E := env) ?_ | ((first | refine WG.sp' (fun h => ?_) fun h => ?_ | refine W.cond' (fun h => ?_) fun h => ?_) <;> (try simp only [atS, List.length_map, beq_self_eq_true] at h) <;> (try (exfalso; first | contradiction | omega))))
    all_goals first | (exfalso; omega) | skip
    all_goals (refine W.ret ?_; (first | refine RetQ.i' ?_))
    all_goals rfl

abbrev intP (c v : Int) : D := .agg [dI c, dI v]

def fitsT (ns : List Nd) : Prop := (∀ n ∈ ns, n.text.size ≤ 1048576) ∧ ns.length ≤ 1048576

end Go.Proofs.YtmmjbpgdkokjgaaGreat
