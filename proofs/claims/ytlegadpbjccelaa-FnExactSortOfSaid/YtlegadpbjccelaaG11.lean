/-
  Arrays that are made of values; values told with their fault; all values in a value; keys as values. Conditions: none.
-/
import Derived.Test.YtlegadpbjccelaaG9
import Derived.Test.YtlegadpbjccelaaG6
set_option linter.unusedVariables false
set_option linter.unusedSimpArgs false
set_option maxRecDepth 100000
namespace Go.Proofs.Ytlegadpbjccelaa
open Go.RowKit

/-- The array of values. -/
def arrV (l : List V) : V := .mk 5 0 noS [] l

theorem V.kidsC_flat : ∀ l : List V, V.kidsC l [] = (l.map V.cells).flatten
  | [] => rfl
  | v :: r => by simp only [V.kidsC, List.headD_nil, List.tail_nil, V.kidsC_flat r, List.map_cons, List.flatten_cons]; rfl
theorem arrV_cells (l : List V) : (arrV l).cells = ⟨5, 0, noS, noS, (l.length : Int)⟩ :: (l.map V.cells).flatten := by
  show (⟨5, 0, noS, noS, (l.length : Int)⟩ : Cell) :: V.kidsC l [] = _
  rw [V.kidsC_flat]
theorem arrV_good {l : List V} (h : ∀ v ∈ l, v.good) : (arrV l).good :=
  ⟨by decide, fun h => absurd rfl h, fun h => absurd rfl h, fun _ => .inl rfl, by decide, rfl, fun h => absurd h (by decide), fun _ => rfl, fun k hk => absurd hk (by simp), trivial, V.goods_of h⟩
theorem arrV_count (l : List V) : (arrV l).count = V.counts l + 1 := rfl

theorem V.flat_length : ∀ l : List V, (l.map V.cells).flatten.length = V.counts l
  | [] => rfl
  | v :: r => by
    simp only [List.map_cons, List.flatten_cons, List.length_append, V.flat_length r, V.counts]
    rw [show v.cells.length = v.count from V.cellsK_length v noS]

theorem l1Array_fn (l : List V) (hc : V.counts l ≤ 1000000) : Fun env.P 104 [.sl 1 (l.map partR)] (.og 0 0) [.gr 5 91 ((arrV l).cells.map Cell.row) 0 false] := by
  have hlc := V.length_counts l
  have h1 := l1ArrayS_fn (l.map V.cells) (by rw [List.length_map]; omega) (fun i => by
    rw [← List.map_take, V.flat_length]
    have := V.counts_take l i
    omega) fun i => by
      by_cases hi : i < l.length
      · have : (l.map V.cells).getD i default = (l.getD i default).cells := by simp [hi]
        rw [this, show (l.getD i default).cells.length = (l.getD i default).count from V.cellsK_length _ noS]
        have := V.counts_ge _ (getD_mem' hi)
        omega
      · rw [List.getD_eq_getElem?_getD, List.getElem?_eq_none (by rw [List.length_map]; omega)]
        exact Nat.zero_le _
  rw [List.length_map, ← arrV_cells] at h1
  exact h1.cast (by simp [cellssD, partR, cellsR, Function.comp_def]) rfl rfl

mutual
theorem V.cells_sizes : ∀ (v : V), v.good → ∀ (key : ByteArray), okText key = true → ∀ c ∈ v.cellsK key, c.text.size ≤ 1048576 ∧ c.key.size ≤ 1048576
  | .mk k n t ks kids, hg, key, hkey, c, hc => by
    obtain ⟨g1, g2, g3, g4, g5, g6, g7, g8, g9, g10, g11⟩ := hg
    simp only [V.cellsK] at hc
    rcases List.mem_cons.1 hc with rfl | hc
    · simp only [okText, Bool.and_eq_true, decide_eq_true_eq] at g6 hkey
      show t.size ≤ _ ∧ key.size ≤ _
      omega
    · exact V.cells_sizess kids ks g11 g9 c hc
theorem V.cells_sizess : ∀ (l : List V) (ks : List ByteArray), V.goods l → (∀ key ∈ ks, okText key = true) → ∀ c ∈ V.kidsC l ks, c.text.size ≤ 1048576 ∧ c.key.size ≤ 1048576
  | [], ks, _, _, c, hc => by simp [V.kidsC] at hc
  | v :: r, ks, hg, hk, c, hc => by
    simp only [V.kidsC] at hc
    rcases List.mem_append.1 hc with hc | hc
    · refine V.cells_sizes v hg.1 _ ?_ c hc
      cases ks with
      | nil => rfl
      | cons a r => exact hk a (List.mem_cons_self ..)
    · exact V.cells_sizess r ks.tail hg.2 (fun key hkey => hk key (List.mem_of_mem_tail hkey)) c hc
end

/-- What reading the cells of a right value gives, however many. -/
theorem valOfM_fault (v : V) (hg : v.good) : (valOfM v.cells).2 = faultV v := by
  have hl : v.cells.length = v.count := V.cellsK_length v noS
  have hd := V.depth_le v
  by_cases hm : 200 < v.count
  · unfold valOfM faultV
    rw [if_pos (by omega), if_pos hm]
  · rw [valOfM_good v hg (by omega), faultV, if_neg hm]
    split <;> rfl

theorem madeC_len (v : V) : (madeC v).length ≤ 200 := by
  unfold madeC
  split
  · rename_i h
    rw [show v.cells.length = v.count from V.cellsK_length v noS]
    unfold faultV at h
    split at h
    · cases h
    · omega
  · simp

set_option maxHeartbeats 1000000 in
theorem l1Told_fn (v : V) (hg : v.good) (hc : v.count ≤ 1048576) : Fun env.P 103 [cellsD v.cells] (.d (resD (faultV v) (madeC v))) [] := by
  have h1 := ValueFaultS_fn v.cells (V.cells_sizes v hg noS okText_no) (by rw [show v.cells.length = v.count from V.cellsK_length v noS]; exact hc)
  rw [valOfM_fault v hg] at h1
  unfold madeC
  refine Fun.intro Try.func103 rfl (by kernel_rfl) rfl ?_
  repeat' (first | refine W.seq ?_ | refine W.rg ?_ | refine W.dra' ?_ | refine W.block ?_ | refine W.skip ?_ | refine W.exit ?_ | refine W.cond_true' ?_ | refine W.cond_false' ?_ | refine WG.nil ?_ | refine WG.run' (E := env) ?_ | refine WG.gt' ?_ | refine WG.gf' ?_ | refine WG.ixm' (E := env) ?_ | refine WG.ixo' (E := env) ?_ | refine WG.legm' (E := env) ?_ | refine WG.slS' (E := env) ?_ | refine WG.slD' (E := env) ?_ | refine WG.ap' (E := env) ?_ | refine WD.nil ?_ | refine WD.bs' (E := env) ?_ | refine WD.s' (E := env) (t := .d _) ?_ | refine WD.p' ?_ | refine WD.px' ?_ | refine WD.s' (E := env) (t := .ea _ _) ?_ | refine WD.s' (E := env) (t := .lp _ _) ?_ | refine WD.s' (E := env) (t := .og _ _) ?_ | refine WD.s' (E := env) (t := .agg _) ?_ | refine WD.s' (E := env) (t := .tup _) ?_ | refine WD.s' (E := env) (t := .clo _ _) ?_ | refine WD.ixm' (E := env) ?_ | refine WD.ixo' (E := env) ?_ | refine WD.legm' (E := env) ?_ | refine WD.slS' (E := env) ?_ | refine WD.slD' (E := env) ?_ | refine WG.c (E := env) rfl rfl (h1) rfl rfl ?_ | refine WD.c (E := env) rfl rfl (h1) rfl rfl ?_ | refine WG.co (E := env) rfl rfl (h1) rfl rfl rfl rfl ?_ | refine WG.cx (E := env) rfl (h1) rfl ?_ | ((first | refine WG.sp' (fun h => ?_) fun h => ?_ | refine W.cond' (fun h => ?_) fun h => ?_ | refine WD.sp' (fun h => ?_) fun h => ?_) <;> (try simp only [decide_eq_true_eq, decide_eq_false_iff_not, Bool.not_eq_true', Bool.not_eq_false', Bool.and_eq_true, Bool.or_eq_true, Bool.and_eq_false_iff, Bool.or_eq_false_iff, Bool.not_eq_true, Bool.not_eq_false, Int.not_lt, Int.not_le, List.length_map, beq_self_eq_true, Bool.true_eq_false, Bool.false_eq_true] at h) <;> (try (exfalso; first | contradiction | omega))))
  · rw [if_neg h]
    (refine W.ret ?_; (first | refine RetQ.b' ?_ | refine RetQ.i' ?_ | refine RetQ.d' ?_ | refine RetQ.t2' ?_ ?_ | refine RetQ.t3' ?_ ?_ ?_))
    rfl
  · rw [if_pos h, h]
    (refine W.ret ?_; (first | refine RetQ.b' ?_ | refine RetQ.i' ?_ | refine RetQ.d' ?_ | refine RetQ.t2' ?_ ?_ | refine RetQ.t3' ?_ ?_ ?_))
    rfl

/-- What the program's way of making and telling gives. -/
theorem given_fn (v : V) (hg : v.good) (hc : v.count ≤ 1048576) : Fun env.P 191 [.agg v.rowP] (.d (outD (faultV v) (if faultV v = 0 then v else V.zero))) [] := givesP_fn v hg hc
def givenV (v : V) : V := if faultV v = 0 then v else V.zero
theorem givenV_fine {v : V} (hg : v.good) : (givenV v).fine := by
  unfold givenV
  split
  · rename_i h
    unfold faultV at h
    split at h
    · cases h
    · split at h
      · cases h
      · exact ⟨hg, by omega, by omega⟩
  · exact V.zero_fine
theorem givenC (v : V) : outC (faultV v) (givenV v) = madeC v := by
  unfold outC madeC givenV
  split <;> rfl

mutual
/-- A value and all values in it, each ahead of those in it. -/
def V.deepL : V → List V
  | .mk k n t ks kids => .mk k n t ks kids :: V.deepsL kids
def V.deepsL : List V → List V
  | [] => []
  | v :: r => V.deepL v ++ V.deepsL r
end
mutual
theorem V.deepL_all : ∀ (v : V) (m : Nat), v.good → v.count ≤ m → (∀ w ∈ v.deepL, w.good ∧ w.count ≤ m) ∧ v.deepL.length = v.count
  | .mk k n t ks kids, m, hg, hc => by
    have hg' := V.good_kids hg
    simp only [V.count] at hc
    obtain ⟨h1, h2⟩ := V.deepsL_all kids m hg' (by omega)
    simp only [V.deepL, V.count]
    refine ⟨fun w hw => ?_, by simp [h2]⟩
    rcases List.mem_cons.1 hw with rfl | hw
    · exact ⟨hg, by simp only [V.count]; omega⟩
    · exact h1 w hw
theorem V.deepsL_all : ∀ (l : List V) (m : Nat), V.goods l → V.counts l ≤ m → (∀ w ∈ V.deepsL l, w.good ∧ w.count ≤ m) ∧ (V.deepsL l).length = V.counts l
  | [], m, _, _ => ⟨fun w hw => by simp [V.deepsL] at hw, rfl⟩
  | v :: r, m, hg, hc => by
    simp only [V.counts] at hc
    obtain ⟨h1, h2⟩ := V.deepL_all v m hg.1 (by omega)
    obtain ⟨h3, h4⟩ := V.deepsL_all r m hg.2 (by omega)
    simp only [V.deepsL, V.counts]
    refine ⟨fun w hw => ?_, by simp [h2, h4]⟩
    rcases List.mem_append.1 hw with hw | hw
    · exact h1 w hw
    · exact h3 w hw
end
theorem V.counts_bound : ∀ (l : List V) (m : Nat), (∀ w ∈ l, w.count ≤ m) → V.counts l ≤ l.length * m
  | [], m, _ => by simp [V.counts]
  | v :: r, m, h => by
    have h1 := h v (List.mem_cons_self ..)
    have h2 := V.counts_bound r m fun w hw => h w (List.mem_cons_of_mem _ hw)
    simp only [V.counts, List.length_cons, Nat.add_mul]
    omega
theorem V.deep_counts {v : V} (h : v.fine) : V.counts v.deepL ≤ 40000 := by
  obtain ⟨h1, h2⟩ := V.deepL_all v v.count h.1 (Nat.le_refl _)
  have h3 := V.counts_bound v.deepL v.count fun w hw => (h1 w hw).2
  rw [h2] at h3
  have := h.2.1
  have : v.count * v.count ≤ 200 * 200 := Nat.mul_le_mul this this
  omega
theorem V.deepsL_app (v : V) : ∀ l : List V, V.deepsL (l ++ [v]) = V.deepsL l ++ v.deepL
  | [] => by simp [V.deepsL]
  | x :: r => by rw [List.cons_append]; simp only [V.deepsL]; rw [V.deepsL_app v r, List.append_assoc]
theorem V.deepL_eq (v : V) : v.deepL = v :: V.deepsL v.kids := by cases v; rfl

theorem V.deepsL_len (l : List V) : (V.deepsL l).length = V.counts l := by
  induction l with
  | nil => rfl
  | cons x r ih =>
    simp only [V.deepsL, V.counts, List.length_append, ih]
    have : ∀ v : V, v.deepL.length = v.count := by
      intro v
      have : ∀ (n : Nat) (v : V), v.count ≤ n → v.deepL.length = v.count := by
        intro n
        induction n with
        | zero => intro v h; have := V.depth_le v; omega
        | succ n ihn =>
          intro v h
          rw [V.deepL_eq, V.count_eq]
          rw [V.count_eq] at h
          have key : ∀ l : List V, V.counts l ≤ n → (V.deepsL l).length = V.counts l := by
            intro l
            induction l with
            | nil => intro _; rfl
            | cons y s ihs =>
              intro hl
              simp only [V.counts] at hl
              simp only [V.deepsL, V.counts, List.length_append, ihs (by omega), ihn y (by omega)]
          simp [key v.kids (by omega)]
      exact this v.count v (Nat.le_refl _)
    rw [this x]

end Go.Proofs.Ytlegadpbjccelaa
