/-
  Texts of this claim in one. Conditions: none.
-/
import Derived.Test.YtlegadpbjccelaaQSortsG6
section
set_option linter.unusedVariables false
set_option linter.unusedSimpArgs false
set_option maxRecDepth 100000
namespace Go.Proofs.Ytlegadpbjccelaa
open Go.RowKit

/-- The array of values. -/
def arrV (l : List V) : V := .mk 5 0 noS [] l

theorem V.kidsC_flat : ∀ l : List V, V.kidsC l [] = (l.map V.cells).flatten
  | [] => rfl
  | v :: r => by simp only [V.kidsC, List.headD_nil, List.tail_nil, V.kidsC_flat r, List.map_cons, List.flatten_cons]; rfl
theorem arrV_cells (l : List V) : (arrV l).cells = ⟨5, 0, noS, noS, (l.length : Int)⟩ :: (l.map V.cells).flatten := by
  show (⟨5, 0, noS, noS, (l.length : Int)⟩ : Cell) :: V.kidsC l [] = _
  rw [V.kidsC_flat]
theorem arrV_good {l : List V} (h : ∀ v ∈ l, v.good) : (arrV l).good :=
  ⟨by decide, fun h => absurd rfl h, fun h => absurd rfl h, fun _ => .inl rfl, by decide, rfl, fun h => absurd h (by decide), fun _ => rfl, fun k hk => absurd hk (by simp), trivial, V.goods_of h⟩
theorem arrV_count (l : List V) : (arrV l).count = V.counts l + 1 := rfl

theorem V.flat_length : ∀ l : List V, (l.map V.cells).flatten.length = V.counts l
  | [] => rfl
  | v :: r => by
    simp only [List.map_cons, List.flatten_cons, List.length_append, V.flat_length r, V.counts]
    rw [show v.cells.length = v.count from V.cellsK_length v noS]

theorem l1Array_fn (l : List V) (hc : V.counts l ≤ 1000000) : Fun env.P 104 [.sl 1 (l.map partR)] (.og 0 0) [.gr 5 91 ((arrV l).cells.map Cell.row) 0 false] := by
  have hlc := V.length_counts l
  have h1 := l1ArrayS_fn (l.map V.cells) (by rw [List.length_map]; omega) (fun i => by
    rw [← List.map_take, V.flat_length]
    have := V.counts_take l i
    omega) fun i => by
      by_cases hi : i < l.length
      · have : (l.map V.cells).getD i default = (l.getD i default).cells := by simp [hi]
        rw [this, show (l.getD i default).cells.length = (l.getD i default).count from V.cellsK_length _ noS]
        have := V.counts_ge _ (getD_mem' hi)
        omega
      · rw [List.getD_eq_getElem?_getD, List.getElem?_eq_none (by rw [List.length_map]; omega)]
        exact Nat.zero_le _
  rw [List.length_map, ← arrV_cells] at h1
  exact h1.cast (by simp [cellssD, partR, cellsR, Function.comp_def]) rfl rfl

mutual
theorem V.cells_sizes : ∀ (v : V), v.good → ∀ (key : ByteArray), okText key = true → ∀ c ∈ v.cellsK key, c.text.size ≤ 1048576 ∧ c.key.size ≤ 1048576
  | .mk k n t ks kids, hg, key, hkey, c, hc => by
    obtain ⟨g1, g2, g3, g4, g5, g6, g7, g8, g9, g10, g11⟩ := hg
    simp only [V.cellsK] at hc
    rcases List.mem_cons.1 hc with rfl | hc
    · simp only [okText, Bool.and_eq_true, decide_eq_true_eq] at g6 hkey
      show t.size ≤ _ ∧ key.size ≤ _
      omega
    · exact V.cells_sizess kids ks g11 g9 c hc
theorem V.cells_sizess : ∀ (l : List V) (ks : List ByteArray), V.goods l → (∀ key ∈ ks, okText key = true) → ∀ c ∈ V.kidsC l ks, c.text.size ≤ 1048576 ∧ c.key.size ≤ 1048576
  | [], ks, _, _, c, hc => by simp [V.kidsC] at hc
  | v :: r, ks, hg, hk, c, hc => by
    simp only [V.kidsC] at hc
    rcases List.mem_append.1 hc with hc | hc
    · refine V.cells_sizes v hg.1 _ ?_ c hc
      cases ks with
      | nil => rfl
      | cons a r => exact hk a (List.mem_cons_self ..)
    · exact V.cells_sizess r ks.tail hg.2 (fun key hkey => hk key (List.mem_of_mem_tail hkey)) c hc
end

/-- What the program's way of making and telling gives. -/
theorem given_fn (v : V) (hg : v.good) (hc : v.count ≤ 1048576) : Fun env.P 191 [.agg v.rowP] (.d (outD (faultV v) (if faultV v = 0 then v else V.zero))) [] := givesP_fn v hg hc
end Go.Proofs.Ytlegadpbjccelaa
end

section
set_option linter.unusedVariables false
set_option linter.unusedSimpArgs false
set_option maxRecDepth 100000
namespace Go.Proofs.Ytlegadpbjccelaa
open Go.RowKit

theorem ofOneD_fn {f : FuncId} (cs : List Cell) (hf : fitsC cs) (oc : Int) (ov : V)
    (hc : (valOfM cs).2 = 0 → Fun env.P f [.agg (valOfM cs).1.rowP] (.d (outD oc ov)) []) (hg : (valOfM cs).2 = 0 → ov.good ∧ ov.count ≤ 1048576) :
    Fun env.P 139 [cellsD cs, .v (.func (.func f) #[] #[])] (.agg [vI .i64 (oneCode cs oc), .og 0 0]) [.gr 5 91 ((oneCells cs oc ov).map Cell.row) 0 false] :=
  ofOneP_fn cs hf oc ov hc hg

end Go.Proofs.Ytlegadpbjccelaa
end
