/-
  Texts of this claim in one. Conditions: none.
-/
import Derived.Test.YtlegadpbjccelaaQMembersG9
import Derived.Test.YtlegadpbjccelaaQMembersG6
import Derived.Test.YtlegadpbjccelaaQMembersV6
import Derived.Test.YtlegadpbjccelaaQMembersMp3
import Derived.Test.YtlegadpbjccelaaQMembersG10
section
set_option linter.unusedVariables false
set_option linter.unusedSimpArgs false
set_option maxRecDepth 100000
namespace Go.Proofs.Ytlegadpbjccelaa
open Go.RowKit

mutual
theorem V.cells_sizes : ∀ (v : V), v.good → ∀ (key : ByteArray), okText key = true → ∀ c ∈ v.cellsK key, c.text.size ≤ 1048576 ∧ c.key.size ≤ 1048576
  | .mk k n t ks kids, hg, key, hkey, c, hc => by
    obtain ⟨g1, g2, g3, g4, g5, g6, g7, g8, g9, g10, g11⟩ := hg
    simp only [V.cellsK] at hc
    rcases List.mem_cons.1 hc with rfl | hc
    · simp only [okText, Bool.and_eq_true, decide_eq_true_eq] at g6 hkey
      show t.size ≤ _ ∧ key.size ≤ _
      omega
    · exact V.cells_sizess kids ks g11 g9 c hc
theorem V.cells_sizess : ∀ (l : List V) (ks : List ByteArray), V.goods l → (∀ key ∈ ks, okText key = true) → ∀ c ∈ V.kidsC l ks, c.text.size ≤ 1048576 ∧ c.key.size ≤ 1048576
  | [], ks, _, _, c, hc => by simp [V.kidsC] at hc
  | v :: r, ks, hg, hk, c, hc => by
    simp only [V.kidsC] at hc
    rcases List.mem_append.1 hc with hc | hc
    · refine V.cells_sizes v hg.1 _ ?_ c hc
      cases ks with
      | nil => rfl
      | cons a r => exact hk a (List.mem_cons_self ..)
    · exact V.cells_sizess r ks.tail hg.2 (fun key hkey => hk key (List.mem_of_mem_tail hkey)) c hc
end

/-- What reading the cells of a right value gives, however many. -/
theorem valOfM_fault (v : V) (hg : v.good) : (valOfM v.cells).2 = faultV v := by
  have hl : v.cells.length = v.count := V.cellsK_length v noS
  have hd := V.depth_le v
  by_cases hm : 200 < v.count
  · unfold valOfM faultV
    rw [if_pos (by omega), if_pos hm]
  · rw [valOfM_good v hg (by omega), faultV, if_neg hm]
    split <;> rfl

set_option maxHeartbeats 1000000 in
theorem l1Told_fn (v : V) (hg : v.good) (hc : v.count ≤ 1048576) : Fun env.P 103 [cellsD v.cells] (.d (resD (faultV v) (madeC v))) [] := by
  have h1 := ValueFaultS_fn v.cells (V.cells_sizes v hg noS okText_no) (by rw [show v.cells.length = v.count from V.cellsK_length v noS]; exact hc)
  rw [valOfM_fault v hg] at h1
  unfold madeC
  refine Fun.intro Try.func103 rfl (by kernel_rfl) rfl ?_
  repeat' (first | refine W.seq ?_ | refine W.rg ?_ | refine W.dra' ?_ | refine W.block ?_ | refine W.skip ?_ | refine W.exit ?_ | refine W.cond_true' ?_ | refine W.cond_false' ?_ | refine WG.nil ?_ | refine WG.run' (E := env) ?_ | refine WG.gt' ?_ | refine WG.gf' ?_ | refine WG.ixm' (E := env) ?_ | refine WG.ixo' (E := env) ?_ | refine WG.legm' (E := env) ?_ | refine WG.slS' (E := env) ?_ | refine WG.slD' (E := env) ?_ | refine WG.ap' (E := env) ?_ | refine WD.nil ?_ | refine WD.bs' (E := env) ?_ | refine WD.s' (E := env) (t := .d _) ?_ | refine WD.p' ?_ | refine WD.px' ?_ | refine WD.s' (E := env) (t := .ea _ _) ?_ | refine WD.s' (E := env) (t := .lp _ _) ?_ | refine WD.s' (E := env) (t := .og _ _) ?_ | refine WD.s' (E := env) (t := .agg _) ?_ | refine WD.s' (E := env) (t := .tup _) ?_ | refine WD.s' (E := env) (t := .clo _ _) ?_ | refine WD.ixm' (E := env) ?_ | refine WD.ixo' (E := env) ?_ | refine WD.legm' (E := env) ?_ | refine WD.slS' (E := env) ?_ | refine WD.slD' (E := env) ?_ | refine WG.c (E := env) rfl rfl (h1) rfl rfl ?_ | refine WD.c (E := env) rfl rfl (h1) rfl rfl ?_ | refine WG.co (E := env) rfl rfl (h1) rfl rfl rfl rfl ?_ | refine WG.cx (E := env) rfl (h1) rfl ?_ | ((first | refine WG.sp' (fun h => ?_) fun h => ?_ | refine W.cond' (fun h => ?_) fun h => ?_ | refine WD.sp' (fun h => ?_) fun h => ?_) <;> (try simp only [decide_eq_true_eq, decide_eq_false_iff_not, Bool.not_eq_true', Bool.not_eq_false', Bool.and_eq_true, Bool.or_eq_true, Bool.and_eq_false_iff, Bool.or_eq_false_iff, Bool.not_eq_true, Bool.not_eq_false, Int.not_lt, Int.not_le, List.length_map, beq_self_eq_true, Bool.true_eq_false, Bool.false_eq_true] at h) <;> (try (exfalso; first | contradiction | omega))))
  · rw [if_neg h]
    (refine W.ret ?_; (first | refine RetQ.b' ?_ | refine RetQ.i' ?_ | refine RetQ.d' ?_ | refine RetQ.t2' ?_ ?_ | refine RetQ.t3' ?_ ?_ ?_))
    rfl
  · rw [if_pos h, h]
    (refine W.ret ?_; (first | refine RetQ.b' ?_ | refine RetQ.i' ?_ | refine RetQ.d' ?_ | refine RetQ.t2' ?_ ?_ | refine RetQ.t3' ?_ ?_ ?_))
    rfl

/-- What the program's way of making and telling gives. -/
theorem given_fn (v : V) (hg : v.good) (hc : v.count ≤ 1048576) : Fun env.P 191 [.agg v.rowP] (.d (outD (faultV v) (if faultV v = 0 then v else V.zero))) [] := givesP_fn v hg hc
def givenV (v : V) : V := if faultV v = 0 then v else V.zero
theorem givenV_fine {v : V} (hg : v.good) : (givenV v).fine := by
  unfold givenV
  split
  · rename_i h
    unfold faultV at h
    split at h
    · cases h
    · split at h
      · cases h
      · exact ⟨hg, by omega, by omega⟩
  · exact V.zero_fine
theorem givenC (v : V) : outC (faultV v) (givenV v) = madeC v := by
  unfold outC madeC givenV
  split <;> rfl

end Go.Proofs.Ytlegadpbjccelaa
end

section
set_option linter.unusedVariables false
set_option linter.unusedSimpArgs false
set_option maxRecDepth 100000
namespace Go.Proofs.Ytlegadpbjccelaa
open Go.RowKit

/-- The first fault of values; the values. -/
def firstV : List (List Cell) → Int
  | [] => 0
  | x :: r => if (valOfM x).2 ≠ 0 then (valOfM x).2 else firstV r
noncomputable def valsV (xs : List (List Cell)) : List V := xs.map fun x => (valOfM x).1
end Go.Proofs.Ytlegadpbjccelaa
end

section
set_option linter.unusedVariables false
set_option linter.unusedSimpArgs false
set_option maxRecDepth 100000
namespace Go.Proofs.Ytlegadpbjccelaa
open Go.RowKit

/-! ### texts that are no texts of the language -/

/-! ### the reference's object -/

theorem insX_map {α β : Type} (f : α → β) (key : ByteArray) (x : α) (ks : List ByteArray) (xs : List α) : insX key (f x) ks (xs.map f) = (insX key x ks xs).map f := by
  unfold insX
  split <;> simp [List.map_set]

theorem objX_map (keys : List ByteArray) (vs : List V) (hl : keys.length = vs.length) : ∀ i, i ≤ keys.length → objX keys (vs.map V.cells) i = (objX keys vs i).map V.cells
  | 0, _ => rfl
  | i + 1, hi => by
    rw [objX, objX, objX_map keys vs hl i (by omega), ← insX_map]
    congr 1
    simp [show i < vs.length by omega]

theorem objX_mem (keys : List ByteArray) (vs : List V) (hl : keys.length = vs.length) : ∀ i, i ≤ keys.length → ∀ v ∈ objX keys vs i, v ∈ vs
  | 0, _, v, h => by simp [objX] at h
  | i + 1, hi, v, h => by
    rw [objX] at h
    rcases insX_mem _ _ _ _ v h with rfl | h
    · exact getD_mem' (by omega)
    · exact objX_mem keys vs hl i (by omega) v h

theorem l1ObjectV_fn (ks : List ByteArray) (vs : List V) (hl : ks.length = vs.length) (h1 : ks.length ≤ 200) (hc : ∀ v ∈ vs, v.count ≤ 1000) :
    Fun env.P 120 [.sl 1 (ks.map keyRow), .sl 1 (vs.map partR)] (.og 0 0) [.gr 5 91 ((objV (objK ks ks.length) (objX ks vs ks.length)).cells.map Cell.row) 0 false] := by
  have h2 := l1ObjectS_fn ks (vs.map V.cells) 1000 (by rw [List.length_map]; exact hl) (by omega) (by omega) (by omega) fun x hx => by
    obtain ⟨v, hv, rfl⟩ := List.mem_map.1 hx
    refine ⟨fun e => ?_, ?_⟩
    · obtain ⟨r, hr⟩ := V.cells_cons v
      rw [hr] at e; cases e
    · rw [show v.cells.length = v.count from V.cellsK_length v noS]; exact hc v hv
  have hxl := objX_length ks vs ks.length
  rw [objX_map ks vs hl _ (Nat.le_refl _), pcs_cells _ _ hxl _ (Nat.le_refl _), List.take_length, List.take_of_length_le (by omega)] at h2
  refine h2.cast (by simp [cellssD, partR, cellsR, Function.comp_def]) rfl ?_
  rw [show (objV (objK ks ks.length) (objX ks vs ks.length)).cells = ⟨6, 0, noS, noS, ((objX ks vs ks.length).length : Int)⟩ :: V.kidsC (objX ks vs ks.length) (objK ks ks.length) from rfl, hxl]

/-! ### both sides -/

def badKs (ks : List ByteArray) : Bool := ks.any fun k => !okText k
def objS (ks : List ByteArray) (vs : List V) : V := objV (objK ks ks.length) (objX ks vs ks.length)

theorem objS_good {ks : List ByteArray} {vs : List V} (hl : ks.length = vs.length) (hk : badKs ks = false) (hv : ∀ v ∈ vs, v.fine) : (objS ks vs).good :=
  objV_good (objX_length ks vs _) (fun k hk' => by
    have h := objK_sub ks _ (Nat.le_refl _) k hk'
    unfold badKs at hk
    rw [List.any_eq_false] at hk
    simpa using hk k h) (objK_incr' ks _) (V.goods_of fun w hw => (hv w (objX_mem ks vs hl _ (Nat.le_refl _) w hw)).1)

theorem counts_le {l : List V} (h : ∀ v ∈ l, v.fine) : V.counts l ≤ 200 * l.length := by
  induction l with
  | nil => simp [V.counts]
  | cons a r ih =>
    have h1 := (h a (List.mem_cons_self ..)).2.1
    have h2 := ih fun v hv => h v (List.mem_cons_of_mem _ hv)
    simp only [V.counts, List.length_cons]
    omega

theorem objS_count {ks : List ByteArray} {vs : List V} (hl : ks.length = vs.length) (h1 : ks.length ≤ 200) (hv : ∀ v ∈ vs, v.fine) : (objS ks vs).count ≤ 1048576 := by
  have h2 := counts_le (l := objX ks vs ks.length) fun w hw => hv w (objX_mem ks vs hl _ (Nat.le_refl _) w hw)
  have h3 := objX_length ks vs ks.length
  have h4 := objK_len ks ks.length
  have h5 : (objS ks vs).count = V.counts (objX ks vs ks.length) + 1 := V.count_eq _
  omega

noncomputable def obC (ks : List ByteArray) (xs : List (List Cell)) : Int := if 200 < xs.length ∨ ks.length ≠ xs.length then 2 else if badKs ks = true then 5 else if firstV xs ≠ 0 then firstV xs else faultV (objS ks (valsV xs))
end Go.Proofs.Ytlegadpbjccelaa
end

section
set_option linter.unusedVariables false
set_option linter.unusedSimpArgs false
set_option maxRecDepth 100000
namespace Go.Proofs.Ytlegadpbjccelaa
open Go.RowKit

/-- What an operation of two values gives. -/
def twoCode (cs ds : List Cell) (oc : Int) : Int := if (valOfM cs).2 = 0 then oneCode ds oc else (valOfM cs).2
def twoCells (cs ds : List Cell) (oc : Int) (ov : V) : List Cell := if (valOfM cs).2 = 0 then oneCells ds oc ov else []

end Go.Proofs.Ytlegadpbjccelaa
end
