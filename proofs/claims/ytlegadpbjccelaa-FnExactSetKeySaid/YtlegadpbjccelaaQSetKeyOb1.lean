/-
  An object out of keys and values, by the program and by the reference. Conditions: texts and cells of at most 2^20 bytes.
-/
import Derived.Test.YtlegadpbjccelaaQSetKeyMp3
import Derived.Test.YtlegadpbjccelaaQSetKeyAr1
set_option linter.unusedVariables false
set_option linter.unusedSimpArgs false
set_option maxRecDepth 100000
namespace Go.Proofs.Ytlegadpbjccelaa
open Go.RowKit

/-! ### texts that are no texts of the language -/

/-! ### the reference's object -/

theorem insX_map {α β : Type} (f : α → β) (key : ByteArray) (x : α) (ks : List ByteArray) (xs : List α) : insX key (f x) ks (xs.map f) = (insX key x ks xs).map f := by
  unfold insX
  split <;> simp [List.map_set]

theorem objX_map (keys : List ByteArray) (vs : List V) (hl : keys.length = vs.length) : ∀ i, i ≤ keys.length → objX keys (vs.map V.cells) i = (objX keys vs i).map V.cells
  | 0, _ => rfl
  | i + 1, hi => by
    rw [objX, objX, objX_map keys vs hl i (by omega), ← insX_map]
    congr 1
    simp [show i < vs.length by omega]

theorem objX_mem (keys : List ByteArray) (vs : List V) (hl : keys.length = vs.length) : ∀ i, i ≤ keys.length → ∀ v ∈ objX keys vs i, v ∈ vs
  | 0, _, v, h => by simp [objX] at h
  | i + 1, hi, v, h => by
    rw [objX] at h
    rcases insX_mem _ _ _ _ v h with rfl | h
    · exact getD_mem' (by omega)
    · exact objX_mem keys vs hl i (by omega) v h

theorem l1ObjectV_fn (ks : List ByteArray) (vs : List V) (hl : ks.length = vs.length) (h1 : ks.length ≤ 200) (hc : ∀ v ∈ vs, v.count ≤ 1000) :
    Fun env.P 120 [.sl 1 (ks.map keyRow), .sl 1 (vs.map partR)] (.og 0 0) [.gr 5 91 ((objV (objK ks ks.length) (objX ks vs ks.length)).cells.map Cell.row) 0 false] := by
  have h2 := l1ObjectS_fn ks (vs.map V.cells) 1000 (by rw [List.length_map]; exact hl) (by omega) (by omega) (by omega) fun x hx => by
    obtain ⟨v, hv, rfl⟩ := List.mem_map.1 hx
    refine ⟨fun e => ?_, ?_⟩
    · obtain ⟨r, hr⟩ := V.cells_cons v
      rw [hr] at e; cases e
    · rw [show v.cells.length = v.count from V.cellsK_length v noS]; exact hc v hv
  have hxl := objX_length ks vs ks.length
  rw [objX_map ks vs hl _ (Nat.le_refl _), pcs_cells _ _ hxl _ (Nat.le_refl _), List.take_length, List.take_of_length_le (by omega)] at h2
  refine h2.cast (by simp [cellssD, partR, cellsR, Function.comp_def]) rfl ?_
  rw [show (objV (objK ks ks.length) (objX ks vs ks.length)).cells = ⟨6, 0, noS, noS, ((objX ks vs ks.length).length : Int)⟩ :: V.kidsC (objX ks vs ks.length) (objK ks ks.length) from rfl, hxl]

/-! ### both sides -/

def badKs (ks : List ByteArray) : Bool := ks.any fun k => !okText k
def objS (ks : List ByteArray) (vs : List V) : V := objV (objK ks ks.length) (objX ks vs ks.length)

theorem objS_good {ks : List ByteArray} {vs : List V} (hl : ks.length = vs.length) (hk : badKs ks = false) (hv : ∀ v ∈ vs, v.fine) : (objS ks vs).good :=
  objV_good (objX_length ks vs _) (fun k hk' => by
    have h := objK_sub ks _ (Nat.le_refl _) k hk'
    unfold badKs at hk
    rw [List.any_eq_false] at hk
    simpa using hk k h) (objK_incr' ks _) (V.goods_of fun w hw => (hv w (objX_mem ks vs hl _ (Nat.le_refl _) w hw)).1)

theorem counts_le {l : List V} (h : ∀ v ∈ l, v.fine) : V.counts l ≤ 200 * l.length := by
  induction l with
  | nil => simp [V.counts]
  | cons a r ih =>
    have h1 := (h a (List.mem_cons_self ..)).2.1
    have h2 := ih fun v hv => h v (List.mem_cons_of_mem _ hv)
    simp only [V.counts, List.length_cons]
    omega

theorem objS_count {ks : List ByteArray} {vs : List V} (hl : ks.length = vs.length) (h1 : ks.length ≤ 200) (hv : ∀ v ∈ vs, v.fine) : (objS ks vs).count ≤ 1048576 := by
  have h2 := counts_le (l := objX ks vs ks.length) fun w hw => hv w (objX_mem ks vs hl _ (Nat.le_refl _) w hw)
  have h3 := objX_length ks vs ks.length
  have h4 := objK_len ks ks.length
  have h5 : (objS ks vs).count = V.counts (objX ks vs ks.length) + 1 := V.count_eq _
  omega

noncomputable def obC (ks : List ByteArray) (xs : List (List Cell)) : Int := if 200 < xs.length ∨ ks.length ≠ xs.length then 2 else if badKs ks = true then 5 else if firstV xs ≠ 0 then firstV xs else faultV (objS ks (valsV xs))
end Go.Proofs.Ytlegadpbjccelaa
