/-
  Texts of this claim in one. Conditions: none.
-/
import Derived.Test.YtmmjbpgdkokjgaaGreatQLowerTreeHead
import Derived.Test.YtmmjbpgdkokjgaaGreatQLowerTreeOr1
import Derived.Test.YtmmjbpgdkokjgaaGreatQLowerTreePgC
import Derived.Test.YtmmjbpgdkokjgaaGreatQLowerTreeV5
import Derived.Test.YtmmjbpgdkokjgaaGreatQLowerTreePgE
section
set_option linter.unusedVariables false
set_option linter.unusedSimpArgs false
set_option maxRecDepth 100000
namespace Go.Proofs.YtmmjbpgdkokjgaaGreat
open Go.RowKit

/-! ### words -/

def among (l : List ByteArray) (s : ByteArray) : Bool := match l with | [] => false | x :: r => decide (s = x) || among r s

theorem among_take (s : ByteArray) : ∀ (l : List ByteArray) (k : Nat) (x : ByteArray), l[k]? = some x → among (l.take (k + 1)) s = (among (l.take k) s || decide (s = x))
  | [], k, x, h => by simp at h
  | y :: r, 0, x, h => by simp at h; subst h; simp [among]
  | y :: r, k + 1, x, h => by simp at h; simp [among, among_take s r k x h, Bool.or_assoc]

theorem among_mem {l : List ByteArray} {s : ByteArray} {k : Nat} (h : l[k]? = some s) : among l s = true := by
  induction l generalizing k with
  | nil => simp at h
  | cons y r ih =>
    cases k with
    | zero => simp at h; subst h; simp [among]
    | succ k => simp at h; simp [among, ih h]

def wordsL : List ByteArray := [⟨#[105, 102]⟩, ⟨#[116, 104, 101, 110]⟩, ⟨#[101, 108, 105, 102]⟩, ⟨#[101, 108, 115, 101]⟩, ⟨#[101, 110, 100]⟩, ⟨#[97, 115]⟩, ⟨#[97, 110, 100]⟩, ⟨#[111, 114]⟩, ⟨#[114, 101, 100, 117, 99, 101]⟩, ⟨#[116, 114, 121]⟩, ⟨#[110, 117, 108, 108]⟩, ⟨#[116, 114, 117, 101]⟩, ⟨#[102, 97, 108, 115, 101]⟩]

set_option maxHeartbeats 1000000 in
theorem isWord_fn (s : ByteArray) : Fun env.P 107 [dS s] (.d (dB (among wordsL s))) [] := by
  refine Fun.intro Tryz.func107 rfl (by kernel_rfl) rfl ?_
  repeat' (first | refine W.seq ?_ | refine W.rg ?_ | refine W.block ?_ | refine W.skip ?_ | refine WG.nil ?_ | refine WG.run' (E := env) ?_ | ((refine W.cond' (fun h => ?_) fun h => ?_) <;> (try simp only [atS, List.length_map, beq_self_eq_true] at h) <;> (try (exfalso; first | contradiction | omega))))
  all_goals (refine W.ret ?_; (first | refine RetQ.b' ?_))
  all_goals simp [among, wordsL, *]

theorem words_fn : Fun env.P 123 [] (.d (.sl 1 (wordsL.map fun x => [dS x]))) [] := by
  refine Fun.intro Tryz.func123 rfl (by kernel_rfl) rfl ?_
  repeat' (first | refine W.seq ?_ | refine W.rg ?_ | refine WG.nil ?_ | refine WG.run' (E := env) ?_)
  refine W.pub 0 rfl ?_
  (refine W.ret ?_; (first | refine RetQ.d' ?_))
  rfl
theorem among_fn (l : List ByteArray) (s : ByteArray) (hl : l.length ≤ 1000000) : Fun env.P 61 [.sl 1 (l.map fun x => [dS x]), dS s] (.d (dB (among l s))) [] := by
  refine Fun.intro Tryz.func61 rfl (by kernel_rfl) rfl ?_
  repeat' (first | refine W.seq ?_ | refine W.rg ?_ | refine W.block ?_ | refine W.skip ?_ | refine W.exit ?_ | refine WG.nil ?_ | refine WG.run' (E := env) ?_ | refine WG.ixm' (E := env) ?_ | ((refine W.cond' (fun h => ?_) fun h => ?_) <;> (try simp only [atS, List.length_map, beq_self_eq_true] at h) <;> (try (exfalso; first | contradiction | omega))))
  refine W.loop (fun m S => ∃ k : Nat, m = l.length - k ∧ k ≤ l.length ∧ among (l.take k) s = false ∧ S = ⟨ofL [(0, .d (.sl 1 (l.map fun x => [dS x]))), (1, vS s), (5, vI .i64 k)], []⟩) _ _ ⟨0, rfl, Nat.zero_le _, rfl, rfl⟩ (by (refine le_ofL rfl ?_ ?_ <;> (repeat (first | exact trivial | refine ⟨⟨rfl, rfl⟩, ?_⟩ | refine ⟨rfl, .inl rfl, ?_⟩ | refine ⟨rfl, .inr rfl, ?_⟩)))) ?_
  rintro m S ⟨k, rfl, hk, hok, rfl⟩
  repeat' (first | refine W.seq ?_ | refine W.rg ?_ | refine W.block ?_ | refine W.skip ?_ | refine W.exit ?_ | refine WG.nil ?_ | refine WG.run' (E := env) ?_ | refine WG.ixm' (E := env) ?_ | ((refine W.cond' (fun h => ?_) fun h => ?_) <;> (try simp only [atS, List.length_map, beq_self_eq_true] at h) <;> (try (exfalso; first | contradiction | omega))))
  · (refine W.ret ?_; (first | refine RetQ.b' ?_))
    simp only [Int.toNat_natCast] at *
    refine (among_mem (k := k) ?_).symm
    subst_vars
    simp [List.getD_eq_getElem?_getD, show k < l.length by omega]
  · refine ⟨_, _, ?_, ⟨k + 1, rfl, by omega, ?_, rfl⟩, (by (refine le_ofL rfl ?_ ?_ <;> (repeat (first | exact trivial | refine ⟨⟨rfl, rfl⟩, ?_⟩ | refine ⟨rfl, .inl rfl, ?_⟩ | refine ⟨rfl, .inr rfl, ?_⟩))))⟩
    · omega
    · rw [among_take s l k (l.getD k default) (by simp [show k < l.length by omega]), hok]
      simp only [Int.toNat_natCast] at *
      simp; rintro rfl; contradiction
  · (refine W.ret ?_; (first | refine RetQ.b' ?_))
    have : k = l.length := by omega
    subst this
    simpa using hok.symm

theorem isWordS_fn (s : ByteArray) : Fun env.P 103 [dS s] (.d (dB (among wordsL s))) [] := by
  refine Fun.intro Tryz.func103 rfl (by kernel_rfl) rfl ?_
  repeat' (first | refine W.seq ?_ | refine W.rg ?_ | refine WG.nil ?_ | refine WG.run' (E := env) ?_ | refine WG.c (E := env) rfl rfl (words_fn) rfl rfl ?_ | refine WG.c (E := env) rfl rfl (among_fn wordsL s (by decide)) rfl rfl ?_)
  (refine W.ret ?_; (first | refine RetQ.b' ?_))
  rfl

end Go.Proofs.YtmmjbpgdkokjgaaGreat
end

section
set_option linter.unusedVariables false
set_option linter.unusedSimpArgs false
set_option maxRecDepth 100000
namespace Go.Proofs.YtmmjbpgdkokjgaaGreat
open Go.RowKit

theorem among_iff {l : List ByteArray} {s : ByteArray} : among l s = true ↔ s ∈ l := by
  induction l with
  | nil => simp [among]
  | cons x r ih => simp [among, ih]

abbrev txtRow (x : ByteArray) : List D := [dS x]

abbrev namesD (l : List ByteArray) : D := .sl 1 (l.map txtRow)

set_option maxHeartbeats 1000000 in
theorem indexS_fn (sl : List ByteArray) (x : ByteArray) (hl : sl.length ≤ 1048576) : ∃ r : Int, ((0 ≤ r) ↔ among sl x = true) ∧ Fun env.P 109 [namesD sl, dS x] (.d (dI r)) [] := by
  rw [among_iff]
  by_cases hm : x ∈ sl
  · obtain ⟨p, hp, hpx, hmin⟩ : ∃ p, p < sl.length ∧ sl.getD p default = x ∧ ∀ q, q < p → sl.getD q default ≠ x := by
      have hex : ∃ p, p < sl.length ∧ sl.getD p default = x := by
        obtain ⟨p, hp, rfl⟩ := List.getElem_of_mem hm
        exact ⟨p, hp, by simp [hp]⟩
      obtain ⟨p, ⟨h1, h2⟩, h3⟩ := exists_least hex
      exact ⟨p, h1, h2, fun q hq e => by have := h3 q ⟨by omega, e⟩; omega⟩
    refine ⟨p, ⟨fun _ => hm, fun _ => by omega⟩, ?_⟩
    refine Fun.intro Tryz.func109 rfl (by kernel_rfl) rfl ?_
    repeat' (first | refine W.seq ?_ | refine W.rg ?_ | refine W.block ?_ | refine W.skip ?_ | refine W.exit ?_ | refine WG.nil ?_ | refine WG.run' (E := env) ?_ | refine WG.ixm' (E := env) ?_ | ((refine W.cond' (fun h => ?_) fun h => ?_) <;> (try simp only [atS, List.length_map, beq_self_eq_true] at h) <;> (try (exfalso; first | contradiction | omega))))
    refine W.loop (fun m S => ∃ i : Nat, m = sl.length - i ∧ i ≤ p ∧ S = ⟨ofL [(0, .d (namesD sl)), (1, vS x), (7, vI .i64 (sl.map txtRow).length), (8, vI .i64 i)], []⟩) _ _ ⟨0, rfl, by omega, rfl⟩ (by (refine le_ofL rfl ?_ ?_ <;> (repeat (first | exact trivial | refine ⟨⟨rfl, rfl⟩, ?_⟩ | refine ⟨rfl, .inl rfl, ?_⟩ | refine ⟨rfl, .inr rfl, ?_⟩)))) ?_
    rintro m S ⟨i, rfl, hi, rfl⟩
    repeat' (first | refine W.seq ?_ | refine W.rg ?_ | refine W.block ?_ | refine W.skip ?_ | refine W.exit ?_ | refine WG.nil ?_ | refine WG.run' (E := env) ?_ | refine WG.ixm' (E := env) ?_ | ((refine W.cond' (fun h => ?_) fun h => ?_) <;> (try simp only [atS, List.length_map, beq_self_eq_true] at h) <;> (try (exfalso; first | contradiction | omega))))
    all_goals (try simp only [Int.toNat_natCast] at *)
    · have e : i = p := by
        by_cases h : i < p
        · exact absurd (by simp_all) (hmin i h)
        · omega
      (refine W.ret ?_; (first | refine RetQ.i' ?_))
      rw [e]
    · have e : i ≠ p := fun e => by subst e; simp_all
      exact ⟨_, _, by omega, ⟨i + 1, rfl, by omega, rfl⟩, (by (refine le_ofL rfl ?_ ?_ <;> (repeat (first | exact trivial | refine ⟨⟨rfl, rfl⟩, ?_⟩ | refine ⟨rfl, .inl rfl, ?_⟩ | refine ⟨rfl, .inr rfl, ?_⟩))))⟩
  · refine ⟨-1, ⟨fun h => by omega, fun h => absurd h hm⟩, ?_⟩
    refine Fun.intro Tryz.func109 rfl (by kernel_rfl) rfl ?_
    repeat' (first | refine W.seq ?_ | refine W.rg ?_ | refine W.block ?_ | refine W.skip ?_ | refine W.exit ?_ | refine WG.nil ?_ | refine WG.run' (E := env) ?_ | refine WG.ixm' (E := env) ?_ | ((refine W.cond' (fun h => ?_) fun h => ?_) <;> (try simp only [atS, List.length_map, beq_self_eq_true] at h) <;> (try (exfalso; first | contradiction | omega))))
    refine W.loop (fun m S => ∃ i : Nat, m = sl.length - i ∧ i ≤ sl.length ∧ S = ⟨ofL [(0, .d (namesD sl)), (1, vS x), (7, vI .i64 (sl.map txtRow).length), (8, vI .i64 i)], []⟩) _ _ ⟨0, rfl, by omega, rfl⟩ (by (refine le_ofL rfl ?_ ?_ <;> (repeat (first | exact trivial | refine ⟨⟨rfl, rfl⟩, ?_⟩ | refine ⟨rfl, .inl rfl, ?_⟩ | refine ⟨rfl, .inr rfl, ?_⟩)))) ?_
    rintro m S ⟨i, rfl, hi, rfl⟩
    have hne : i < sl.length → sl.getD i default ≠ x := fun h e => hm (e ▸ getD_mem' h)
    repeat' (first | refine W.seq ?_ | refine W.rg ?_ | refine W.block ?_ | refine W.skip ?_ | refine W.exit ?_ | refine WG.nil ?_ | refine WG.run' (E := env) ?_ | refine WG.ixm' (E := env) ?_ | ((refine W.cond' (fun h => ?_) fun h => ?_) <;> (try simp only [atS, List.length_map, beq_self_eq_true] at h) <;> (try (exfalso; first | contradiction | omega))))
    all_goals (try simp only [Int.toNat_natCast] at *)
    · exfalso
      exact hne (by omega) (by simp_all)
    · exact ⟨_, _, by omega, ⟨i + 1, rfl, by omega, rfl⟩, (by (refine le_ofL rfl ?_ ?_ <;> (repeat (first | exact trivial | refine ⟨⟨rfl, rfl⟩, ?_⟩ | refine ⟨rfl, .inl rfl, ?_⟩ | refine ⟨rfl, .inr rfl, ?_⟩))))⟩
    · (refine W.ret ?_; (first | refine RetQ.i' ?_))
      rfl

theorem containsS_fn (sl : List ByteArray) (x : ByteArray) (hl : sl.length ≤ 1048576) : Fun env.P 95 [namesD sl, dS x] (.d (dB (among sl x))) [] := by
  obtain ⟨r, hr, h⟩ := indexS_fn sl x hl
  refine Fun.intro Tryz.func95 rfl (by kernel_rfl) rfl ?_
  repeat' (first | refine W.seq ?_ | refine W.rg ?_ | refine WG.nil ?_ | refine WG.run' (E := env) ?_ | refine WG.c (E := env) rfl rfl (h) rfl rfl ?_)
  (refine W.ret ?_; (first | refine RetQ.b' ?_))
  cases hb : among sl x with
  | true => have := hr.2 hb; simp [this]
  | false =>
    have : ¬ 0 ≤ r := fun h0 => by rw [hr.1 h0] at hb; cases hb
    simp; omega

set_option maxHeartbeats 1000000 in
theorem cloneNs_fn (sl : List ByteArray) (hl : sl.length ≤ 1048576) : Fun env.P 73 [namesD sl] (.og 0 0) [.gr 1 9 (sl.map txtRow) 0 false] := by
  refine Fun.intro Tryz.func73 rfl (by kernel_rfl) rfl ?_
  repeat (first | refine W.seq ?_ | refine W.rg ?_ | refine W.skip ?_ | refine W.cond_true' ?_ | refine W.cond_false' ?_ | refine WG.nil ?_ | refine WG.run' (E := env) ?_ | refine WG.ap' (E := env) ?_)
  refine WG.nilB (E := env) rfl rfl rfl rfl ?_
  intro b hb
  cases b with
  | true =>
    have h0 := hb rfl
    rw [h0]
    repeat' (first | refine W.seq ?_ | refine W.rg ?_ | refine W.skip ?_ | refine W.cond_true' ?_ | refine W.cond_false' ?_ | refine WG.nil ?_ | refine WG.run' (E := env) ?_ | refine WG.ap' (E := env) ?_)
    refine W.ret ?_
    exact RetR.gn'
  | false =>
    repeat' (first | refine W.seq ?_ | refine W.rg ?_ | refine W.skip ?_ | refine W.cond_true' ?_ | refine W.cond_false' ?_ | refine WG.nil ?_ | refine WG.run' (E := env) ?_ | refine WG.ap' (E := env) ?_)
    refine W.ret ?_
    exact RetQ.own (tt := .og 0 1) 0 1 (.inl rfl) rfl (by first | trivial | exact resOK_of (E := env) rfl) rfl rfl rfl rfl rfl

end Go.Proofs.YtmmjbpgdkokjgaaGreat
end
