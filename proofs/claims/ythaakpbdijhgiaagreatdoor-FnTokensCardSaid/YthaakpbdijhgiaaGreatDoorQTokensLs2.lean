/-
  Texts of this claim in one. Conditions: none.
-/
import Derived.Test.YthaakpbdijhgiaaGreatDoorQTokensLx2
import Derived.Test.YthaakpbdijhgiaaGreatDoorQTokensDn3
import Derived.Shelf.LaysC
import Derived.Shelf.LaysM
import Derived.Shelf.Strings.BuilderX
import Derived.Test.YthaakpbdijhgiaaGreatDoorProg
section
set_option linter.unusedVariables false
set_option linter.unusedSimpArgs false
set_option maxRecDepth 100000
namespace Go.Proofs.YthaakpbdijhgiaaGreatDoor
open Go.RowKit

theorem decS_sgn (n : Nat) (h : 0 < (decS n).size) : sgnM (decS n) = 0 := by
  have h1 := decS_byte n 0 h
  unfold sgnM
  rw [if_neg]
  rintro ⟨_, e⟩
  rw [e] at h1
  exact absurd h1 (by decide)
theorem decS_ok (n : Nat) (h : n < 18446744073709551616) : numOK (decS n) = true := by
  have hs := decS_size n h
  have h0 := decS_sgn n (by omega)
  have hr := (Sits.whole (decS n)).run (p := digitB) (by decide) 0 (by omega) fun j _ hj => decS_byte n j hj
  unfold numOK
  rw [h0]
  have hf := @decS_first n
  simp only [Bool.and_eq_true, Bool.or_eq_true, decide_eq_true_eq]
  refine ⟨⟨by omega, by simpa using hr⟩, ?_⟩
  rcases hf with hf | hf
  · exact .inl hf
  · exact .inr (by omega)
theorem decS_num (n : Nat) (h : n < 18446744073709551616) : numD (decS n) = n ∧ numVal (decS n) = n := by
  have hs := decS_size n h
  have h0 := decS_sgn n (by omega)
  have h1 : numD (decS n) = n := by
    unfold numD digL
    rw [h0, List.drop_zero]
    exact (dd_facts n).2.1
  refine ⟨h1, ?_⟩
  unfold numVal
  rw [if_neg (by omega), h1]
theorem decS_16 (n : Nat) (h : n ≤ 1000000000000000) : (decS n).size ≤ 16 := dd_len 15 n (by omega)

set_option maxHeartbeats 2000000 in
/-- A number of at most 16 digits is read as itself. -/
theorem numberOf_dec (n : Nat) (h : n ≤ 1000000000000000) : Fun env.P 54 [dS (decS n)] (.tup [.d (dI n), .d (dI 0)]) [] := by
  have hs := decS_16 n h
  have hok := decS_ok n (by omega)
  obtain ⟨h1, h2⟩ := decS_num n (by omega)
  have h0 := decS_sgn n (by have := decS_size n (by omega); omega)
  have hT := TrimPrefix_fn (decS n)
  have hd := digT_size (decS n)
  have hw := fun n => within_fn n (-1000000000000000) 1000000000000000
  rcases parse_s hok with hp | ⟨hp, hbig⟩
  · rw [h2] at hp
    have hP := ParseInt_ok (decS n) (by omega) _ hp
    refine Fun.intro Tryz.func54 rfl (by kernel_rfl) rfl ?_
    repeat' (first | refine WG.ifNil (E := env) rfl rfl (by kernel_rfl) rfl ?_ | refine W.seq ?_ | refine W.rg ?_ | refine W.dra' ?_ | refine W.block ?_ | refine W.skip ?_ | refine W.exit ?_ | refine W.cond_true' ?_ | refine W.cond_false' ?_ | refine WG.nil ?_ | refine WG.run' (E := env) ?_ | refine WG.gt' ?_ | refine WG.gf' ?_ | refine WG.ixm' (E := env) ?_ | refine WG.ixo' (E := env) ?_ | refine WG.legm' (E := env) ?_ | refine WG.slS' (E := env) ?_ | refine WG.slD' (E := env) ?_ | refine WG.ap' (E := env) ?_ | refine WD.nil ?_ | refine WD.bs' (E := env) ?_ | refine WD.s' (E := env) (t := .d _) ?_ | refine WD.p' ?_ | refine WD.px' ?_ | refine WD.s' (E := env) (t := .ea _ _) ?_ | refine WD.s' (E := env) (t := .lp _ _) ?_ | refine WD.s' (E := env) (t := .og _ _) ?_ | refine WD.s' (E := env) (t := .agg _) ?_ | refine WD.s' (E := env) (t := .tup _) ?_ | refine WD.s' (E := env) (t := .clo _ _) ?_ | refine WD.ixm' (E := env) ?_ | refine WD.ixo' (E := env) ?_ | refine WD.legm' (E := env) ?_ | refine WD.slS' (E := env) ?_ | refine WD.slD' (E := env) ?_ | refine WG.c (E := env) rfl rfl (hP) rfl rfl ?_ | refine WD.c (E := env) rfl rfl (hP) rfl rfl ?_ | refine WG.co (E := env) rfl rfl (hP) rfl rfl rfl rfl ?_ | refine WG.cx (E := env) rfl (hP) rfl ?_ | refine WG.c (E := env) rfl rfl (hT) rfl rfl ?_ | refine WD.c (E := env) rfl rfl (hT) rfl rfl ?_ | refine WG.co (E := env) rfl rfl (hT) rfl rfl rfl rfl ?_ | refine WG.cx (E := env) rfl (hT) rfl ?_ | refine WG.c (E := env) rfl rfl (hw _) rfl rfl ?_ | refine WD.c (E := env) rfl rfl (hw _) rfl rfl ?_ | refine WG.co (E := env) rfl rfl (hw _) rfl rfl rfl rfl ?_ | refine WG.cx (E := env) rfl (hw _) rfl ?_ | ((first | refine WG.sp' (fun h => ?_) fun h => ?_ | refine W.cond' (fun h => ?_) fun h => ?_ | refine WD.sp' (fun h => ?_) fun h => ?_) <;> (try simp only [decide_eq_true_eq, decide_eq_false_iff_not, Bool.not_eq_true', Bool.not_eq_false', Bool.and_eq_true, Bool.or_eq_true, Bool.and_eq_false_iff, Bool.or_eq_false_iff, Bool.not_eq_true, Bool.not_eq_false, Int.not_lt, Int.not_le, List.length_map, beq_self_eq_true, Bool.true_eq_false, Bool.false_eq_true] at h) <;> (try (exfalso; first | contradiction | omega))))
    all_goals first | (exfalso; omega) | skip
    all_goals (refine W.ret ?_; (first | refine RetQ.b' ?_ | refine RetQ.i' ?_ | refine RetQ.d' ?_ | refine RetQ.t2' ?_ ?_ | refine RetQ.t3' ?_ ?_ ?_))
    all_goals rfl
  · omega

end Go.Proofs.YthaakpbdijhgiaaGreatDoor
end

section
namespace Go.Proofs.YthaakpbdijhgiaaGreatDoor
open Go.Shelf

def lays99_ren : Go.Shelf.Ren := ⟨fun | 99 => 36 | 206 => 60 | n => n, fun | 9 => 9 | 4 => 4 | 3 => 3 | n => n, fun n => n⟩

theorem lays99 : Lays.n99 Tryz.prog lays99_ren := {
  mixed := by kernel_rfl,
  f99 := Tryz.func36.trans (congrArg some (by kernel_rfl)),
  f206 := Tryz.func60.trans (congrArg some (by kernel_rfl)),
  t3 := Tryz.underlying3,
  a3 := Tryz.isAgg3,
  z3 := Tryz.sizeOf3,
  v3 := Tryz.zeroValue3,
  t4 := Tryz.underlying4,
  a4 := Tryz.isAgg4,
  z4 := Tryz.sizeOf4,
  v4 := Tryz.zeroValue4,
  t9 := Tryz.underlying9,
  a9 := Tryz.isAgg9,
  z9 := Tryz.sizeOf9,
  v9 := Tryz.zeroValue9 }

end Go.Proofs.YthaakpbdijhgiaaGreatDoor
end
