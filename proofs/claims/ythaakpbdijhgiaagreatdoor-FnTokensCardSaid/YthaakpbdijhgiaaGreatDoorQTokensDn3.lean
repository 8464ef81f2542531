/-
  A number's text, by the program and by the reference: DecodeNumber. Conditions: texts of at most 2^20 bytes; the variable strconv.ErrRange holds something.
-/
import Derived.Test.YthaakpbdijhgiaaGreatDoorQTokensW2
import Derived.Test.YthaakpbdijhgiaaGreatDoorQTokensDn1
import Derived.Test.YthaakpbdijhgiaaGreatDoorQTokensDn2
import Derived.Test.YthaakpbdijhgiaaGreatDoorQTokensLs
import Derived.Shelf.Strconv.ParseIntPublic10
import Derived.Shelf.Strings.Prefix
import Derived.Lib.AtoiErrMem
set_option linter.unusedVariables false
set_option linter.unusedSimpArgs false
set_option maxRecDepth 100000
namespace Go.Proofs.YthaakpbdijhgiaaGreatDoor
open Go.RowKit

/-- The digits of a text, as a text. -/
def digT (s : ByteArray) : ByteArray := ⟨(digL s).toArray⟩
theorem digT_size (s : ByteArray) : (digT s).size = s.size - sgnM s := by
  show (digL s).toArray.size = _
  rw [List.size_toArray, digL_length]
theorem trim_digT (s : ByteArray) : (⟨(Lib.trimPrefix s.data.toList [45]).toArray⟩ : ByteArray) = digT s := by
  unfold digT
  congr 2
  unfold digL sgnM byteAt Lib.trimPrefix Lib.hasPrefix
  have hsz : s.size = s.data.toList.length := rfl
  rw [hsz]
  generalize s.data.toList = l
  cases l with
  | nil => simp
  | cons c r =>
    by_cases h : c = 45
    · subst h
      simp
    · have h2 : ¬ (c.toNat : Int) = 45 := by
        intro h3
        apply h
        apply UInt8.toNat_inj.1
        have : c.toNat = 45 := by omega
        rw [this]
        rfl
      simp [h, h2, Ne.symm h]

/-- What the digits of a text spell. -/
def numD (s : ByteArray) : Nat := digs 0 (digL s)
def numVal (s : ByteArray) : Int := if sgnM s = 1 then -(numD s : Int) else numD s
theorem sgn_cons {s : ByteArray} (h : sgnM s = 1) : s.data.toList = 45 :: digL s := by
  have h2 : 0 < s.size ∧ byteAt s 0 = 45 := by
    unfold sgnM at h
    split at h
    · assumption
    · cases h
  unfold digL
  rw [h]
  unfold byteAt at h2
  have hsz : s.size = s.data.toList.length := rfl
  rw [hsz] at h2
  generalize s.data.toList = l at *
  cases l with
  | nil => simp at h2
  | cons c r =>
    have h3 : c.toNat = 45 := by
      have := h2.2
      simp at this
      omega
    have : c = 45 := UInt8.toNat_inj.1 (by rw [h3]; rfl)
    subst this
    rfl

theorem parse_s {s : ByteArray} (h : numOK s = true) : Lib.parseIntB 64 s.data.toList = .ok (numVal s) ∨ (Lib.parseIntB 64 s.data.toList = .range ∧ 1000000000000000 < numD s) := by
  obtain ⟨hd, hne⟩ := numOK_digits h
  unfold numVal
  by_cases h1 : sgnM s = 1
  · rw [if_pos h1, sgn_cons h1]
    obtain ⟨p1, p2⟩ := parseI_neg hd hne
    by_cases h2 : numD s ≤ 9223372036854775808
    · exact .inl (p1 h2)
    · exact .inr ⟨p2 (by unfold numD at h2; omega), by omega⟩
  · have h0 : sgnM s = 0 := by have := sgnM_le s; omega
    have hl : s.data.toList = digL s := by unfold digL; rw [h0, List.drop_zero]
    rw [if_neg h1, hl]
    obtain ⟨p1, p2⟩ := parseI_pos hd hne
    by_cases h2 : numD s < 9223372036854775808
    · exact .inl (p1 h2)
    · exact .inr ⟨p2 (by unfold numD at h2; omega), by omega⟩

/-! ### the library's functions -/

theorem entersD {P : Program} {f : FuncId} {fn : Func} {c : Code} (hf : P.funcs[f]? = some fn) (hb : fn.body = some c) (hname : (fn.name == "runtime.NumGoroutine") = false) (vals : Array Value) (w : World) :
    (callFunc f vals).run P w = .ok (.enter f vals) w := by
  unfold callFunc
  simp only [Sem.run_bind, run_program, Result.andThen_ok, hf, hname, hb, Bool.false_eq_true, if_false, Option.isNone_some, Sem.run_pure]

theorem TrimPrefix_fn (s : ByteArray) : Fun env.P 74 [dS s, dS ⟨#[45]⟩] (.d (dS (digT s))) [] := by
  refine Fun.ofRaw (entersD Tryz.func74 (c := _) rfl (by kernel_rfl)) fun w σ0 vals hσ hl hr => ?_
  match vals, hl with
  | [v0, v1], _ =>
    have h0 : v0 = .string s := by have := hr 0 _ v0 rfl rfl; cases this; rfl
    have h1 : v1 = .string ⟨#[45]⟩ := by have := hr 1 _ v1 rfl rfl; cases this; rfl
    subst h0; subst h1
    refine (Any.strings_TrimPrefix lays101 s ⟨#[45]⟩ w).mono fun e w' ⟨he, hw⟩ => ?_
    subst he; subst hw
    refine ⟨_, rfl, .refl _ _, fun g => ?_⟩
    rw [show (⟨(Lib.trimPrefix s.data.toList (⟨#[45]⟩ : ByteArray).data.toList).toArray⟩ : ByteArray) = digT s from trim_digT s]
    exact .d _ _ (.v _)

theorem rt_tup2 {g : Gh} {x y : T} {u v : Value} (hx : RT g x u) (hy : RT g y v) : RT g (.tup [x, y]) (.tuple #[u, v]) :=
  .tup _ [u, v] rfl fun i z w hz hw => by
    match i with
    | 0 =>
      simp only [List.getElem?_cons_zero, Option.some.injEq] at hz hw
      subst hz; subst hw
      exact hx
    | 1 =>
      simp only [List.getElem?_cons_succ, List.getElem?_cons_zero, Option.some.injEq] at hz hw
      subst hz; subst hw
      exact hy
    | i + 2 => simp at hz

theorem ParseInt_ok (s : ByteArray) (hs : s.size ≤ 1048576) (v : Int) (h : Lib.parseIntB 64 s.data.toList = .ok v) : Fun env.P 73 [dS s, dI 10, dI 64] (.tup [.d (dI v), .d (.v .nilIface)]) [] := by
  refine Fun.ofRaw (entersD Tryz.func73 (c := _) rfl (by kernel_rfl)) fun w σ0 vals hσ hl hr => ?_
  match vals, hl with
  | [v0, v1, v2], _ =>
    have h0 : v0 = .string s := by have := hr 0 _ v0 rfl rfl; cases this; rfl
    have h1 : v1 = .int .i64 10 := by have := hr 1 _ v1 rfl rfl; cases this; rfl
    have h2 : v2 = .int .i64 64 := by have := hr 2 _ v2 rfl rfl; cases this; rfl
    subst h0; subst h1; subst h2
    refine (Any.strconv_ParseInt_10_at64_ok lays174 s (by omega) v h w).mono fun e w' ⟨he, hw⟩ => ?_
    subst he
    refine ⟨_, rfl, ?_, fun g => rt_tup2 (.d _ _ (.v _)) (.d _ _ (.v _))⟩
    rcases hw with rfl | ⟨t, rfl⟩
    · exact .refl _ _
    · exact Lib.bytesWorld_below _ _ _

/-! ### the program's functions -/

end Go.Proofs.YthaakpbdijhgiaaGreatDoor
