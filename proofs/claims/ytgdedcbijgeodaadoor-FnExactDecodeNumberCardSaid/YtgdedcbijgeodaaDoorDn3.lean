/-
  A number's text, by the program and by the reference: DecodeNumber. Conditions: texts of at most 2^20 bytes; the variable strconv.ErrRange holds something.
-/
import Derived.Test.YtgdedcbijgeodaaDoorW2
import Derived.Test.YtgdedcbijgeodaaDoorDn1
import Derived.Test.YtgdedcbijgeodaaDoorDn2
import Derived.Test.YtgdedcbijgeodaaDoorLs
import Derived.Shelf.Strconv.ParseIntPublic10
import Derived.Shelf.Strings.Prefix
import Derived.Lib.AtoiErrMem
set_option linter.unusedVariables false
set_option linter.unusedSimpArgs false
set_option maxRecDepth 100000
namespace Go.Proofs.YtgdedcbijgeodaaDoor
open Go.RowKit

/-- The digits of a text, as a text. -/
def digT (s : ByteArray) : ByteArray := ⟨(digL s).toArray⟩
theorem digT_size (s : ByteArray) : (digT s).size = s.size - sgnM s := by
  show (digL s).toArray.size = _
  rw [List.size_toArray, digL_length]
theorem digT_byte (s : ByteArray) (k : Nat) : byteAt (digT s) k = byteAt s (sgnM s + k) := by
  unfold byteAt digT digL
  simp [List.getD_eq_getElem?_getD, List.getElem?_drop]

theorem trim_digT (s : ByteArray) : (⟨(Lib.trimPrefix s.data.toList [45]).toArray⟩ : ByteArray) = digT s := by
  unfold digT
  congr 2
  unfold digL sgnM byteAt Lib.trimPrefix Lib.hasPrefix
  have hsz : s.size = s.data.toList.length := rfl
  rw [hsz]
  generalize s.data.toList = l
  cases l with
  | nil => simp
  | cons c r =>
    by_cases h : c = 45
    · subst h
      simp
    · have h2 : ¬ (c.toNat : Int) = 45 := by
        intro h3
        apply h
        apply UInt8.toNat_inj.1
        have : c.toNat = 45 := by omega
        rw [this]
        rfl
      simp [h, h2, Ne.symm h]

theorem runTo_digT (p : Int → Bool) (s : ByteArray) : ∀ (n k : Nat), runTo p (digT s) n k + sgnM s = runTo p s n (sgnM s + k)
  | 0, k => by simp only [runTo]; omega
  | n + 1, k => by
    have ih := runTo_digT p s n (k + 1)
    have hs := sgnM_le s
    simp only [runTo, digT_byte, digT_size]
    by_cases h : sgnM s + k < s.size ∧ p (byteAt s (sgnM s + k)) = true
    · rw [if_pos h, if_pos ⟨by omega, h.2⟩, ih]
      rfl
    · rw [if_neg h, if_neg (fun h' => h ⟨by omega, h'.2⟩)]
      omega
theorem runOf_digT (p : Int → Bool) (s : ByteArray) : runOf p (digT s) 0 + sgnM s = runOf p s (sgnM s) := by
  have h := runTo_digT p s (s.size - sgnM s) 0
  unfold runOf
  rw [digT_size, Nat.sub_zero, h, Nat.add_zero]

/-- What the digits of a text spell. -/
def numD (s : ByteArray) : Nat := digs 0 (digL s)
def numVal (s : ByteArray) : Int := if sgnM s = 1 then -(numD s : Int) else numD s
/-- The code and the number of a text. -/
def numR (s : ByteArray) : Int × Int := if numOK s = true then (if s.size - sgnM s ≤ 16 ∧ numD s ≤ 1000000000000000 then (0, numVal s) else (3, 0)) else (5, 0)

theorem numVal_is (s : ByteArray) : numVal s = numD s ∨ numVal s = -(numD s : Int) := by
  unfold numVal
  split
  · exact .inr rfl
  · exact .inl rfl

theorem sgn_cons {s : ByteArray} (h : sgnM s = 1) : s.data.toList = 45 :: digL s := by
  have h2 : 0 < s.size ∧ byteAt s 0 = 45 := by
    unfold sgnM at h
    split at h
    · assumption
    · cases h
  unfold digL
  rw [h]
  unfold byteAt at h2
  have hsz : s.size = s.data.toList.length := rfl
  rw [hsz] at h2
  generalize s.data.toList = l at *
  cases l with
  | nil => simp at h2
  | cons c r =>
    have h3 : c.toNat = 45 := by
      have := h2.2
      simp at this
      omega
    have : c = 45 := UInt8.toNat_inj.1 (by rw [h3]; rfl)
    subst this
    rfl

theorem parse_s {s : ByteArray} (h : numOK s = true) : Lib.parseIntB 64 s.data.toList = .ok (numVal s) ∨ (Lib.parseIntB 64 s.data.toList = .range ∧ 1000000000000000 < numD s) := by
  obtain ⟨hd, hne⟩ := numOK_digits h
  unfold numVal
  by_cases h1 : sgnM s = 1
  · rw [if_pos h1, sgn_cons h1]
    obtain ⟨p1, p2⟩ := parseI_neg hd hne
    by_cases h2 : numD s ≤ 9223372036854775808
    · exact .inl (p1 h2)
    · exact .inr ⟨p2 (by unfold numD at h2; omega), by omega⟩
  · have h0 : sgnM s = 0 := by have := sgnM_le s; omega
    have hl : s.data.toList = digL s := by unfold digL; rw [h0, List.drop_zero]
    rw [if_neg h1, hl]
    obtain ⟨p1, p2⟩ := parseI_pos hd hne
    by_cases h2 : numD s < 9223372036854775808
    · exact .inl (p1 h2)
    · exact .inr ⟨p2 (by unfold numD at h2; omega), by omega⟩

theorem numD_few {s : ByteArray} (h : numOK s = true) (hl : s.size - sgnM s ≤ 16) : numD s < 10000000000000000 := by
  obtain ⟨hd, _⟩ := numOK_digits h
  have h1 := digs_lt (digL s) 0 hd
  rw [digL_length] at h1
  have h2 : 10 ^ (s.size - sgnM s) ≤ 10 ^ 16 := Nat.pow_le_pow_right (by omega) hl
  have h3 : (10 : Nat) ^ 16 = 10000000000000000 := by decide
  rw [h3] at h2
  unfold numD
  generalize (10 : Nat) ^ (s.size - sgnM s) = q at *
  omega

/-! ### the library's functions -/

theorem entersD {P : Program} {f : FuncId} {fn : Func} {c : Code} (hf : P.funcs[f]? = some fn) (hb : fn.body = some c) (hname : (fn.name == "runtime.NumGoroutine") = false) (vals : Array Value) (w : World) :
    (callFunc f vals).run P w = .ok (.enter f vals) w := by
  unfold callFunc
  simp only [Sem.run_bind, run_program, Result.andThen_ok, hf, hname, hb, Bool.false_eq_true, if_false, Option.isNone_some, Sem.run_pure]

theorem TrimPrefix_fn (s : ByteArray) : Fun env.P 9 [dS s, dS ⟨#[45]⟩] (.d (dS (digT s))) [] := by
  refine Fun.ofRaw (entersD Tryd.func9 (c := _) rfl (by kernel_rfl)) fun w σ0 vals hσ hl hr => ?_
  match vals, hl with
  | [v0, v1], _ =>
    have h0 : v0 = .string s := by have := hr 0 _ v0 rfl rfl; cases this; rfl
    have h1 : v1 = .string ⟨#[45]⟩ := by have := hr 1 _ v1 rfl rfl; cases this; rfl
    subst h0; subst h1
    refine (Any.strings_TrimPrefix lays101 s ⟨#[45]⟩ w).mono fun e w' ⟨he, hw⟩ => ?_
    subst he; subst hw
    refine ⟨_, rfl, .refl _ _, fun g => ?_⟩
    rw [show (⟨(Lib.trimPrefix s.data.toList (⟨#[45]⟩ : ByteArray).data.toList).toArray⟩ : ByteArray) = digT s from trim_digT s]
    exact .d _ _ (.v _)

theorem rt_tup2 {g : Gh} {x y : T} {u v : Value} (hx : RT g x u) (hy : RT g y v) : RT g (.tup [x, y]) (.tuple #[u, v]) :=
  .tup _ [u, v] rfl fun i z w hz hw => by
    match i with
    | 0 =>
      simp only [List.getElem?_cons_zero, Option.some.injEq] at hz hw
      subst hz; subst hw
      exact hx
    | 1 =>
      simp only [List.getElem?_cons_succ, List.getElem?_cons_zero, Option.some.injEq] at hz hw
      subst hz; subst hw
      exact hy
    | i + 2 => simp at hz

theorem ParseInt_ok (s : ByteArray) (hs : s.size ≤ 1048576) (v : Int) (h : Lib.parseIntB 64 s.data.toList = .ok v) : Fun env.P 15 [dS s, dI 10, dI 64] (.tup [.d (dI v), .d (.v .nilIface)]) [] := by
  refine Fun.ofRaw (entersD Tryd.func15 (c := _) rfl (by kernel_rfl)) fun w σ0 vals hσ hl hr => ?_
  match vals, hl with
  | [v0, v1, v2], _ =>
    have h0 : v0 = .string s := by have := hr 0 _ v0 rfl rfl; cases this; rfl
    have h1 : v1 = .int .i64 10 := by have := hr 1 _ v1 rfl rfl; cases this; rfl
    have h2 : v2 = .int .i64 64 := by have := hr 2 _ v2 rfl rfl; cases this; rfl
    subst h0; subst h1; subst h2
    refine (Any.strconv_ParseInt_10_at64_ok lays174 s (by omega) v h w).mono fun e w' ⟨he, hw⟩ => ?_
    subst he
    refine ⟨_, rfl, ?_, fun g => rt_tup2 (.d _ _ (.v _)) (.d _ _ (.v _))⟩
    rcases hw with rfl | ⟨t, rfl⟩
    · exact .refl _ _
    · exact Lib.bytesWorld_below _ _ _

/-- Where strconv.ErrRange lies. -/
abbrev gER : Nat := lays174_ren.g 16
abbrev tNE : TypeId := lays174_ren.t 168

theorem ParseInt_range (s : ByteArray) (hs : s.size ≤ 1048576) (u : Value) (hu : u = .nilIface ∨ ∃ te pe, u = .iface te pe) (h : Lib.parseIntB 64 s.data.toList = .range) :
    FunQ env.P 15 [.d (dS s), .d (dI 10), .d (dI 64)] [.x (gvX gER u) 0] (just (.tup [.d (dI (Lib.intSat 64 s.data.toList)), .ifc tNE .any]) [.x (gvX gER u) 0]) := by
  refine FunQ.ofRawG (args := [dS s, dI 10, dI 64]) (entersD Tryd.func15 (c := _) rfl (by kernel_rfl)) fun w σ0 vals hσ hc hl hr => ?_
  match vals, hl with
  | [v0, v1, v2], _ =>
    have h0 : v0 = .string s := by have := hr 0 _ v0 rfl rfl; cases this; rfl
    have h1 : v1 = .int .i64 10 := by have := hr 1 _ v1 rfl rfl; cases this; rfl
    have h2 : v2 = .int .i64 64 := by have := hr 2 _ v2 rfl rfl; cases this; rfl
    subst h0; subst h1; subst h2
    refine (Any.strconv_ParseInt_10_at64_range lays174 s (by omega) h u w hc hu).mono fun e w' ⟨N, he, _, _, hw⟩ => ?_
    subst he
    exact ⟨_, rfl, hw, fun g => rt_tup2 (.d _ _ (.v _)) (.ifc _ _ _ (.any _))⟩

/-! ### the program's functions -/

theorem isDigitS_fn (c : Int) : Fun env.P 14 [dY c] (.d (dB (digitB c))) [] := isDigit_fn c

set_option maxHeartbeats 1000000 in
theorem digitsAt_fn (s : ByteArray) (hs : s.size ≤ 1048576) : Fun env.P 10 [dS s, dI 0] (.d (dI (runOf digitB s 0))) [] := by
  refine Fun.intro Tryd.func10 rfl (by kernel_rfl) rfl ?_
  repeat' (first | refine W.seq ?_ | refine W.rg ?_ | refine W.dra' ?_ | refine W.block ?_ | refine W.skip ?_ | refine W.exit ?_ | refine W.cond_true' ?_ | refine W.cond_false' ?_ | refine WG.nil ?_ | refine WG.run' (E := env) ?_ | refine WG.gt' ?_ | refine WG.gf' ?_ | refine WG.ixm' (E := env) ?_ | refine WG.ixo' (E := env) ?_ | refine WG.legm' (E := env) ?_ | refine WG.slS' (E := env) ?_ | refine WG.slD' (E := env) ?_ | refine WG.ap' (E := env) ?_ | refine WD.nil ?_ | refine WD.bs' (E := env) ?_ | refine WD.s' (E := env) (t := .d _) ?_ | refine WD.p' ?_ | refine WD.px' ?_ | refine WD.s' (E := env) (t := .ea _ _) ?_ | refine WD.s' (E := env) (t := .lp _ _) ?_ | refine WD.s' (E := env) (t := .og _ _) ?_ | refine WD.s' (E := env) (t := .agg _) ?_ | refine WD.s' (E := env) (t := .tup _) ?_ | refine WD.s' (E := env) (t := .clo _ _) ?_ | refine WD.ixm' (E := env) ?_ | refine WD.ixo' (E := env) ?_ | refine WD.legm' (E := env) ?_ | refine WD.slS' (E := env) ?_ | refine WD.slD' (E := env) ?_ | ((first | refine WG.sp' (fun h => ?_) fun h => ?_ | refine W.cond' (fun h => ?_) fun h => ?_ | refine WD.sp' (fun h => ?_) fun h => ?_) <;> (try simp only [decide_eq_true_eq, decide_eq_false_iff_not, Bool.not_eq_true', Bool.not_eq_false', Bool.and_eq_true, Bool.or_eq_true, Bool.and_eq_false_iff, Bool.or_eq_false_iff, Bool.not_eq_true, Bool.not_eq_false, Int.not_lt, Int.not_le, List.length_map, beq_self_eq_true, Bool.true_eq_false, Bool.false_eq_true] at h) <;> (try (exfalso; first | contradiction | omega))))
  refine W.loop (fun m S => ∃ j : Nat, m = s.size - j ∧ j ≤ s.size ∧ runOf digitB s 0 = runOf digitB s j ∧ S = ⟨ofL [(0, vS s), (1, vI .i64 0), (5, vI .i64 j)], []⟩) _ _ ⟨0, rfl, by omega, rfl, rfl⟩ (by (refine le_ofL rfl ?_ ?_ <;> (repeat (first | exact trivial | refine ⟨⟨rfl, rfl⟩, ?_⟩ | refine ⟨rfl, .inl rfl, ?_⟩ | refine ⟨rfl, .inr rfl, ?_⟩)))) ?_
  rintro m S ⟨j, rfl, hj, he, rfl⟩
  repeat' (first | refine W.seq ?_ | refine W.rg ?_ | refine W.dra' ?_ | refine W.block ?_ | refine W.skip ?_ | refine W.exit ?_ | refine W.cond_true' ?_ | refine W.cond_false' ?_ | refine WG.nil ?_ | refine WG.run' (E := env) ?_ | refine WG.gt' ?_ | refine WG.gf' ?_ | refine WG.ixm' (E := env) ?_ | refine WG.ixo' (E := env) ?_ | refine WG.legm' (E := env) ?_ | refine WG.slS' (E := env) ?_ | refine WG.slD' (E := env) ?_ | refine WG.ap' (E := env) ?_ | refine WD.nil ?_ | refine WD.bs' (E := env) ?_ | refine WD.s' (E := env) (t := .d _) ?_ | refine WD.p' ?_ | refine WD.px' ?_ | refine WD.s' (E := env) (t := .ea _ _) ?_ | refine WD.s' (E := env) (t := .lp _ _) ?_ | refine WD.s' (E := env) (t := .og _ _) ?_ | refine WD.s' (E := env) (t := .agg _) ?_ | refine WD.s' (E := env) (t := .tup _) ?_ | refine WD.s' (E := env) (t := .clo _ _) ?_ | refine WD.ixm' (E := env) ?_ | refine WD.ixo' (E := env) ?_ | refine WD.legm' (E := env) ?_ | refine WD.slS' (E := env) ?_ | refine WD.slD' (E := env) ?_ | refine WG.c (E := env) rfl rfl (isDigit_fn _) rfl rfl ?_ | refine WD.c (E := env) rfl rfl (isDigit_fn _) rfl rfl ?_ | refine WG.co (E := env) rfl rfl (isDigit_fn _) rfl rfl rfl rfl ?_ | refine WG.cx (E := env) rfl (isDigit_fn _) rfl ?_ | ((first | refine WG.sp' (fun h => ?_) fun h => ?_ | refine W.cond' (fun h => ?_) fun h => ?_ | refine WD.sp' (fun h => ?_) fun h => ?_) <;> (try simp only [decide_eq_true_eq, decide_eq_false_iff_not, Bool.not_eq_true', Bool.not_eq_false', Bool.and_eq_true, Bool.or_eq_true, Bool.and_eq_false_iff, Bool.or_eq_false_iff, Bool.not_eq_true, Bool.not_eq_false, Int.not_lt, Int.not_le, List.length_map, beq_self_eq_true, Bool.true_eq_false, Bool.false_eq_true] at h) <;> (try (exfalso; first | contradiction | omega))))
  · simp only [Int.zero_add, Int.toNat_natCast] at *
    exact ⟨_, _, by omega, ⟨j + 1, rfl, by omega, by rw [he]; exact runOf_step (by omega) ‹_›, rfl⟩, (by (refine le_ofL rfl ?_ ?_ <;> (repeat (first | exact trivial | refine ⟨⟨rfl, rfl⟩, ?_⟩ | refine ⟨rfl, .inl rfl, ?_⟩ | refine ⟨rfl, .inr rfl, ?_⟩))))⟩
  · (refine W.ret ?_; (first | refine RetQ.b' ?_ | refine RetQ.i' ?_ | refine RetQ.d' ?_ | refine RetQ.t2' ?_ ?_ | refine RetQ.t3' ?_ ?_ ?_))
    simp only [Int.zero_add, Int.toNat_natCast] at *
    rw [he, runOf_stop (by rintro ⟨_, h2⟩; simp_all)]
  · (refine W.ret ?_; (first | refine RetQ.b' ?_ | refine RetQ.i' ?_ | refine RetQ.d' ?_ | refine RetQ.t2' ?_ ?_ | refine RetQ.t3' ?_ ?_ ?_))
    rw [he, runOf_stop (by rintro ⟨h1, _⟩; omega)]

end Go.Proofs.YtgdedcbijgeodaaDoor
