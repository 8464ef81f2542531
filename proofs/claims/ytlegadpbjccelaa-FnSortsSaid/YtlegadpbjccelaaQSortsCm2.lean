/-
  The program's way of comparing values. Conditions: values of at most 2^20 cells.
-/
import Derived.Test.YtlegadpbjccelaaQSortsCm1
import Derived.Test.YtlegadpbjccelaaQSortsPgD
import Derived.Test.YtlegadpbjccelaaQSortsG3
import Derived.Test.YtlegadpbjccelaaQSortsEnv
import Derived.Test.YtlegadpbjccelaaQSortsOr1
import Derived.Test.YtlegadpbjccelaaQSortsTh1
import Derived.Test.YtlegadpbjccelaaQSortsV6
import Derived.Lib.Bytealg
import Derived.Lib.Walk
set_option linter.unusedVariables false
set_option linter.unusedSimpArgs false
set_option maxRecDepth 100000
namespace Go.Proofs.Ytlegadpbjccelaa
open Go.RowKit

theorem enters {P : Program} {f : FuncId} {fn : Func} {c : Code} (hf : P.funcs[f]? = some fn) (hb : fn.body = some c) (hname : (fn.name == "runtime.NumGoroutine") = false) (vals : Array Value) (w : World) :
    (callFunc f vals).run P w = .ok (.enter f vals) w := by
  unfold callFunc
  simp only [Sem.run_bind, run_program, Result.andThen_ok, hf, hname, hb, Bool.false_eq_true, if_false, Option.isNone_some, Sem.run_pure]

set_option maxHeartbeats 1000000 in
theorem compareString_calls (a b : ByteArray) (w : World) :
    Calls Try.prog 237 #[.string a, .string b] w fun e w' => e = .returned (.int .i64 (Lib.compareBytes a.data.toList b.data.toList)) ∧ w' = w := by
  go_enter Try.func237, Try.ntmps237
  go_wp2
  rw [run_callFunc_extern Try.func285 (by kernel_rfl) (by kernel_rfl) (by kernel_rfl) (e := Extern.BytealgCompare.compare) (by kernel_rfl), Lib.run_compareString]
  simp only [Result.andThen]
  rw [Oper.upon_value]
  go_wp2
  go_ret
  exact ⟨rfl, rfl⟩

theorem compareBytes_eq : ∀ a b : List UInt8, Lib.compareBytes a b = if Op.bytesLess a b = true then -1 else if Op.bytesLess b a = true then 1 else 0
  | [], [] => by simp [Lib.compareBytes, Op.bytesLess]
  | [], _ :: _ => by simp [Lib.compareBytes, Op.bytesLess]
  | _ :: _, [] => by simp [Lib.compareBytes, Op.bytesLess]
  | a :: x, b :: y => by
    rw [Lib.compareBytes, compareBytes_eq x y]
    simp only [Op.bytesLess]
    by_cases h1 : a < b
    · simp [h1]
    · by_cases h2 : b < a
      · have : ¬ a = b := fun e => by rw [e] at h2; exact absurd h2 (UInt8.lt_irrefl _)
        have h3 : (a == b) = false := by simpa using this
        simp [h1, h2, h3]
      · have : a = b := by
          apply UInt8.toNat_inj.1
          simp only [UInt8.lt_iff_toNat_lt] at h1 h2
          omega
        subst this
        simp [h1]

theorem compareString_fn (a b : ByteArray) : Fun env.P 237 [dS a, dS b] (.d (dI (cmpS a b))) [] := by
  refine Fun.ofRaw (enters Try.func237 (c := _) rfl (by kernel_rfl)) fun w σ0 vals hσ hl hr => ?_
  match vals, hl with
  | [u, v], _ =>
    have h1 := hr 0 (dS a) u rfl rfl
    have h2 := hr 1 (dS b) v rfl rfl
    cases h1; cases h2
    refine (compareString_calls a b w).mono fun e w' ⟨h, hw⟩ => ?_
    subst hw
    refine ⟨_, h, Below.refl _ _, fun g => ?_⟩
    rw [compareBytes_eq]
    exact .d _ _ (.v _)

theorem stringsCompare_fn (a b : ByteArray) : Fun env.P 173 [dS a, dS b] (.d (dI (cmpS a b))) [] := by
  have h1 := compareString_fn a b
  refine Fun.intro Try.func173 rfl (by kernel_rfl) rfl ?_
  repeat' (first | refine W.seq ?_ | refine W.rg ?_ | refine W.dra' ?_ | refine W.block ?_ | refine W.skip ?_ | refine W.exit ?_ | refine W.cond_true' ?_ | refine W.cond_false' ?_ | refine WG.nil ?_ | refine WG.run' (E := env) ?_ | refine WG.gt' ?_ | refine WG.gf' ?_ | refine WG.ixm' (E := env) ?_ | refine WG.ixo' (E := env) ?_ | refine WG.legm' (E := env) ?_ | refine WG.slS' (E := env) ?_ | refine WG.slD' (E := env) ?_ | refine WG.ap' (E := env) ?_ | refine WD.nil ?_ | refine WD.bs' (E := env) ?_ | refine WD.s' (E := env) (t := .d _) ?_ | refine WD.p' ?_ | refine WD.px' ?_ | refine WD.s' (E := env) (t := .ea _ _) ?_ | refine WD.s' (E := env) (t := .lp _ _) ?_ | refine WD.s' (E := env) (t := .og _ _) ?_ | refine WD.s' (E := env) (t := .agg _) ?_ | refine WD.s' (E := env) (t := .tup _) ?_ | refine WD.s' (E := env) (t := .clo _ _) ?_ | refine WD.ixm' (E := env) ?_ | refine WD.ixo' (E := env) ?_ | refine WD.legm' (E := env) ?_ | refine WD.slS' (E := env) ?_ | refine WD.slD' (E := env) ?_ | refine WG.c (E := env) rfl rfl (h1) rfl rfl ?_ | refine WD.c (E := env) rfl rfl (h1) rfl rfl ?_ | refine WG.co (E := env) rfl rfl (h1) rfl rfl rfl rfl ?_ | refine WG.cx (E := env) rfl (h1) rfl ?_ | ((first | refine WG.sp' (fun h => ?_) fun h => ?_ | refine W.cond' (fun h => ?_) fun h => ?_ | refine WD.sp' (fun h => ?_) fun h => ?_) <;> (try simp only [decide_eq_true_eq, decide_eq_false_iff_not, Bool.not_eq_true', Bool.not_eq_false', Bool.and_eq_true, Bool.or_eq_true, Bool.and_eq_false_iff, Bool.or_eq_false_iff, Bool.not_eq_true, Bool.not_eq_false, Int.not_lt, Int.not_le, List.length_map, beq_self_eq_true, Bool.true_eq_false, Bool.false_eq_true] at h) <;> (try (exfalso; first | contradiction | omega))))
  (refine W.ret ?_; (first | refine RetQ.b' ?_ | refine RetQ.i' ?_ | refine RetQ.d' ?_ | refine RetQ.t2' ?_ ?_ | refine RetQ.t3' ?_ ?_ ?_))
  rfl

theorem isNaN64_fn (a : Int) : Fun env.P 236 [dI a] (.d (dB false)) [] := by
  refine Fun.intro Try.func236 rfl (by kernel_rfl) rfl ?_
  repeat' (first | refine W.seq ?_ | refine W.rg ?_ | refine W.dra' ?_ | refine W.block ?_ | refine W.skip ?_ | refine W.exit ?_ | refine W.cond_true' ?_ | refine W.cond_false' ?_ | refine WG.nil ?_ | refine WG.run' (E := env) ?_ | refine WG.gt' ?_ | refine WG.gf' ?_ | refine WG.ixm' (E := env) ?_ | refine WG.ixo' (E := env) ?_ | refine WG.legm' (E := env) ?_ | refine WG.slS' (E := env) ?_ | refine WG.slD' (E := env) ?_ | refine WG.ap' (E := env) ?_ | refine WD.nil ?_ | refine WD.bs' (E := env) ?_ | refine WD.s' (E := env) (t := .d _) ?_ | refine WD.p' ?_ | refine WD.px' ?_ | refine WD.s' (E := env) (t := .ea _ _) ?_ | refine WD.s' (E := env) (t := .lp _ _) ?_ | refine WD.s' (E := env) (t := .og _ _) ?_ | refine WD.s' (E := env) (t := .agg _) ?_ | refine WD.s' (E := env) (t := .tup _) ?_ | refine WD.s' (E := env) (t := .clo _ _) ?_ | refine WD.ixm' (E := env) ?_ | refine WD.ixo' (E := env) ?_ | refine WD.legm' (E := env) ?_ | refine WD.slS' (E := env) ?_ | refine WD.slD' (E := env) ?_ | ((first | refine WG.sp' (fun h => ?_) fun h => ?_ | refine W.cond' (fun h => ?_) fun h => ?_ | refine WD.sp' (fun h => ?_) fun h => ?_) <;> (try simp only [decide_eq_true_eq, decide_eq_false_iff_not, Bool.not_eq_true', Bool.not_eq_false', Bool.and_eq_true, Bool.or_eq_true, Bool.and_eq_false_iff, Bool.or_eq_false_iff, Bool.not_eq_true, Bool.not_eq_false, Int.not_lt, Int.not_le, List.length_map, beq_self_eq_true, Bool.true_eq_false, Bool.false_eq_true] at h) <;> (try (exfalso; first | contradiction | omega))))
  (refine W.ret ?_; (first | refine RetQ.b' ?_ | refine RetQ.i' ?_ | refine RetQ.d' ?_ | refine RetQ.t2' ?_ ?_ | refine RetQ.t3' ?_ ?_ ?_))
  simp

theorem isNaN_fn (a : Int) : Fun env.P 239 [dI a] (.d (dB false)) [] := by
  refine Fun.intro Try.func239 rfl (by kernel_rfl) rfl ?_
  repeat' (first | refine W.seq ?_ | refine W.rg ?_ | refine W.dra' ?_ | refine W.block ?_ | refine W.skip ?_ | refine W.exit ?_ | refine W.cond_true' ?_ | refine W.cond_false' ?_ | refine WG.nil ?_ | refine WG.run' (E := env) ?_ | refine WG.gt' ?_ | refine WG.gf' ?_ | refine WG.ixm' (E := env) ?_ | refine WG.ixo' (E := env) ?_ | refine WG.legm' (E := env) ?_ | refine WG.slS' (E := env) ?_ | refine WG.slD' (E := env) ?_ | refine WG.ap' (E := env) ?_ | refine WD.nil ?_ | refine WD.bs' (E := env) ?_ | refine WD.s' (E := env) (t := .d _) ?_ | refine WD.p' ?_ | refine WD.px' ?_ | refine WD.s' (E := env) (t := .ea _ _) ?_ | refine WD.s' (E := env) (t := .lp _ _) ?_ | refine WD.s' (E := env) (t := .og _ _) ?_ | refine WD.s' (E := env) (t := .agg _) ?_ | refine WD.s' (E := env) (t := .tup _) ?_ | refine WD.s' (E := env) (t := .clo _ _) ?_ | refine WD.ixm' (E := env) ?_ | refine WD.ixo' (E := env) ?_ | refine WD.legm' (E := env) ?_ | refine WD.slS' (E := env) ?_ | refine WD.slD' (E := env) ?_ | ((first | refine WG.sp' (fun h => ?_) fun h => ?_ | refine W.cond' (fun h => ?_) fun h => ?_ | refine WD.sp' (fun h => ?_) fun h => ?_) <;> (try simp only [decide_eq_true_eq, decide_eq_false_iff_not, Bool.not_eq_true', Bool.not_eq_false', Bool.and_eq_true, Bool.or_eq_true, Bool.and_eq_false_iff, Bool.or_eq_false_iff, Bool.not_eq_true, Bool.not_eq_false, Int.not_lt, Int.not_le, List.length_map, beq_self_eq_true, Bool.true_eq_false, Bool.false_eq_true] at h) <;> (try (exfalso; first | contradiction | omega))))
  (refine W.ret ?_; (first | refine RetQ.b' ?_ | refine RetQ.i' ?_ | refine RetQ.d' ?_ | refine RetQ.t2' ?_ ?_ | refine RetQ.t3' ?_ ?_ ?_))
  simp

theorem isNaNS_fn (a : ByteArray) : Fun env.P 286 [dS a] (.d (dB false)) [] := by
  refine Fun.intro Try.func286 rfl (by kernel_rfl) rfl ?_
  repeat' (first | refine W.seq ?_ | refine W.rg ?_ | refine W.dra' ?_ | refine W.block ?_ | refine W.skip ?_ | refine W.exit ?_ | refine W.cond_true' ?_ | refine W.cond_false' ?_ | refine WG.nil ?_ | refine WG.run' (E := env) ?_ | refine WG.gt' ?_ | refine WG.gf' ?_ | refine WG.ixm' (E := env) ?_ | refine WG.ixo' (E := env) ?_ | refine WG.legm' (E := env) ?_ | refine WG.slS' (E := env) ?_ | refine WG.slD' (E := env) ?_ | refine WG.ap' (E := env) ?_ | refine WD.nil ?_ | refine WD.bs' (E := env) ?_ | refine WD.s' (E := env) (t := .d _) ?_ | refine WD.p' ?_ | refine WD.px' ?_ | refine WD.s' (E := env) (t := .ea _ _) ?_ | refine WD.s' (E := env) (t := .lp _ _) ?_ | refine WD.s' (E := env) (t := .og _ _) ?_ | refine WD.s' (E := env) (t := .agg _) ?_ | refine WD.s' (E := env) (t := .tup _) ?_ | refine WD.s' (E := env) (t := .clo _ _) ?_ | refine WD.ixm' (E := env) ?_ | refine WD.ixo' (E := env) ?_ | refine WD.legm' (E := env) ?_ | refine WD.slS' (E := env) ?_ | refine WD.slD' (E := env) ?_ | ((first | refine WG.sp' (fun h => ?_) fun h => ?_ | refine W.cond' (fun h => ?_) fun h => ?_ | refine WD.sp' (fun h => ?_) fun h => ?_) <;> (try simp only [decide_eq_true_eq, decide_eq_false_iff_not, Bool.not_eq_true', Bool.not_eq_false', Bool.and_eq_true, Bool.or_eq_true, Bool.and_eq_false_iff, Bool.or_eq_false_iff, Bool.not_eq_true, Bool.not_eq_false, Int.not_lt, Int.not_le, List.length_map, beq_self_eq_true, Bool.true_eq_false, Bool.false_eq_true] at h) <;> (try (exfalso; first | contradiction | omega))))
  (refine W.ret ?_; (first | refine RetQ.b' ?_ | refine RetQ.i' ?_ | refine RetQ.d' ?_ | refine RetQ.t2' ?_ ?_ | refine RetQ.t3' ?_ ?_ ?_))
  simp

theorem cmpCompare64_fn (a b : Int) : Fun env.P 171 [dI a, dI b] (.d (dI (cmpI a b))) [] := by
  refine Fun.intro Try.func171 rfl (by kernel_rfl) rfl ?_
  repeat' (first | refine W.seq ?_ | refine W.rg ?_ | refine W.dra' ?_ | refine W.block ?_ | refine W.skip ?_ | refine W.exit ?_ | refine W.cond_true' ?_ | refine W.cond_false' ?_ | refine WG.nil ?_ | refine WG.run' (E := env) ?_ | refine WG.gt' ?_ | refine WG.gf' ?_ | refine WG.ixm' (E := env) ?_ | refine WG.ixo' (E := env) ?_ | refine WG.legm' (E := env) ?_ | refine WG.slS' (E := env) ?_ | refine WG.slD' (E := env) ?_ | refine WG.ap' (E := env) ?_ | refine WD.nil ?_ | refine WD.bs' (E := env) ?_ | refine WD.s' (E := env) (t := .d _) ?_ | refine WD.p' ?_ | refine WD.px' ?_ | refine WD.s' (E := env) (t := .ea _ _) ?_ | refine WD.s' (E := env) (t := .lp _ _) ?_ | refine WD.s' (E := env) (t := .og _ _) ?_ | refine WD.s' (E := env) (t := .agg _) ?_ | refine WD.s' (E := env) (t := .tup _) ?_ | refine WD.s' (E := env) (t := .clo _ _) ?_ | refine WD.ixm' (E := env) ?_ | refine WD.ixo' (E := env) ?_ | refine WD.legm' (E := env) ?_ | refine WD.slS' (E := env) ?_ | refine WD.slD' (E := env) ?_ | refine WG.c (E := env) rfl rfl (isNaN64_fn _) rfl rfl ?_ | refine WD.c (E := env) rfl rfl (isNaN64_fn _) rfl rfl ?_ | refine WG.co (E := env) rfl rfl (isNaN64_fn _) rfl rfl rfl rfl ?_ | refine WG.cx (E := env) rfl (isNaN64_fn _) rfl ?_ | ((first | refine WG.sp' (fun h => ?_) fun h => ?_ | refine W.cond' (fun h => ?_) fun h => ?_ | refine WD.sp' (fun h => ?_) fun h => ?_) <;> (try simp only [decide_eq_true_eq, decide_eq_false_iff_not, Bool.not_eq_true', Bool.not_eq_false', Bool.and_eq_true, Bool.or_eq_true, Bool.and_eq_false_iff, Bool.or_eq_false_iff, Bool.not_eq_true, Bool.not_eq_false, Int.not_lt, Int.not_le, List.length_map, beq_self_eq_true, Bool.true_eq_false, Bool.false_eq_true] at h) <;> (try (exfalso; first | contradiction | omega))))
  all_goals (refine W.ret ?_; (first | refine RetQ.b' ?_ | refine RetQ.i' ?_ | refine RetQ.d' ?_ | refine RetQ.t2' ?_ ?_ | refine RetQ.t3' ?_ ?_ ?_))
  all_goals (unfold cmpI; (repeat' split) <;> first | rfl | omega)

theorem cmpCompare_fn (a b : Int) : Fun env.P 175 [dI a, dI b] (.d (dI (cmpI a b))) [] := by
  refine Fun.intro Try.func175 rfl (by kernel_rfl) rfl ?_
  repeat' (first | refine W.seq ?_ | refine W.rg ?_ | refine W.dra' ?_ | refine W.block ?_ | refine W.skip ?_ | refine W.exit ?_ | refine W.cond_true' ?_ | refine W.cond_false' ?_ | refine WG.nil ?_ | refine WG.run' (E := env) ?_ | refine WG.gt' ?_ | refine WG.gf' ?_ | refine WG.ixm' (E := env) ?_ | refine WG.ixo' (E := env) ?_ | refine WG.legm' (E := env) ?_ | refine WG.slS' (E := env) ?_ | refine WG.slD' (E := env) ?_ | refine WG.ap' (E := env) ?_ | refine WD.nil ?_ | refine WD.bs' (E := env) ?_ | refine WD.s' (E := env) (t := .d _) ?_ | refine WD.p' ?_ | refine WD.px' ?_ | refine WD.s' (E := env) (t := .ea _ _) ?_ | refine WD.s' (E := env) (t := .lp _ _) ?_ | refine WD.s' (E := env) (t := .og _ _) ?_ | refine WD.s' (E := env) (t := .agg _) ?_ | refine WD.s' (E := env) (t := .tup _) ?_ | refine WD.s' (E := env) (t := .clo _ _) ?_ | refine WD.ixm' (E := env) ?_ | refine WD.ixo' (E := env) ?_ | refine WD.legm' (E := env) ?_ | refine WD.slS' (E := env) ?_ | refine WD.slD' (E := env) ?_ | refine WG.c (E := env) rfl rfl (isNaN_fn _) rfl rfl ?_ | refine WD.c (E := env) rfl rfl (isNaN_fn _) rfl rfl ?_ | refine WG.co (E := env) rfl rfl (isNaN_fn _) rfl rfl rfl rfl ?_ | refine WG.cx (E := env) rfl (isNaN_fn _) rfl ?_ | ((first | refine WG.sp' (fun h => ?_) fun h => ?_ | refine W.cond' (fun h => ?_) fun h => ?_ | refine WD.sp' (fun h => ?_) fun h => ?_) <;> (try simp only [decide_eq_true_eq, decide_eq_false_iff_not, Bool.not_eq_true', Bool.not_eq_false', Bool.and_eq_true, Bool.or_eq_true, Bool.and_eq_false_iff, Bool.or_eq_false_iff, Bool.not_eq_true, Bool.not_eq_false, Int.not_lt, Int.not_le, List.length_map, beq_self_eq_true, Bool.true_eq_false, Bool.false_eq_true] at h) <;> (try (exfalso; first | contradiction | omega))))
  all_goals (refine W.ret ?_; (first | refine RetQ.b' ?_ | refine RetQ.i' ?_ | refine RetQ.d' ?_ | refine RetQ.t2' ?_ ?_ | refine RetQ.t3' ?_ ?_ ?_))
  all_goals (unfold cmpI; (repeat' split) <;> first | rfl | omega)

theorem cmpCompareS_fn (a b : ByteArray) : Fun env.P 238 [dS a, dS b] (.d (dI (cmpS a b))) [] := by
  refine Fun.intro Try.func238 rfl (by kernel_rfl) rfl ?_
  repeat' (first | refine W.seq ?_ | refine W.rg ?_ | refine W.dra' ?_ | refine W.block ?_ | refine W.skip ?_ | refine W.exit ?_ | refine W.cond_true' ?_ | refine W.cond_false' ?_ | refine WG.nil ?_ | refine WG.run' (E := env) ?_ | refine WG.gt' ?_ | refine WG.gf' ?_ | refine WG.ixm' (E := env) ?_ | refine WG.ixo' (E := env) ?_ | refine WG.legm' (E := env) ?_ | refine WG.slS' (E := env) ?_ | refine WG.slD' (E := env) ?_ | refine WG.ap' (E := env) ?_ | refine WD.nil ?_ | refine WD.bs' (E := env) ?_ | refine WD.s' (E := env) (t := .d _) ?_ | refine WD.p' ?_ | refine WD.px' ?_ | refine WD.s' (E := env) (t := .ea _ _) ?_ | refine WD.s' (E := env) (t := .lp _ _) ?_ | refine WD.s' (E := env) (t := .og _ _) ?_ | refine WD.s' (E := env) (t := .agg _) ?_ | refine WD.s' (E := env) (t := .tup _) ?_ | refine WD.s' (E := env) (t := .clo _ _) ?_ | refine WD.ixm' (E := env) ?_ | refine WD.ixo' (E := env) ?_ | refine WD.legm' (E := env) ?_ | refine WD.slS' (E := env) ?_ | refine WD.slD' (E := env) ?_ | refine WG.c (E := env) rfl rfl (isNaNS_fn _) rfl rfl ?_ | refine WD.c (E := env) rfl rfl (isNaNS_fn _) rfl rfl ?_ | refine WG.co (E := env) rfl rfl (isNaNS_fn _) rfl rfl rfl rfl ?_ | refine WG.cx (E := env) rfl (isNaNS_fn _) rfl ?_ | ((first | refine WG.sp' (fun h => ?_) fun h => ?_ | refine W.cond' (fun h => ?_) fun h => ?_ | refine WD.sp' (fun h => ?_) fun h => ?_) <;> (try simp only [decide_eq_true_eq, decide_eq_false_iff_not, Bool.not_eq_true', Bool.not_eq_false', Bool.and_eq_true, Bool.or_eq_true, Bool.and_eq_false_iff, Bool.or_eq_false_iff, Bool.not_eq_true, Bool.not_eq_false, Int.not_lt, Int.not_le, List.length_map, beq_self_eq_true, Bool.true_eq_false, Bool.false_eq_true] at h) <;> (try (exfalso; first | contradiction | omega))))
  all_goals (refine W.ret ?_; (first | refine RetQ.b' ?_ | refine RetQ.i' ?_ | refine RetQ.d' ?_ | refine RetQ.t2' ?_ ?_ | refine RetQ.t3' ?_ ?_ ?_))
  all_goals simp [cmpS, lessK, *]

def orL : List Int → Int
  | [] => 0
  | a :: r => if a ≠ 0 then a else orL r

theorem cmpOr_fn (xs : List Int) (hx : xs.length ≤ 1048576) : Fun env.P 172 [.sl 1 (xs.map intRow)] (.d (dI (orL xs))) [] := by
  refine Fun.intro Try.func172 rfl (by kernel_rfl) rfl ?_
  repeat' (first | refine W.seq ?_ | refine W.rg ?_ | refine W.dra' ?_ | refine W.block ?_ | refine W.skip ?_ | refine W.exit ?_ | refine W.cond_true' ?_ | refine W.cond_false' ?_ | refine WG.nil ?_ | refine WG.run' (E := env) ?_ | refine WG.gt' ?_ | refine WG.gf' ?_ | refine WG.ixm' (E := env) ?_ | refine WG.ixo' (E := env) ?_ | refine WG.legm' (E := env) ?_ | refine WG.slS' (E := env) ?_ | refine WG.slD' (E := env) ?_ | refine WG.ap' (E := env) ?_ | refine WD.nil ?_ | refine WD.bs' (E := env) ?_ | refine WD.s' (E := env) (t := .d _) ?_ | refine WD.p' ?_ | refine WD.px' ?_ | refine WD.s' (E := env) (t := .ea _ _) ?_ | refine WD.s' (E := env) (t := .lp _ _) ?_ | refine WD.s' (E := env) (t := .og _ _) ?_ | refine WD.s' (E := env) (t := .agg _) ?_ | refine WD.s' (E := env) (t := .tup _) ?_ | refine WD.s' (E := env) (t := .clo _ _) ?_ | refine WD.ixm' (E := env) ?_ | refine WD.ixo' (E := env) ?_ | refine WD.legm' (E := env) ?_ | refine WD.slS' (E := env) ?_ | refine WD.slD' (E := env) ?_ | ((first | refine WG.sp' (fun h => ?_) fun h => ?_ | refine W.cond' (fun h => ?_) fun h => ?_ | refine WD.sp' (fun h => ?_) fun h => ?_) <;> (try simp only [decide_eq_true_eq, decide_eq_false_iff_not, Bool.not_eq_true', Bool.not_eq_false', Bool.and_eq_true, Bool.or_eq_true, Bool.and_eq_false_iff, Bool.or_eq_false_iff, Bool.not_eq_true, Bool.not_eq_false, Int.not_lt, Int.not_le, List.length_map, beq_self_eq_true, Bool.true_eq_false, Bool.false_eq_true] at h) <;> (try (exfalso; first | contradiction | omega))))
  refine W.loop (fun m S => ∃ (i : Nat), m = xs.length - i ∧ (i ≤ xs.length ∧ orL xs = orL (xs.drop i)) ∧ S = ⟨ofL [(3, vI .i64 0), (6, .d (.sl 1 (xs.map intRow))), (7, vI .i64 (xs.map intRow).length), (8, vI .i64 i)], []⟩) _ _ ⟨0, rfl, ⟨by omega, rfl⟩, rfl⟩ (by (refine le_ofL rfl ?_ ?_ <;> (repeat (first | exact trivial | refine ⟨⟨rfl, rfl⟩, ?_⟩ | refine ⟨rfl, .inl rfl, ?_⟩ | refine ⟨rfl, .inr rfl, ?_⟩)))) ?_
  rintro m S ⟨i, rfl, ⟨hi, he⟩, rfl⟩
  repeat' (first | refine W.seq ?_ | refine W.rg ?_ | refine W.dra' ?_ | refine W.block ?_ | refine W.skip ?_ | refine W.exit ?_ | refine W.cond_true' ?_ | refine W.cond_false' ?_ | refine WG.nil ?_ | refine WG.run' (E := env) ?_ | refine WG.gt' ?_ | refine WG.gf' ?_ | refine WG.ixm' (E := env) ?_ | refine WG.ixo' (E := env) ?_ | refine WG.legm' (E := env) ?_ | refine WG.slS' (E := env) ?_ | refine WG.slD' (E := env) ?_ | refine WG.ap' (E := env) ?_ | refine WD.nil ?_ | refine WD.bs' (E := env) ?_ | refine WD.s' (E := env) (t := .d _) ?_ | refine WD.p' ?_ | refine WD.px' ?_ | refine WD.s' (E := env) (t := .ea _ _) ?_ | refine WD.s' (E := env) (t := .lp _ _) ?_ | refine WD.s' (E := env) (t := .og _ _) ?_ | refine WD.s' (E := env) (t := .agg _) ?_ | refine WD.s' (E := env) (t := .tup _) ?_ | refine WD.s' (E := env) (t := .clo _ _) ?_ | refine WD.ixm' (E := env) ?_ | refine WD.ixo' (E := env) ?_ | refine WD.legm' (E := env) ?_ | refine WD.slS' (E := env) ?_ | refine WD.slD' (E := env) ?_ | ((first | refine WG.sp' (fun h => ?_) fun h => ?_ | refine W.cond' (fun h => ?_) fun h => ?_ | refine WD.sp' (fun h => ?_) fun h => ?_) <;> (try simp only [decide_eq_true_eq, decide_eq_false_iff_not, Bool.not_eq_true', Bool.not_eq_false', Bool.and_eq_true, Bool.or_eq_true, Bool.and_eq_false_iff, Bool.or_eq_false_iff, Bool.not_eq_true, Bool.not_eq_false, Int.not_lt, Int.not_le, List.length_map, beq_self_eq_true, Bool.true_eq_false, Bool.false_eq_true] at h) <;> (try (exfalso; first | contradiction | omega))))
  · (try simp only [Int.toNat_natCast, Int.toNat_zero, toNat_cc, toNat_c1, toNat_cm1, toNat_cm] at *)
    rw [drop_step (by omega), orL, if_pos (by assumption)] at he
    (refine W.ret ?_; (first | refine RetQ.b' ?_ | refine RetQ.i' ?_ | refine RetQ.d' ?_ | refine RetQ.t2' ?_ ?_ | refine RetQ.t3' ?_ ?_ ?_))
    exact he.symm
  · (try simp only [Int.toNat_natCast, Int.toNat_zero, toNat_cc, toNat_c1, toNat_cm1, toNat_cm] at *)
    refine ⟨_, _, by omega, ⟨i + 1, rfl, ⟨by omega, ?_⟩, rfl⟩, (by (refine le_ofL rfl ?_ ?_ <;> (repeat (first | exact trivial | refine ⟨⟨rfl, rfl⟩, ?_⟩ | refine ⟨rfl, .inl rfl, ?_⟩ | refine ⟨rfl, .inr rfl, ?_⟩))))⟩
    rw [he, drop_step (by omega), orL, if_neg (by simp only [ne_eq, Decidable.not_not]; assumption)]
  · (refine W.ret ?_; (first | refine RetQ.b' ?_ | refine RetQ.i' ?_ | refine RetQ.d' ?_ | refine RetQ.t2' ?_ ?_ | refine RetQ.t3' ?_ ?_ ?_))
    rw [he, List.drop_eq_nil_of_le (by omega)]
    rfl

theorem slicesCompare_fn (a b : List ByteArray) (ha : a.length ≤ 1048576) : Fun env.P 174 [.sl 1 (a.map keyRow), .sl 1 (b.map keyRow)] (.d (dI (cmpKs a b))) [] := by
  refine Fun.intro Try.func174 rfl (by kernel_rfl) rfl ?_
  repeat' (first | refine W.seq ?_ | refine W.rg ?_ | refine W.dra' ?_ | refine W.block ?_ | refine W.skip ?_ | refine W.exit ?_ | refine W.cond_true' ?_ | refine W.cond_false' ?_ | refine WG.nil ?_ | refine WG.run' (E := env) ?_ | refine WG.gt' ?_ | refine WG.gf' ?_ | refine WG.ixm' (E := env) ?_ | refine WG.ixo' (E := env) ?_ | refine WG.legm' (E := env) ?_ | refine WG.slS' (E := env) ?_ | refine WG.slD' (E := env) ?_ | refine WG.ap' (E := env) ?_ | refine WD.nil ?_ | refine WD.bs' (E := env) ?_ | refine WD.s' (E := env) (t := .d _) ?_ | refine WD.p' ?_ | refine WD.px' ?_ | refine WD.s' (E := env) (t := .ea _ _) ?_ | refine WD.s' (E := env) (t := .lp _ _) ?_ | refine WD.s' (E := env) (t := .og _ _) ?_ | refine WD.s' (E := env) (t := .agg _) ?_ | refine WD.s' (E := env) (t := .tup _) ?_ | refine WD.s' (E := env) (t := .clo _ _) ?_ | refine WD.ixm' (E := env) ?_ | refine WD.ixo' (E := env) ?_ | refine WD.legm' (E := env) ?_ | refine WD.slS' (E := env) ?_ | refine WD.slD' (E := env) ?_ | ((first | refine WG.sp' (fun h => ?_) fun h => ?_ | refine W.cond' (fun h => ?_) fun h => ?_ | refine WD.sp' (fun h => ?_) fun h => ?_) <;> (try simp only [decide_eq_true_eq, decide_eq_false_iff_not, Bool.not_eq_true', Bool.not_eq_false', Bool.and_eq_true, Bool.or_eq_true, Bool.and_eq_false_iff, Bool.or_eq_false_iff, Bool.not_eq_true, Bool.not_eq_false, Int.not_lt, Int.not_le, List.length_map, beq_self_eq_true, Bool.true_eq_false, Bool.false_eq_true] at h) <;> (try (exfalso; first | contradiction | omega))))
  refine W.loop (fun m S => ∃ (i : Nat), m = a.length - i ∧ (i ≤ a.length ∧ i ≤ b.length ∧ cmpKs a b = cmpKs (a.drop i) (b.drop i)) ∧ S = ⟨ofL [(0, .d (.sl 1 (a.map keyRow))), (1, .d (.sl 1 (b.map keyRow))), (9, .d (.sl 1 (a.map keyRow))), (10, vI .i64 (a.map keyRow).length), (11, vI .i64 i)], []⟩) _ _ ⟨0, rfl, ⟨by omega, by omega, rfl⟩, rfl⟩ (by (refine le_ofL rfl ?_ ?_ <;> (repeat (first | exact trivial | refine ⟨⟨rfl, rfl⟩, ?_⟩ | refine ⟨rfl, .inl rfl, ?_⟩ | refine ⟨rfl, .inr rfl, ?_⟩)))) ?_
  rintro m S ⟨i, rfl, ⟨hi, hi2, he⟩, rfl⟩
  repeat' (first | refine W.seq ?_ | refine W.rg ?_ | refine W.dra' ?_ | refine W.block ?_ | refine W.skip ?_ | refine W.exit ?_ | refine W.cond_true' ?_ | refine W.cond_false' ?_ | refine WG.nil ?_ | refine WG.run' (E := env) ?_ | refine WG.gt' ?_ | refine WG.gf' ?_ | refine WG.ixm' (E := env) ?_ | refine WG.ixo' (E := env) ?_ | refine WG.legm' (E := env) ?_ | refine WG.slS' (E := env) ?_ | refine WG.slD' (E := env) ?_ | refine WG.ap' (E := env) ?_ | refine WD.nil ?_ | refine WD.bs' (E := env) ?_ | refine WD.s' (E := env) (t := .d _) ?_ | refine WD.p' ?_ | refine WD.px' ?_ | refine WD.s' (E := env) (t := .ea _ _) ?_ | refine WD.s' (E := env) (t := .lp _ _) ?_ | refine WD.s' (E := env) (t := .og _ _) ?_ | refine WD.s' (E := env) (t := .agg _) ?_ | refine WD.s' (E := env) (t := .tup _) ?_ | refine WD.s' (E := env) (t := .clo _ _) ?_ | refine WD.ixm' (E := env) ?_ | refine WD.ixo' (E := env) ?_ | refine WD.legm' (E := env) ?_ | refine WD.slS' (E := env) ?_ | refine WD.slD' (E := env) ?_ | refine WG.c (E := env) rfl rfl (cmpCompareS_fn _ _) rfl rfl ?_ | refine WD.c (E := env) rfl rfl (cmpCompareS_fn _ _) rfl rfl ?_ | refine WG.co (E := env) rfl rfl (cmpCompareS_fn _ _) rfl rfl rfl rfl ?_ | refine WG.cx (E := env) rfl (cmpCompareS_fn _ _) rfl ?_ | ((first | refine WG.sp' (fun h => ?_) fun h => ?_ | refine W.cond' (fun h => ?_) fun h => ?_ | refine WD.sp' (fun h => ?_) fun h => ?_) <;> (try simp only [decide_eq_true_eq, decide_eq_false_iff_not, Bool.not_eq_true', Bool.not_eq_false', Bool.and_eq_true, Bool.or_eq_true, Bool.and_eq_false_iff, Bool.or_eq_false_iff, Bool.not_eq_true, Bool.not_eq_false, Int.not_lt, Int.not_le, List.length_map, beq_self_eq_true, Bool.true_eq_false, Bool.false_eq_true] at h) <;> (try (exfalso; first | contradiction | omega))))
  · (try simp only [Int.toNat_natCast, Int.toNat_zero, toNat_cc, toNat_c1, toNat_cm1, toNat_cm] at *)
    (refine W.ret ?_; (first | refine RetQ.b' ?_ | refine RetQ.i' ?_ | refine RetQ.d' ?_ | refine RetQ.t2' ?_ ?_ | refine RetQ.t3' ?_ ?_ ?_))
    rw [he, cmpKs_end _ _ _ (.inr (by omega)) hi hi2]
    unfold cmpI
    rw [if_neg (by omega), if_pos (by omega)]
  · (try simp only [Int.toNat_natCast, Int.toNat_zero, toNat_cc, toNat_c1, toNat_cm1, toNat_cm] at *)
    rw [cmpKs_at _ _ _ (by omega) (by omega), orI, if_neg (by assumption)] at he
    (refine W.ret ?_; (first | refine RetQ.b' ?_ | refine RetQ.i' ?_ | refine RetQ.d' ?_ | refine RetQ.t2' ?_ ?_ | refine RetQ.t3' ?_ ?_ ?_))
    exact he.symm
  · (try simp only [Int.toNat_natCast, Int.toNat_zero, toNat_cc, toNat_c1, toNat_cm1, toNat_cm] at *)
    refine ⟨_, _, by omega, ⟨i + 1, rfl, ⟨by omega, by omega, ?_⟩, rfl⟩, (by (refine le_ofL rfl ?_ ?_ <;> (repeat (first | exact trivial | refine ⟨⟨rfl, rfl⟩, ?_⟩ | refine ⟨rfl, .inl rfl, ?_⟩ | refine ⟨rfl, .inr rfl, ?_⟩))))⟩
    rw [he, cmpKs_at _ _ _ (by omega) (by omega), orI, if_pos (by assumption)]
  · (refine W.ret ?_; (first | refine RetQ.b' ?_ | refine RetQ.i' ?_ | refine RetQ.d' ?_ | refine RetQ.t2' ?_ ?_ | refine RetQ.t3' ?_ ?_ ?_))
    rw [he, cmpKs_end _ _ _ (.inl (by omega)) hi hi2]
    unfold cmpI
    rw [if_pos (by omega)]
  · (refine W.ret ?_; (first | refine RetQ.b' ?_ | refine RetQ.i' ?_ | refine RetQ.d' ?_ | refine RetQ.t2' ?_ ?_ | refine RetQ.t3' ?_ ?_ ?_))
    rw [he, cmpKs_end _ _ _ (.inl (by omega)) hi hi2]
    unfold cmpI
    rw [if_neg (by omega), if_neg (by omega)]

theorem V.cmp_or (v w : V) (hk : v.kind = w.kind) :
    V.cmp v w = orI (orL [cmpI v.num w.num, cmpS v.text w.text, cmpKs v.keys w.keys]) (V.cmps (v.kids.drop 0) (w.kids.drop 0)) := by
  have e0 : cmpI v.kind w.kind = 0 := by unfold cmpI; rw [if_neg (by omega), if_neg (by omega)]
  rw [V.cmp_eq, e0]
  simp only [List.drop_zero]
  generalize cmpI v.num w.num = a
  generalize cmpS v.text w.text = b
  generalize cmpKs v.keys w.keys = c
  generalize V.cmps v.kids w.kids = d
  unfold orI orL orL orL orL
  by_cases h1 : a = 0 <;> by_cases h2 : b = 0 <;> by_cases h3 : c = 0 <;> simp [h1, h2, h3]

theorem V.cmp_kind (v w : V) (hk : ¬ v.kind = w.kind) : V.cmp v w = cmpI v.kind w.kind := by
  rw [V.cmp_eq, orI, if_neg]
  unfold cmpI; (repeat' split) <;> omega

theorem V.count_eq (v : V) : v.count = V.counts v.kids + 1 := by cases v; rfl

mutual
/-- No value in it has more than n keys. -/
def V.few (n : Nat) : V → Prop
  | .mk _ _ _ ks kids => ks.length ≤ n ∧ V.fews n kids
def V.fews (n : Nat) : List V → Prop
  | [] => True
  | v :: r => v.few n ∧ V.fews n r
end
theorem V.few_keys {n : Nat} {v : V} (h : v.few n) : v.keys.length ≤ n := by cases v; exact h.1
theorem V.few_kids {n : Nat} {v : V} (h : v.few n) : V.fews n v.kids := by cases v; exact h.2
theorem V.fews_at {n : Nat} : ∀ {l : List V}, V.fews n l → ∀ v ∈ l, v.few n
  | [], _, v, h => by cases h
  | x :: r, h, v, hv => by
    rcases List.mem_cons.1 hv with rfl | hv
    · exact h.1
    · exact V.fews_at h.2 v hv
mutual
theorem V.good_few : ∀ (v : V) (n : Nat), v.good → v.count ≤ n + 1 → v.few n
  | .mk k nm t ks kids, n, h, hc => by
    obtain ⟨g1, g2, g3, g4, g5, g6, g7, g8, g9, g10, g11⟩ := h
    simp only [V.count] at hc
    have hlc := V.length_counts kids
    refine ⟨?_, V.goods_fews kids n g11 (by omega)⟩
    by_cases h6 : k = 6
    · rw [g7 h6]; omega
    · rw [g8 h6]; simp
theorem V.goods_fews : ∀ (l : List V) (n : Nat), V.goods l → V.counts l ≤ n → V.fews n l
  | [], _, _, _ => trivial
  | v :: r, n, h, hc => by
    simp only [V.counts] at hc
    exact ⟨V.good_few v n h.1 (by omega), V.goods_fews r n h.2 (by omega)⟩
end

set_option maxHeartbeats 2000000 in
theorem compareValsP_fn : ∀ (n : Nat) (v w : V), v.count ≤ n → n ≤ 1048576 → v.few 1048576 → Fun env.P 93 [.agg v.rowP, .agg w.rowP] (.d (dI (V.cmp v w))) []
  | 0, v, w, h, _, _ => by
    have := V.depth_le v
    omega
  | n + 1, v, w, h, hn, hks => by
    have ih := compareValsP_fn n
    rw [V.count_eq] at h
    have hlc := V.length_counts v.kids
    have hks2 := V.few_kids hks
    have hks1 := V.few_keys hks
    have hdep : ∀ j, j < v.kids.length → (v.kids.getD j default).count ≤ n ∧ (v.kids.getD j default).few 1048576 := fun j hj => by
      have := V.counts_ge (v.kids.getD j default) (getD_mem' hj)
      exact ⟨by omega, V.fews_at hks2 _ (getD_mem' hj)⟩
    have h1 := cmpCompare64_fn v.kind w.kind
    have h2 := cmpCompare64_fn v.num w.num
    have h3 := stringsCompare_fn v.text w.text
    have h4 := slicesCompare_fn v.keys w.keys hks1
    have h5 := cmpOr_fn [cmpI v.num w.num, cmpS v.text w.text, cmpKs v.keys w.keys] (by simp)
    refine Fun.intro Try.func93 rfl (by kernel_rfl) rfl ?_
    repeat' (first | refine W.seq ?_ | refine W.rg ?_ | refine W.dra' ?_ | refine W.block ?_ | refine W.skip ?_ | refine W.exit ?_ | refine W.cond_true' ?_ | refine W.cond_false' ?_ | refine WG.nil ?_ | refine WG.run' (E := env) ?_ | refine WG.gt' ?_ | refine WG.gf' ?_ | refine WG.ixm' (E := env) ?_ | refine WG.ixo' (E := env) ?_ | refine WG.legm' (E := env) ?_ | refine WG.slS' (E := env) ?_ | refine WG.slD' (E := env) ?_ | refine WG.ap' (E := env) ?_ | refine WD.nil ?_ | refine WD.bs' (E := env) ?_ | refine WD.s' (E := env) (t := .d _) ?_ | refine WD.p' ?_ | refine WD.px' ?_ | refine WD.s' (E := env) (t := .ea _ _) ?_ | refine WD.s' (E := env) (t := .lp _ _) ?_ | refine WD.s' (E := env) (t := .og _ _) ?_ | refine WD.s' (E := env) (t := .agg _) ?_ | refine WD.s' (E := env) (t := .tup _) ?_ | refine WD.s' (E := env) (t := .clo _ _) ?_ | refine WD.ixm' (E := env) ?_ | refine WD.ixo' (E := env) ?_ | refine WD.legm' (E := env) ?_ | refine WD.slS' (E := env) ?_ | refine WD.slD' (E := env) ?_ | refine WG.c (E := env) rfl rfl (h1) rfl rfl ?_ | refine WD.c (E := env) rfl rfl (h1) rfl rfl ?_ | refine WG.co (E := env) rfl rfl (h1) rfl rfl rfl rfl ?_ | refine WG.cx (E := env) rfl (h1) rfl ?_ | refine WG.c (E := env) rfl rfl (h2) rfl rfl ?_ | refine WD.c (E := env) rfl rfl (h2) rfl rfl ?_ | refine WG.co (E := env) rfl rfl (h2) rfl rfl rfl rfl ?_ | refine WG.cx (E := env) rfl (h2) rfl ?_ | refine WG.c (E := env) rfl rfl (h3) rfl rfl ?_ | refine WD.c (E := env) rfl rfl (h3) rfl rfl ?_ | refine WG.co (E := env) rfl rfl (h3) rfl rfl rfl rfl ?_ | refine WG.cx (E := env) rfl (h3) rfl ?_ | refine WG.c (E := env) rfl rfl (h4) rfl rfl ?_ | refine WD.c (E := env) rfl rfl (h4) rfl rfl ?_ | refine WG.co (E := env) rfl rfl (h4) rfl rfl rfl rfl ?_ | refine WG.cx (E := env) rfl (h4) rfl ?_ | refine WG.c (E := env) rfl rfl (h5) rfl rfl ?_ | refine WD.c (E := env) rfl rfl (h5) rfl rfl ?_ | refine WG.co (E := env) rfl rfl (h5) rfl rfl rfl rfl ?_ | refine WG.cx (E := env) rfl (h5) rfl ?_ | ((first | refine WG.sp' (fun h => ?_) fun h => ?_ | refine W.cond' (fun h => ?_) fun h => ?_ | refine WD.sp' (fun h => ?_) fun h => ?_) <;> (try simp only [decide_eq_true_eq, decide_eq_false_iff_not, Bool.not_eq_true', Bool.not_eq_false', Bool.and_eq_true, Bool.or_eq_true, Bool.and_eq_false_iff, Bool.or_eq_false_iff, Bool.not_eq_true, Bool.not_eq_false, Int.not_lt, Int.not_le, List.length_map, beq_self_eq_true, Bool.true_eq_false, Bool.false_eq_true] at h) <;> (try (exfalso; first | contradiction | omega))))
    · (refine W.ret ?_; (first | refine RetQ.b' ?_ | refine RetQ.i' ?_ | refine RetQ.d' ?_ | refine RetQ.t2' ?_ ?_ | refine RetQ.t3' ?_ ?_ ?_))
      exact (V.cmp_kind v w h).symm
    have hst := V.cmp_or v w h
    generalize orL [cmpI v.num w.num, cmpS v.text w.text, cmpKs v.keys w.keys] = o0 at hst ⊢
    refine W.loop (fun m S => ∃ (i : Nat) (o : Int), m = v.kids.length - i ∧ (i ≤ v.kids.length ∧ i ≤ w.kids.length ∧ V.cmp v w = orI o (V.cmps (v.kids.drop i) (w.kids.drop i))) ∧
      S = ⟨ofL [(2, .lp 0 0), (3, .lp 1 0), (5, vI .i64 o), (6, vI .i64 i)], [.pv (v.rowP.map .d), .pv (w.rowP.map .d)]⟩) _ _ ⟨0, o0, rfl, ⟨by omega, by omega, hst⟩, rfl⟩ (by (refine le_ofL rfl ?_ ?_ <;> (repeat (first | exact trivial | refine ⟨⟨rfl, rfl⟩, ?_⟩ | refine ⟨rfl, .inl rfl, ?_⟩ | refine ⟨rfl, .inr rfl, ?_⟩)))) ?_
    rintro m S ⟨i, o, rfl, ⟨hi, hi2, he⟩, rfl⟩
    have hlt' : ∀ j, j < v.kids.length → j < w.kids.length → Fun env.P 93 [.agg (v.kids.getD j default).rowP, .agg (w.kids.getD j default).rowP] (.d (dI (V.cmp (v.kids.getD j default) (w.kids.getD j default)))) [] := fun j h1 h2 => ih _ _ (hdep j h1).1 (by omega) (hdep j h1).2
    have h6 := cmpCompare_fn ((v.kids.map V.row).length : Int) ((w.kids.map V.row).length : Int)
    have h7 := cmpOr_fn [o, cmpI ((v.kids.map V.row).length : Int) ((w.kids.map V.row).length : Int)] (by simp)
    repeat' (first | refine WD.ixm (E := env) (f' := V.rowP) rfl rfl rfl rfl rfl rfl rfl (fun x => V.row_eq x) (by (first | exact trivial | (simp only [inRange, List.length_map]; omega) | omega | assumption)) ?_ | refine W.seq ?_ | refine W.rg ?_ | refine W.dra' ?_ | refine W.block ?_ | refine W.skip ?_ | refine W.exit ?_ | refine W.cond_true' ?_ | refine W.cond_false' ?_ | refine WG.nil ?_ | refine WG.run' (E := env) ?_ | refine WG.gt' ?_ | refine WG.gf' ?_ | refine WG.ixm' (E := env) ?_ | refine WG.ixo' (E := env) ?_ | refine WG.legm' (E := env) ?_ | refine WG.slS' (E := env) ?_ | refine WG.slD' (E := env) ?_ | refine WG.ap' (E := env) ?_ | refine WD.nil ?_ | refine WD.bs' (E := env) ?_ | refine WD.s' (E := env) (t := .d _) ?_ | refine WD.p' ?_ | refine WD.px' ?_ | refine WD.s' (E := env) (t := .ea _ _) ?_ | refine WD.s' (E := env) (t := .lp _ _) ?_ | refine WD.s' (E := env) (t := .og _ _) ?_ | refine WD.s' (E := env) (t := .agg _) ?_ | refine WD.s' (E := env) (t := .tup _) ?_ | refine WD.s' (E := env) (t := .clo _ _) ?_ | refine WD.ixm' (E := env) ?_ | refine WD.ixo' (E := env) ?_ | refine WD.legm' (E := env) ?_ | refine WD.slS' (E := env) ?_ | refine WD.slD' (E := env) ?_ | refine WG.c (E := env) rfl rfl (hlt' _ (by omega) (by omega)) rfl rfl ?_ | refine WD.c (E := env) rfl rfl (hlt' _ (by omega) (by omega)) rfl rfl ?_ | refine WG.co (E := env) rfl rfl (hlt' _ (by omega) (by omega)) rfl rfl rfl rfl ?_ | refine WG.cx (E := env) rfl (hlt' _ (by omega) (by omega)) rfl ?_ | refine WG.c (E := env) rfl rfl (h6) rfl rfl ?_ | refine WD.c (E := env) rfl rfl (h6) rfl rfl ?_ | refine WG.co (E := env) rfl rfl (h6) rfl rfl rfl rfl ?_ | refine WG.cx (E := env) rfl (h6) rfl ?_ | refine WG.cL (E := env) rfl rfl (h7) rfl rfl rfl rfl ?_ | ((first | refine WG.sp' (fun h => ?_) fun h => ?_ | refine W.cond' (fun h => ?_) fun h => ?_ | refine WD.sp' (fun h => ?_) fun h => ?_) <;> (try simp only [decide_eq_true_eq, decide_eq_false_iff_not, Bool.not_eq_true', Bool.not_eq_false', Bool.and_eq_true, Bool.or_eq_true, Bool.and_eq_false_iff, Bool.or_eq_false_iff, Bool.not_eq_true, Bool.not_eq_false, Int.not_lt, Int.not_le, List.length_map, beq_self_eq_true, Bool.true_eq_false, Bool.false_eq_true] at h) <;> (try (exfalso; first | contradiction | omega))))
    · (try simp only [Int.toNat_natCast, Int.toNat_zero, toNat_cc, toNat_c1, toNat_cm1, toNat_cm] at *)
      exact ⟨_, _, by omega, ⟨i + 1, _, rfl, ⟨by omega, by omega, by rw [he, h, orI, if_pos rfl, V.cmps_at _ _ _ (by omega) (by omega)]⟩, rfl⟩, (by (refine le_ofL rfl ?_ ?_ <;> (repeat (first | exact trivial | refine ⟨⟨rfl, rfl⟩, ?_⟩ | refine ⟨rfl, .inl rfl, ?_⟩ | refine ⟨rfl, .inr rfl, ?_⟩))))⟩
    · (refine W.ret ?_; (first | refine RetQ.b' ?_ | refine RetQ.i' ?_ | refine RetQ.d' ?_ | refine RetQ.t2' ?_ ?_ | refine RetQ.t3' ?_ ?_ ?_))
      rw [he, orI, if_neg h, orL, if_pos h]
    · (refine W.ret ?_; (first | refine RetQ.b' ?_ | refine RetQ.i' ?_ | refine RetQ.d' ?_ | refine RetQ.t2' ?_ ?_ | refine RetQ.t3' ?_ ?_ ?_))
      rw [he, V.cmps_end _ _ _ (by omega) hi hi2]
      simp only [List.length_map, orI, orL]
      (repeat' split) <;> simp_all

/-- What comparing cells gives. -/
def cmpRes (cs ds : List Cell) : Int := if (valOfM cs).2 = 0 ∧ (valOfM ds).2 = 0 then V.cmp (valOfM cs).1 (valOfM ds).1 else 0

theorem valOf_fn' (cs : List Cell) (hf : fitsC cs) : Fun env.P 92 [cellsD cs] (.tup [.d (.agg (valOfM cs).1.rowP), .d (dI (valOfM cs).2)]) [] := by
  have h := valOf_fn cs hf.1 hf.2
  rwa [V.row_eq] at h

theorem valOfM_few {cs : List Cell} (h : (valOfM cs).2 = 0) : (valOfM cs).1.count ≤ 1048576 ∧ (valOfM cs).1.few 1048576 := by
  obtain ⟨h1, h2, h3, _⟩ := valOfM_cells h
  exact ⟨by omega, V.good_few _ _ h1 (by omega)⟩

set_option maxHeartbeats 1000000 in
theorem CompareValues_fn (cs ds : List Cell) (hc : fitsC cs) (hd : fitsC ds) : Fun env.P 22 [cellsD cs, cellsD ds] (.d (dI (cmpRes cs ds))) [] := by
  have h1 := valOf_fn' cs hc
  have h2 := valOf_fn' ds hd
  have h3 := fun h : (valOfM cs).2 = 0 => compareValsP_fn 1048576 (valOfM cs).1 (valOfM ds).1 (valOfM_few h).1 (Nat.le_refl _) (valOfM_few h).2
  unfold cmpRes
  generalize (valOfM cs).1 = v at h1 h3 ⊢
  generalize (valOfM ds).1 = w at h2 h3 ⊢
  generalize (valOfM cs).2 = c at h1 h3 ⊢
  generalize (valOfM ds).2 = d at h2 ⊢
  refine Fun.intro Try.func22 rfl (by kernel_rfl) rfl ?_
  repeat' (first | refine W.seq ?_ | refine W.rg ?_ | refine W.dra' ?_ | refine W.block ?_ | refine W.skip ?_ | refine W.exit ?_ | refine W.cond_true' ?_ | refine W.cond_false' ?_ | refine WG.nil ?_ | refine WG.run' (E := env) ?_ | refine WG.gt' ?_ | refine WG.gf' ?_ | refine WG.ixm' (E := env) ?_ | refine WG.ixo' (E := env) ?_ | refine WG.legm' (E := env) ?_ | refine WG.slS' (E := env) ?_ | refine WG.slD' (E := env) ?_ | refine WG.ap' (E := env) ?_ | refine WD.nil ?_ | refine WD.bs' (E := env) ?_ | refine WD.s' (E := env) (t := .d _) ?_ | refine WD.p' ?_ | refine WD.px' ?_ | refine WD.s' (E := env) (t := .ea _ _) ?_ | refine WD.s' (E := env) (t := .lp _ _) ?_ | refine WD.s' (E := env) (t := .og _ _) ?_ | refine WD.s' (E := env) (t := .agg _) ?_ | refine WD.s' (E := env) (t := .tup _) ?_ | refine WD.s' (E := env) (t := .clo _ _) ?_ | refine WD.ixm' (E := env) ?_ | refine WD.ixo' (E := env) ?_ | refine WD.legm' (E := env) ?_ | refine WD.slS' (E := env) ?_ | refine WD.slD' (E := env) ?_ | refine WG.c (E := env) rfl rfl (h1) rfl rfl ?_ | refine WD.c (E := env) rfl rfl (h1) rfl rfl ?_ | refine WG.co (E := env) rfl rfl (h1) rfl rfl rfl rfl ?_ | refine WG.cx (E := env) rfl (h1) rfl ?_ | refine WG.c (E := env) rfl rfl (h2) rfl rfl ?_ | refine WD.c (E := env) rfl rfl (h2) rfl rfl ?_ | refine WG.co (E := env) rfl rfl (h2) rfl rfl rfl rfl ?_ | refine WG.cx (E := env) rfl (h2) rfl ?_ | refine WG.c (E := env) rfl rfl (h3 (by assumption)) rfl rfl ?_ | refine WD.c (E := env) rfl rfl (h3 (by assumption)) rfl rfl ?_ | refine WG.co (E := env) rfl rfl (h3 (by assumption)) rfl rfl rfl rfl ?_ | refine WG.cx (E := env) rfl (h3 (by assumption)) rfl ?_ | ((first | refine WG.sp' (fun h => ?_) fun h => ?_ | refine W.cond' (fun h => ?_) fun h => ?_ | refine WD.sp' (fun h => ?_) fun h => ?_) <;> (try simp only [decide_eq_true_eq, decide_eq_false_iff_not, Bool.not_eq_true', Bool.not_eq_false', Bool.and_eq_true, Bool.or_eq_true, Bool.and_eq_false_iff, Bool.or_eq_false_iff, Bool.not_eq_true, Bool.not_eq_false, Int.not_lt, Int.not_le, List.length_map, beq_self_eq_true, Bool.true_eq_false, Bool.false_eq_true] at h) <;> (try (exfalso; first | contradiction | omega))))
  all_goals (refine W.ret ?_; (first | refine RetQ.b' ?_ | refine RetQ.i' ?_ | refine RetQ.d' ?_ | refine RetQ.t2' ?_ ?_ | refine RetQ.t3' ?_ ?_ ?_))
  all_goals simp_all

set_option maxHeartbeats 1000000 in
theorem SameValues_fn (cs ds : List Cell) (hc : fitsC cs) (hd : fitsC ds) : Fun env.P 23 [cellsD cs, cellsD ds] (.d (dB (decide ((valOfM cs).2 = 0 ∧ (valOfM ds).2 = 0 ∧ cmpRes cs ds = 0)))) [] := by
  have h1 := ValueFault_fn cs hc.1 hc.2
  have h2 := ValueFault_fn ds hd.1 hd.2
  have h3 := CompareValues_fn cs ds hc hd
  generalize cmpRes cs ds = r at h3 ⊢
  generalize (valOfM cs).2 = c at h1 h3 ⊢
  generalize (valOfM ds).2 = d at h2 ⊢
  refine Fun.intro Try.func23 rfl (by kernel_rfl) rfl ?_
  repeat' (first | refine W.seq ?_ | refine W.rg ?_ | refine W.dra' ?_ | refine W.block ?_ | refine W.skip ?_ | refine W.exit ?_ | refine W.cond_true' ?_ | refine W.cond_false' ?_ | refine WG.nil ?_ | refine WG.run' (E := env) ?_ | refine WG.gt' ?_ | refine WG.gf' ?_ | refine WG.ixm' (E := env) ?_ | refine WG.ixo' (E := env) ?_ | refine WG.legm' (E := env) ?_ | refine WG.slS' (E := env) ?_ | refine WG.slD' (E := env) ?_ | refine WG.ap' (E := env) ?_ | refine WD.nil ?_ | refine WD.bs' (E := env) ?_ | refine WD.s' (E := env) (t := .d _) ?_ | refine WD.p' ?_ | refine WD.px' ?_ | refine WD.s' (E := env) (t := .ea _ _) ?_ | refine WD.s' (E := env) (t := .lp _ _) ?_ | refine WD.s' (E := env) (t := .og _ _) ?_ | refine WD.s' (E := env) (t := .agg _) ?_ | refine WD.s' (E := env) (t := .tup _) ?_ | refine WD.s' (E := env) (t := .clo _ _) ?_ | refine WD.ixm' (E := env) ?_ | refine WD.ixo' (E := env) ?_ | refine WD.legm' (E := env) ?_ | refine WD.slS' (E := env) ?_ | refine WD.slD' (E := env) ?_ | refine WG.c (E := env) rfl rfl (h1) rfl rfl ?_ | refine WD.c (E := env) rfl rfl (h1) rfl rfl ?_ | refine WG.co (E := env) rfl rfl (h1) rfl rfl rfl rfl ?_ | refine WG.cx (E := env) rfl (h1) rfl ?_ | refine WG.c (E := env) rfl rfl (h2) rfl rfl ?_ | refine WD.c (E := env) rfl rfl (h2) rfl rfl ?_ | refine WG.co (E := env) rfl rfl (h2) rfl rfl rfl rfl ?_ | refine WG.cx (E := env) rfl (h2) rfl ?_ | refine WG.c (E := env) rfl rfl (h3) rfl rfl ?_ | refine WD.c (E := env) rfl rfl (h3) rfl rfl ?_ | refine WG.co (E := env) rfl rfl (h3) rfl rfl rfl rfl ?_ | refine WG.cx (E := env) rfl (h3) rfl ?_ | ((first | refine WG.sp' (fun h => ?_) fun h => ?_ | refine W.cond' (fun h => ?_) fun h => ?_ | refine WD.sp' (fun h => ?_) fun h => ?_) <;> (try simp only [decide_eq_true_eq, decide_eq_false_iff_not, Bool.not_eq_true', Bool.not_eq_false', Bool.and_eq_true, Bool.or_eq_true, Bool.and_eq_false_iff, Bool.or_eq_false_iff, Bool.not_eq_true, Bool.not_eq_false, Int.not_lt, Int.not_le, List.length_map, beq_self_eq_true, Bool.true_eq_false, Bool.false_eq_true] at h) <;> (try (exfalso; first | contradiction | omega))))
  all_goals (refine W.ret ?_; (first | refine RetQ.b' ?_ | refine RetQ.i' ?_ | refine RetQ.d' ?_ | refine RetQ.t2' ?_ ?_ | refine RetQ.t3' ?_ ?_ ?_))
  all_goals simp_all

end Go.Proofs.Ytlegadpbjccelaa
