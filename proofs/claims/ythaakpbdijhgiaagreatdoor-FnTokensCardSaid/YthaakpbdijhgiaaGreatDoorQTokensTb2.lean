/-
  Numbers in decimal, by the library and by the reference. Conditions: none.
-/
import Derived.Test.YthaakpbdijhgiaaGreatDoorQTokensEnv
import Derived.Test.YthaakpbdijhgiaaGreatDoorQTokensVal
import Derived.Test.YthaakpbdijhgiaaGreatDoorQTokensPgE
import Derived.Test.YthaakpbdijhgiaaGreatDoorQTokensTb1
import Derived.Test.YthaakpbdijhgiaaGreatDoorQTokensLs
import Derived.Shelf.Strconv.Itoa4
import Derived.Lib.AppendIntMem
set_option linter.unusedVariables false
set_option linter.unusedSimpArgs false
set_option maxRecDepth 100000
namespace Go.Proofs.YthaakpbdijhgiaaGreatDoor
open Go.RowKit

/-- The library's table of powers of ten: where it lies, what it holds. -/
noncomputable def gTab : Nat := ((Tryz.prog.globalNamed "internal/strconv.uint64pow10").getD 0)
theorem gTab_is : env.P.globalNamed "internal/strconv.uint64pow10" = some gTab := by kernel_rfl
noncomputable abbrev tabO (q : TypeId × (Nat × Nat)) : Ob := .x (tbX gTab (Lib.pow10Tab.map (Value.int .u64)) q) 0

theorem tab_is {w : World} {q : TypeId × (Nat × Nat)} (h : w.heap[gTab]? = some (.cells (Lib.pow10Tab.map (Value.int .u64)).toArray q.1 q.2)) : Lib.TabIs env.P w "internal/strconv.uint64pow10" .u64 Lib.pow10Tab := by
  unfold Lib.TabIs World.var?
  rw [gTab_is]
  simp only [Option.bind_some, h]

/-- What a function gives that is lent a table (object 0). -/
theorem RetR.tb {P : Program} {fn : Func} {X : ObX} {rest : List Ob} {x y : D} {e : Exit} {S : St} {ts : List T} (he : e = .ret ∨ e = .normal) (hts : resL S fn.results.toList = some ts) (hok : resOK P S fn.results.toList)
    (hn : norm S.ob (resT ts) = .d x) (hob : S.ob = .x X 0 :: rest) (h : x = y) : RetR P fn 1 (just (.d y) [.x X 0]) e S := by
  subst h
  exact RetR.own (ob' := [.x X 0]) ⟨[0], [0], S.ob.length⟩ he hts hok (by rw [hn]; rfl) rfl rfl rfl rfl rfl ⟨by rw [hob]; rfl, trivial⟩ rfl ⟨rfl, rfl⟩
theorem RetR.tb' {P : Program} {fn : Func} {X : ObX} {rest : List Ob} {x y : D} {e : Exit} {S : St} {ts : List T} (h : x = y) (he : e = .ret ∨ e = .normal := by exact .inl rfl) (hts : resL S fn.results.toList = some ts := by exact rfl)
    (hok : resOK P S fn.results.toList := by first | trivial | exact resOK_of (by exact rfl)) (hn : norm S.ob (resT ts) = .d x := by exact rfl) (hob : S.ob = .x X 0 :: rest := by exact rfl) : RetR P fn 1 (just (.d y) [.x X 0]) e S :=
  RetR.tb he hts hok hn hob h

section
variable {E : Env} {N : Nm} {K : St → Prop} {ops l : List Oper} {ob : List Ob} {tm : Nat → T} {ty : TypeId} {pos : String} {after : Array Edge} {gd : Option (Nat × Bool)} {d : Nat}
/-- Bytes to a text where the order is drawn. -/
theorem WD.b2s {src dst e : TypeId} {x : Operand} {ns : List Int} (hw : St.want ⟨tm, ob⟩ ops ⟨some d, .convert src dst x, ty, pos, after, gd⟩ = some true) (hd : Nat.blt d N.n = true)
    (hs : (E.ty src).kind = .slice e) (he : (E.ty e).kind = .int .u8) (hdst : (E.ty dst).kind = .string) (hx : srcRows ob (St.ev ⟨tm, ob⟩ x) = some (1, ns.map byteRow))
    (kk : WD E.P N ops ob K l (upd tm d (.d (.v (.string (strB ns)))))) : WD E.P N ops ob K (⟨some d, .convert src dst x, ty, pos, after, gd⟩ :: l) tm :=
  .cons _ (fun tm' hag l Q k' => WL.b2s (S := ⟨tm', ob⟩) (by rw [want_agree hag]; exact hw) hd hs he hdst (by rw [ev_agree hag (by simp [Op.operands])]; exact hx) k') kk
end

theorem entersT {P : Program} {f : FuncId} {fn : Func} {c : Code} (hf : P.funcs[f]? = some fn) (hb : fn.body = some c) (hname : (fn.name == "runtime.NumGoroutine") = false) (vals : Array Value) (w : World) :
    (callFunc f vals).run P w = .ok (.enter f vals) w := by
  unfold callFunc
  simp only [Sem.run_bind, run_program, Result.andThen_ok, hf, hname, hb, Bool.false_eq_true, if_false, Option.isNone_some, Sem.run_pure]

/-- A number in decimal. -/
def itoaS (n : Int) : ByteArray := ⟨(Lib.itoa n).toArray⟩
def decS (n : Nat) : ByteArray := ⟨(Lib.decDigits n).toArray⟩
theorem itoaS_nat (n : Nat) : itoaS (n : Int) = decS n := by unfold itoaS decS; rw [Lib.itoa_nonneg]
theorem itoaS_neg (n : Nat) (h : 1 ≤ n) : itoaS (-(n : Int)) = ⟨#[45]⟩ ++ decS n := by
  unfold itoaS decS
  rw [Lib.itoa_neg n h]
  apply ByteArray.ext
  rw [ByteArray.data_append]
  simp
theorem decS_size (n : Nat) (h : n < 18446744073709551616) : 1 ≤ (decS n).size ∧ (decS n).size ≤ 20 := by
  show 1 ≤ (List.toArray _).size ∧ (List.toArray _).size ≤ 20
  rw [List.size_toArray]
  by_cases h0 : n < 10
  · rw [Lib.decDigits_one h0]; simp
  · constructor
    · rw [Lib.decDigits, dif_neg h0]; simp
    · rw [Lib.decDigits_length]
      have := Lib.numDigits_eq n (by omega) h
      split at this <;> omega
theorem itoaS_size (n : Int) (h0 : -9223372036854775808 ≤ n) (h1 : n ≤ 9223372036854775807) : 1 ≤ (itoaS n).size ∧ (itoaS n).size ≤ 21 := by
  by_cases h : n < 0
  · obtain ⟨u, rfl⟩ : ∃ u : Nat, n = -(u : Int) := ⟨n.natAbs, by omega⟩
    rw [itoaS_neg u (by omega), ByteArray.size_append]
    have := decS_size u (by omega)
    have h2 : (⟨#[45]⟩ : ByteArray).size = 1 := rfl
    omega
  · obtain ⟨u, rfl⟩ : ∃ u : Nat, n = (u : Int) := ⟨n.toNat, by omega⟩
    rw [itoaS_nat]
    have := decS_size u (by omega)
    omega

theorem FormatInt_fn (q : TypeId × (Nat × Nat)) (n : Int) (h0 : -9223372036854775808 ≤ n) (h1 : n ≤ 9223372036854775807) : FunQ env.P 21 [vI .i64 n, vI .i64 10] [tabO q] (just (.d (dS (itoaS n))) [tabO q]) := by
  refine FunQ.ofRawT (args := [dI n, dI 10]) (entersT Tryz.func21 (c := _) rfl (by kernel_rfl)) fun w σ0 vals hσ hb hl hr => ?_
  match vals, hl with
  | [v0, v1], _ =>
    have e0 : v0 = .int .i64 n := by have := hr 0 _ v0 rfl rfl; cases this; rfl
    have e1 : v1 = .int .i64 10 := by have := hr 1 _ v1 rfl rfl; cases this; rfl
    subst e0; subst e1
    refine (Any.strconv_FormatInt_10 lays173 n h0 h1 w (tab_is hb)).mono fun e w' ⟨he, k, os, hw⟩ => ⟨_, he, ?_, fun g => .d _ _ (.v _)⟩
    rw [hw]
    exact Lib.below_grow _ w (Nat.le_refl _) k os

theorem strB_digit (d : Nat) (h : d < 10) : strB [48 + (d : Int)] = ⟨#[UInt8.ofNat (48 + d)]⟩ := by
  unfold strB
  simp only [List.foldl_cons, List.foldl_nil]
  rw [show (48 + (d : Int)).toNat = 48 + d by omega]
  rfl

set_option maxHeartbeats 1000000 in
theorem l2Digits_fn : ∀ (n : Nat), n ≤ 9223372036854775807 → Fun env.P 51 [dI n] (.d (dS (decS n))) [] := by
  intro n
  induction n using Nat.strongRecOn with
  | ind n ih =>
    intro hn
    by_cases h10 : n < 10
    · have hd : decS n = strB [48 + (n : Int)] := by rw [strB_digit n h10]; unfold decS; rw [Lib.decDigits_one h10]
      rw [hd]
      refine Fun.intro Tryz.func51 rfl (by kernel_rfl) rfl ?_
      repeat' (first | refine WG.b2s (E := env) (ns := [48 + (n : Int)]) rfl rfl rfl rfl rfl rfl ?_ | refine W.seq ?_ | refine W.rg ?_ | refine W.dra' ?_ | refine W.block ?_ | refine W.skip ?_ | refine W.exit ?_ | refine W.cond_true' ?_ | refine W.cond_false' ?_ | refine WG.nil ?_ | refine WG.run' (E := env) ?_ | refine WG.gt' ?_ | refine WG.gf' ?_ | refine WG.ixm' (E := env) ?_ | refine WG.ixo' (E := env) ?_ | refine WG.legm' (E := env) ?_ | refine WG.slS' (E := env) ?_ | refine WG.slD' (E := env) ?_ | refine WG.ap' (E := env) ?_ | refine WD.nil ?_ | refine WD.bs' (E := env) ?_ | refine WD.s' (E := env) (t := .d _) ?_ | refine WD.p' ?_ | refine WD.px' ?_ | refine WD.s' (E := env) (t := .ea _ _) ?_ | refine WD.s' (E := env) (t := .lp _ _) ?_ | refine WD.s' (E := env) (t := .og _ _) ?_ | refine WD.s' (E := env) (t := .agg _) ?_ | refine WD.s' (E := env) (t := .tup _) ?_ | refine WD.s' (E := env) (t := .clo _ _) ?_ | refine WD.ixm' (E := env) ?_ | refine WD.ixo' (E := env) ?_ | refine WD.legm' (E := env) ?_ | refine WD.slS' (E := env) ?_ | refine WD.slD' (E := env) ?_ | fail | ((first | refine WG.sp' (fun h => ?_) fun h => ?_ | refine W.cond' (fun h => ?_) fun h => ?_ | refine WD.sp' (fun h => ?_) fun h => ?_) <;> (try simp only [decide_eq_true_eq, decide_eq_false_iff_not, Bool.not_eq_true', Bool.not_eq_false', Bool.and_eq_true, Bool.or_eq_true, Bool.and_eq_false_iff, Bool.or_eq_false_iff, Bool.not_eq_true, Bool.not_eq_false, Int.not_lt, Int.not_le, List.length_map, beq_self_eq_true, Bool.true_eq_false, Bool.false_eq_true] at h) <;> (try (exfalso; first | contradiction | omega))))
      (refine W.ret ?_; (first | refine RetQ.b' ?_ | refine RetQ.i' ?_ | refine RetQ.d' ?_ | refine RetQ.t2' ?_ ?_ | refine RetQ.t3' ?_ ?_ ?_))
      rfl
    · have hmod : ((n : Int).tmod 10) = ((n % 10 : Nat) : Int) := by rw [Int.tmod_eq_emod_of_nonneg (by omega)]; rfl
      have hmod2 : 0 ≤ ((n : Int).tmod 10) ∧ ((n : Int).tmod 10) ≤ 9 := by rw [hmod]; omega
      have hdiv : ((n : Int).tdiv 10) = ((n / 10 : Nat) : Int) := by rw [Int.tdiv_eq_ediv_of_nonneg (by omega)]; rfl
      have hdiv2 : 0 ≤ ((n : Int).tdiv 10) ∧ ((n : Int).tdiv 10) ≤ n := by rw [hdiv]; omega
      have hd : decS n = decS (n / 10) ++ strB [48 + ((n : Int).tmod 10)] := by
        rw [hmod, strB_digit (n % 10) (by omega)]
        unfold decS
        rw [Lib.decDigits, dif_neg h10]
        apply ByteArray.ext
        rw [ByteArray.data_append]
        simp
      have ih2 := ih (n / 10) (by omega) (by omega)
      rw [← hdiv] at ih2
      have hsz := decS_size (n / 10) (by omega)
      have hb : (strB [48 + ((n : Int).tmod 10)]).size = 1 := rfl
      rw [hd]
      generalize decS (n / 10) = b at *
      refine Fun.intro Tryz.func51 rfl (by kernel_rfl) rfl ?_
      repeat' (first | refine WD.b2s (E := env) (ns := [48 + ((n : Int).tmod 10)]) rfl rfl rfl rfl rfl rfl ?_ | refine W.seq ?_ | refine W.rg ?_ | refine W.dra' ?_ | refine W.block ?_ | refine W.skip ?_ | refine W.exit ?_ | refine W.cond_true' ?_ | refine W.cond_false' ?_ | refine WG.nil ?_ | refine WG.run' (E := env) ?_ | refine WG.gt' ?_ | refine WG.gf' ?_ | refine WG.ixm' (E := env) ?_ | refine WG.ixo' (E := env) ?_ | refine WG.legm' (E := env) ?_ | refine WG.slS' (E := env) ?_ | refine WG.slD' (E := env) ?_ | refine WG.ap' (E := env) ?_ | refine WD.nil ?_ | refine WD.bs' (E := env) ?_ | refine WD.s' (E := env) (t := .d _) ?_ | refine WD.p' ?_ | refine WD.px' ?_ | refine WD.s' (E := env) (t := .ea _ _) ?_ | refine WD.s' (E := env) (t := .lp _ _) ?_ | refine WD.s' (E := env) (t := .og _ _) ?_ | refine WD.s' (E := env) (t := .agg _) ?_ | refine WD.s' (E := env) (t := .tup _) ?_ | refine WD.s' (E := env) (t := .clo _ _) ?_ | refine WD.ixm' (E := env) ?_ | refine WD.ixo' (E := env) ?_ | refine WD.legm' (E := env) ?_ | refine WD.slS' (E := env) ?_ | refine WD.slD' (E := env) ?_ | refine WG.c (E := env) rfl rfl (ih2) rfl rfl ?_ | refine WD.c (E := env) rfl rfl (ih2) rfl rfl ?_ | refine WG.co (E := env) rfl rfl (ih2) rfl rfl rfl rfl ?_ | refine WG.cx (E := env) rfl (ih2) rfl ?_ | ((first | refine WG.sp' (fun h => ?_) fun h => ?_ | refine W.cond' (fun h => ?_) fun h => ?_ | refine WD.sp' (fun h => ?_) fun h => ?_) <;> (try simp only [decide_eq_true_eq, decide_eq_false_iff_not, Bool.not_eq_true', Bool.not_eq_false', Bool.and_eq_true, Bool.or_eq_true, Bool.and_eq_false_iff, Bool.or_eq_false_iff, Bool.not_eq_true, Bool.not_eq_false, Int.not_lt, Int.not_le, List.length_map, beq_self_eq_true, Bool.true_eq_false, Bool.false_eq_true] at h) <;> (try (exfalso; first | contradiction | omega))))
      all_goals (refine W.ret ?_; (first | refine RetQ.b' ?_ | refine RetQ.i' ?_ | refine RetQ.d' ?_ | refine RetQ.t2' ?_ ?_ | refine RetQ.t3' ?_ ?_ ?_))
      all_goals rfl

end Go.Proofs.YthaakpbdijhgiaaGreatDoor
