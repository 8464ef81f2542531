/-
  What is proved: the card of the Go function laws.FnExactDecodeNumber: it returns true. For all arguments the program's DecodeNumber gives what the reference's gives.
  Conditions: those of the card: the listed package-level variables start as the program's text lays them (tied by the card).
-/
import Derived.Test.YtgdedcbijgeodaaDoorRows
import Derived.Test.YtgdedcbijgeodaaDoorCards
import Derived.Test.YtgdedcbijgeodaaDoorTie
import Derived.Test.YtgdedcbijgeodaaDoorEnv
import Derived.Test.YtgdedcbijgeodaaDoorPgC
import Derived.Test.YtgdedcbijgeodaaDoorDn6
import Derived.LaidMore
import Derived.Stop.Joined
import Derived.Stop.LaidErr
import Derived.SevenTiedAt
set_option linter.unusedVariables false
namespace Go.Proofs.YtgdedcbijgeodaaDoor
open Go.ChangeShapes Go.WideShapes Go.ChangeAt Go.RowKit

section
variable {H : Type} {enc : TypeId × Value → H} {P : Program}
/-- A law of plain arguments that returns true whatever they are, where a variable of the program is read. -/
theorem law_bodyG {f : FuncId} {fn : Func} {s : ChangeSpec} {apart fresh handsOn again : Bool} {n : Nat} {W : World} {args : Array Value} {ds gs : List (DataW H)} {before : List MemPlace} {tb : TypeId} {b : Nat} {u : Value}
    (hl : laidOutB P = true) (hp : fn.params.toList.all (plainTy P n) = true) (hr : (fn.params.toList.all fun t => P.readableRec t && decide (t < P.types.size)) = true)
    (hrt : fn.resultTypes = #[tb]) (hb : P.underlying tb = some .bool) (hvars : s.vars = [])
    (hs : ∀ ds : List (DataW H), ds.length = fn.params.toList.length → s.fn H (ds ++ []) = { results := [.lit (.bool true)], args := ds })
    (hval : ∀ (j : Nat) t v, fn.params[j]? = some t → args[j]? = some v → Value.okWide P W .any 0 t v)
    (hW : DataW.Whole enc P fn.params.toList s.vars apart W args.toList ds gs before) (hx : W.cell? ⟨b, 0, none⟩ = some u)
    (hfun : ∀ xs, wfAs P fn.params.toList xs → FunQ P f (xs.map .d) [.x (gvX b u) 0] (just (.d (.v (.bool true))) [.x (gvX b u) 0])) :
    Calls P f args W fun e W' => ∃ v, e = .returned v ∧ s.post enc P fn apart fresh handsOn again W args v W' := by
  have hW' := hW
  obtain ⟨p, q, hA, hV, rfl, hfz, hnd⟩ := hW
  rw [hvars] at hV
  obtain ⟨rfl, rfl⟩ := trodVars_none hV
  obtain ⟨xs, hlen, hwf, hrd⟩ := rd_args hp hA fun j t v ht hv => hval j t v (by simpa using ht) (by simpa using hv)
  have hdl : ds.length = fn.params.toList.length := by
    have : ∀ {ts : List TypeId} {vs : List Value} {ds : List (DataW H)} {p : List MemPlace}, DataW.TrodAll enc P W 0 (fun _ => true) true ts vs ds p → ds.length = ts.length := by
      intro ts
      induction ts with
      | nil => intro vs ds p h; cases vs <;> cases ds <;> first | rfl | exact h.elim
      | cons t ts ih =>
        intro vs ds p h
        cases vs with
        | nil => cases ds <;> exact h.elim
        | cons v vs =>
          cases ds with
          | nil => exact h.elim
          | cons d ds => obtain ⟨_, _, _, h2, _⟩ := h; simp [ih h2]
    exact this hA
  have hc := (hfun xs hwf).rawG W (memOf W) args.toList (fun b o u h => h) hx hlen hrd
  rw [show args.toList.toArray = args by simp] at hc
  refine hc.mono fun e W' ⟨v, g, he, I, _, hv⟩ => ?_
  have hv' := hv.inv_v
  subst hv'
  refine ⟨_, he, post_of_below (pa := p) (pv := []) hW' (fun b sp hd => ?_) (fun sp hsp => ?_) (fun sp hsp => ?_) rfl I ?_⟩
  · rw [hs ds hdl, hrt]
    exact trodAll_cons_mk (p := []) (p' := []) ⟨1, by simp [DataW.trod, Value.cells, hb]⟩ trodAll_mk0
  · rw [hs ds hdl]
    refine stay_args hl hr hA fun x hx => ⟨I.same (hW'.lt x (List.mem_append_left _ hx)), hsp x (List.mem_append_left _ hx)⟩
  · rw [hs ds hdl, hvars]; rfl
  · exact ok_one hrt rfl (by simp [Value.okWide, hb, Cell.okWide, Cell.ok])
end
end Go.Proofs.YtgdedcbijgeodaaDoor
namespace Go.Proofs.YtgdedcbijgeodaaDoor.fnExactDecodeNumber
open Go.ChangeShapes Go.WideShapes Go.ChangeAt Go.RowKit

theorem own : ownKnob Tryd.prog.godebug = none := by kernel_rfl
theorem laid : laidOutB Tryd.prog = true := by kernel_rfl

abbrev laidL : List (String × DataW Unit) := [("math/bits.deBruijn32tab", Rows.laid_math_bits_deBruijn32tab), ("math/bits.deBruijn64tab", Rows.laid_math_bits_deBruijn64tab), ("internal/strconv.uint64pow10", Rows.laid_internal_strconv_uint64pow10), ("strconv.ErrRange", Rows.laid_strconv_ErrRange), ("strconv.ErrSyntax", Rows.laid_strconv_ErrSyntax)]

theorem star : "*" ++ "errors.errorString" = "*errors.errorString" := by decide
theorem rowES (u : TypeId) (h : Tryd.prog.typeName? 3 u = some "*errors.errorString") : u = 59 :=
  typeName_ptr_named (nm := "errors.errorString") (by rw [star]; kernel_rfl) (by kernel_rfl) (by decide) u (by rw [star]; exact h)
theorem gR : Tryd.prog.globalNamed "strconv.ErrRange" = some gER := by kernel_rfl
theorem gRType : (Tryd.prog.globals[gER]?).map (·.type) = some 37 := by kernel_rfl
theorem cellsES : Tryd.prog.cellsOf 61 = 1 := by kernel_rfl
theorem cellsS : Tryd.prog.cellsOf 9 = 1 := by kernel_rfl

/-- What the condition gives the walk: the variable's cell. -/
theorem of_laid {W : World} (h : laidMetH Tryd.prog laidL W) : ∃ a : Addr, W.cell? ⟨gER, 0, none⟩ = some (.iface 59 (.pointer (some a))) := by
  rw [MakeChecks.laidMetH_plain _ _ _ (by kernel_rfl)] at h
  obtain ⟨a, s, hv, _⟩ := laid_sentinel h.tail.tail.tail gR gRType Tryd.underlying37 rowES Tryd.underlying59 Tryd.underlying61 rfl rfl Tryd.underlying9 cellsES cellsS
  have := World.var?_cell gR hv 0
  exact ⟨a, by simpa using this⟩

/-- The door's own heap meets the condition. -/
theorem door_met (os : Os) (args : Array Value) : laidMetH Tryd.prog laidL ((World.doorLaid Tryd.prog 400 os).forCall (fun _ _ => 0) ⟨#[], args, []⟩).memory :=
  laidMetH_of_parts3 (fuel := 8) (laidMet_of_run' 8 (by kernel_rfl) (by kernel_rfl)) (by kernel_rfl) (by kernel_rfl)

set_option maxRecDepth 100000 in
theorem lifted (os : Os) (started : os.Started) (H : Type) (enc : TypeId × Value → H) :
    ReturnsInHanded {} Tryd.checked os 3 .any (fun w args => (Rows.fnExactDecodeNumberSpec.pre enc Tryd.prog Tryd.f3 [] false w args ∧ laidMetH Tryd.prog laidL w) ∧ sizedMet enc Tryd.prog Tryd.f3 (OpenSpec.ofChange Rows.fnExactDecodeNumberSpec) false w args)
      (Rows.fnExactDecodeNumberSpec.post enc Tryd.prog Tryd.f3 false true false false) := by
  refine returnsInHanded_of_change_and (C := Tryd.checked) (X := fun w _ => laidMetH Tryd.prog laidL w) (fun _ _ _ hh h => h.of_heap hh) own started (by kernel_rfl) Tryd.func3
    (ChangeSpec.witness_shaped (enc := enc) (C := Tryd.checked) (os := os) (X := fun w _ => laidMetH Tryd.prog laidL w) false (World.doorLaid Tryd.prog 400 os) #[.string ByteArray.empty] 8 rfl (World.shaped_of_RefB (by kernel_rfl) (by kernel_rfl)) (by kernel_rfl) (by kernel_rfl) (by kernel_rfl) (door_met os _)) ?_
  intro W base args ds gs before hval hW _ _ hL _
  have hval0 : ∀ (j : Nat) (t : TypeId) (v : Value), Tryd.f3.params[j]? = some t → args[j]? = some v → Value.okWide Tryd.prog W .any base t v := hval
  obtain ⟨a, hx⟩ := of_laid hL
  refine law_bodyG (P := Tryd.prog) (n := 9) (tb := 4) laid (by kernel_rfl) (by kernel_rfl) (by kernel_rfl) Tryd.underlying4 rfl (fun ds h => ?_) (fun j t v ht hv => Value.okWide_any_base (hval0 j t v ht hv)) hW hx fun xs hxs => ?_
  · match ds, h with
    | [_], _ => rfl
  · rw [Tryd.params3] at hxs
    exact lawDecodeNumber _ (.inr ⟨_, _, rfl⟩) xs hxs

theorem row_holds : Rows.FnExactDecodeNumberSaid :=
  OpenClaim.holds_of_wide 3 Tryd.f3 rfl rfl rfl rfl rfl rfl rfl ⟨rfl, rfl, rfl, rfl, rfl⟩ rfl rfl rfl rfl rfl (by kernel_rfl) Tryd.func3 (by kernel_rfl)
    (of_decide_eq_true (by kernel_rfl)) (by unfold Func.isWrapper; first | (rw [if_pos (by decide +kernel)]; kernel_rfl) | (rw [if_neg (by decide +kernel)]; exact ⟨rfl, rfl⟩))
    (fun os started H enc _ => lifted os started H enc)

/-- The given statement. -/
theorem proved : Rows.FnExactDecodeNumberCardSaid :=
  Claim7.holds_tied_plain_at .later [] [.data, .data, .data, .sentinel, .sentinel] true (true, "8879280ecb4c810b5ca298788a6a02f5dbe22c4fbe98b12c680b87955c7f10bc") true
    row_holds (fun _ h => by cases h) (by kernel_rfl) (fun _ h => by cases h) fnExactDecodeNumber_row_tie rfl ⟨rfl, rfl⟩ (by kernel_rfl) rfl
    (fun f fn hf hfn => by
      obtain rfl : f = 3 := Option.some.inj ((show Tryd.prog.funcNamed "loop.example/g00166/laws.FnExactDecodeNumber" = some 3 by kernel_rfl).symm.trans hf) |>.symm
      obtain rfl : fn = Tryd.f3 := (Option.some.inj (Tryd.func3.symm.trans hfn)).symm
      exact ⟨by kernel_rfl, fun j t ht => by
        rw [Tryd.params3] at ht
        have h3 : t = 9 := by
          rcases j with _ | j
          · simpa using ht.symm
          · simp at ht
        subst h3
        exact (show Tryd.prog.wantsStandIn 9 = false by kernel_rfl)⟩)
    (by kernel_rfl)
#print axioms proved
end Go.Proofs.YtgdedcbijgeodaaDoor.fnExactDecodeNumber
