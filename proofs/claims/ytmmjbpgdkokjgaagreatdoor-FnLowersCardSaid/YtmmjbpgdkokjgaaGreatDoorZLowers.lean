/-
  What is proved: the card of the Go function laws.FnLowers: it returns true. Its sentence: the core of a program whose names are known has no fault.
  Conditions: those of the card: the listed package-level variables start as the program's text lays them (tied by the card).
-/
import Derived.Test.YtmmjbpgdkokjgaaGreatDoorRows
import Derived.Test.YtmmjbpgdkokjgaaGreatDoorCards
import Derived.Test.YtmmjbpgdkokjgaaGreatDoorTie
import Derived.Test.YtmmjbpgdkokjgaaGreatDoorQLOr1
import Derived.Test.YtmmjbpgdkokjgaaGreatDoorQLPgC
import Derived.Test.YtmmjbpgdkokjgaaGreatDoorQLLo2
set_option linter.unusedVariables false
namespace Go.Proofs.YtmmjbpgdkokjgaaGreatDoor.fnLowers
open Go.ChangeShapes Go.WideShapes Go.ChangeAt Go.RowKit

set_option maxRecDepth 100000 in
theorem lifted (os : Os) (started : os.Started) (H : Type) (enc : TypeId × Value → H) :
    ReturnsInHanded {} Tryz.checked os 3 .any (fun w args => (Rows.fnLowersSpec.pre enc Tryz.prog Tryz.f3 [] false w args ∧ laidMetH Tryz.prog laidL w) ∧ sizedMet enc Tryz.prog Tryz.f3 (OpenSpec.ofChange Rows.fnLowersSpec) false w args)
      (Rows.fnLowersSpec.post enc Tryz.prog Tryz.f3 false true false false) := by
  refine returnsInHanded_of_change_and (C := Tryz.checked) (X := fun w _ => laidMetH Tryz.prog laidL w) (fun _ _ _ hh h => h.of_heap hh) tied_own started (by kernel_rfl) Tryz.func3
    (ChangeSpec.witness_shaped (enc := enc) (C := Tryz.checked) (os := os) (X := fun w _ => laidMetH Tryz.prog laidL w) false (World.doorLaid Tryz.prog 400 os) #[.slice none 0 0] 8 rfl (World.shaped_of_RefB (by kernel_rfl) (by kernel_rfl)) (by kernel_rfl) (by kernel_rfl) (by kernel_rfl) (door_met os _)) ?_
  intro W base args ds gs before hval hW _ _ hL _
  have hval0 : ∀ (j : Nat) (t : TypeId) (v : Value), Tryz.f3.params[j]? = some t → args[j]? = some v → Value.okWide Tryz.prog W .any base t v := hval
  obtain ⟨q, hx⟩ := of_laid hL
  refine law_bodyT (P := Tryz.prog) (n := 9) (tb := 4) (q := q) tied_laid (by kernel_rfl) (by kernel_rfl) (by kernel_rfl) Tryz.underlying4 rfl (fun ds h => ?_) (fun j t v ht hv => Value.okWide_any_base (hval0 j t v ht hv)) hW hx (fun xs hxs => ?_) fun xs hxs => ?_
  · match ds, h with
    | [_], _ => rfl
  · rw [Tryz.params3] at hxs
    exact lawLowers_nou xs hxs
  · rw [Tryz.params3] at hxs
    exact lawLowers q xs hxs

theorem row_holds : Rows.FnLowersSaid :=
  OpenClaim.holds_of_wide 3 Tryz.f3 rfl rfl rfl rfl rfl rfl rfl ⟨rfl, rfl, rfl, rfl, rfl⟩ rfl rfl rfl rfl rfl (by kernel_rfl) Tryz.func3 (by kernel_rfl)
    (of_decide_eq_true (by kernel_rfl)) (by unfold Func.isWrapper; first | (rw [if_pos (by decide +kernel)]; kernel_rfl) | (rw [if_neg (by decide +kernel)]; exact ⟨rfl, rfl⟩))
    (fun os started H enc _ => lifted os started H enc)

/-- The given statement. -/
theorem proved : Rows.FnLowersCardSaid :=
  Claim7.holds_tied_plain_at .later [] [.data, .data, .data] true (true, "e87efc8bbaaa85c6e585a4b65fea359ff1aeeae205b54fffb91caee684bdd0ff") true
    row_holds (fun _ h => by cases h) (by kernel_rfl) (fun _ h => by cases h) fnLowers_row_tie rfl ⟨rfl, rfl⟩ (by kernel_rfl) rfl
    (fun f fn hf hfn => by
      obtain rfl : f = 3 := Option.some.inj ((show Tryz.prog.funcNamed "loop.example/g00166/laws.FnLowers" = some 3 by kernel_rfl).symm.trans hf) |>.symm
      obtain rfl : fn = Tryz.f3 := (Option.some.inj (Tryz.func3.symm.trans hfn)).symm
      exact ⟨by kernel_rfl, fun j t ht => by
        rw [Tryz.params3] at ht
        match j, ht with
        | 0, ht => simp at ht; subst ht; exact (show Tryz.prog.wantsStandIn 22 = false by kernel_rfl)
        | j + 1, ht => simp at ht⟩)
    (by kernel_rfl)
#print axioms proved
end Go.Proofs.YtmmjbpgdkokjgaaGreatDoor.fnLowers
