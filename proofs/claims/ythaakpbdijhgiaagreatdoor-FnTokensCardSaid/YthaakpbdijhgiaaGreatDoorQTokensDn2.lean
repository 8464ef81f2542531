/-
  A variable of the program that is read and never written, as an object that a call is lent. Conditions: none.
-/
import Derived.Test.YthaakpbdijhgiaaGreatDoorQTokensPgC
import Derived.WideLaws
set_option linter.unusedVariables false
set_option linter.unusedSimpArgs false
namespace Go.Proofs.YthaakpbdijhgiaaGreatDoor
open Go.RowKit

section
variable {E : Env} {N : Nm} {Q : Exit → St → Prop} {ops l : List Oper} {ty : TypeId} {pos : String} {after : Array Edge} {gd : Option (Nat × Bool)} {d : Nat} {tm : Nat → T} {ob : List Ob} {G : List Nat}

/-- The nil value of an interface type. -/
theorem WG.ifNil {t rt : TypeId} {x : Operand} (hw : St.want ⟨tm, ob⟩ ops ⟨some d, .binOp .neq t x (.const .nilIface) rt, ty, pos, after, gd⟩ = some true) (hd : Nat.blt d N.n = true)
    (ht : E.P.underlying t = some (.interface (E.P.methodsAt t))) (hx : St.ev ⟨tm, ob⟩ x = .d (.v .nilIface))
    (k : WG G E.P N ops l Q ⟨upd tm d (.d (.v (.bool false))), ob⟩) : WG G E.P N ops (⟨some d, .binOp .neq t x (.const .nilIface) rt, ty, pos, after, gd⟩ :: l) Q ⟨tm, ob⟩ :=
  WL.oper (S := ⟨tm, ob⟩) hw fun w0 σ0 a w g R => by
    have hv := R.ev x
    rw [hx] at hv
    have hu := hv.inv_v
    have h1 := Go.run_neq_nil_nil (P := E.P) (w := w) t ht
    have h2 : a.eval (.const .nilIface) = .nilIface := rfl
    have h3 : eqGuard .neq t x (.const .nilIface) .nilIface .nilIface = pure () := by simp [eqGuard]
    unfold Oper.wp Oper.upon
    simp only [execOp, hu, h2, h3]
    simp only [Sem.run_bind, Sem.run_pure, Result.andThen_ok, h1]
    exact k w0 σ0 _ w g (R.set (by simpa using hd) (.d _ _ (.v _)))
end

end Go.Proofs.YthaakpbdijhgiaaGreatDoor
