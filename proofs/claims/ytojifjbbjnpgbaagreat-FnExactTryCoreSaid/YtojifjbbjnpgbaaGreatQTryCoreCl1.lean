/-
  A call to which all slices of the call's own are lent to be read. Conditions: none.
-/
import Derived.Test.YtojifjbbjnpgbaaGreatQTryCorePgE
set_option linter.unusedVariables false
set_option linter.unusedSimpArgs false
namespace Go.Proofs.YtojifjbbjnpgbaaGreat
open Go.RowKit

section
variable {E : Env} {N : Nm} {Q : Exit → St → Prop} {ops l : List Oper} {ty : TypeId} {pos : String} {after : Array Edge} {gd : Option (Nat × Bool)} {d : Nat} {tm : Nat → T} {ob : List Ob} {G : List Nat}

theorem WG.cL {f : FuncId} {xs : List Operand} {tys : List TypeId} {args : List D} {t : T} (hw : St.want ⟨tm, ob⟩ ops ⟨some d, .call ⟨.value (.func f), xs.toArray, tys.toArray⟩, ty, pos, after, gd⟩ = some true) (hd : Nat.blt d N.n = true)
    (hc : Fun E.P f args t []) (ha : argsT E ⟨tm, ob⟩ true xs tys ++ [] = T.renL ⟨[], [], ob.length⟩ (args.map T.d)) (hlp : T.lpOKL ⟨[], [], ob.length⟩ (args.map T.d) = true) (hfl : t.flat = true) (hu : t.under 0 = true)
    (k : WG G E.P N ops l Q ⟨upd tm d t, ob⟩) : WG G E.P N ops (⟨some d, .call ⟨.value (.func f), xs.toArray, tys.toArray⟩, ty, pos, after, gd⟩ :: l) Q ⟨tm, ob⟩ :=
  WG.cq (E := E) [] [] true hw hd hc rfl rfl ha hlp rfl rfl rfl trivial (.inr rfl) rfl (fun _ => ⟨hfl, by intro o ho; cases ho⟩) (T.ren_under t hu) (by simp [mergeO, renFrom]) k
end
end Go.Proofs.YtojifjbbjnpgbaaGreat
