/-
  The small logic: calls that are lent objects, within a region that draws its order. Conditions: none.
-/
import Derived.Test.YtfmhfdegkpbeiaaGreatDoorQFormatProgramQFormatProgramPgE
set_option linter.unusedVariables false
set_option linter.unusedSimpArgs false
namespace Go.Proofs.YtfmhfdegkpbeiaaGreatDoor
open Go.RowKit

section
variable {P : Program} {E : Env} {N : Nm} {tm tm' : Nat → T} {ob ob' : List Ob} {ops l : List Oper} {ty : TypeId} {pos : String} {after : Array Edge} {gd : Option (Nat × Bool)} {d : Nat}

/-- A call that is lent objects (and may hand back others). -/
theorem OpS1.cq {f : FuncId} {fop : Operand} {xs : List Operand} {tys : List TypeId} {cap args : List T} {obA obB : List Ob} {t t' : T} (idx off : List Nat) {KK : Nat} (lend : Bool) (hw : St.want ⟨tm, ob⟩ ops ⟨some d, .call ⟨.value fop, xs.toArray, tys.toArray⟩, ty, pos, after, gd⟩ = some true) (hd : Nat.blt d N.n = true)
    (hc : FunQ E.P f args obA (just t obB)) (hclo : cloOf (norm ob (St.ev ⟨tm, ob⟩ fop)) = some (f, cap)) (hK : KK = ob.length) (ha : argsT E ⟨tm, ob⟩ lend xs tys ++ cap = T.renL ⟨idx, off, KK⟩ args) (hlp : T.lpOKL ⟨idx, off, KK⟩ args = true) (hnd : nodupB idx = true)
    (hA : Nat.beq obA.length idx.length = true) (hs : startL ⟨idx, off, KK⟩ 0 obA = true) (hmt : matchO ⟨idx, off, KK⟩ ob 0 obA) (hno : lend = false ∨ idx = []) (hal : aliveN idx.length obB = true) (hfl : lend = true → t.flat = true ∧ ∀ o ∈ obB, o.flat)
    (ht : T.ren ⟨idx, off, KK⟩ t = t') (ho : mergeO ⟨idx, off, KK⟩ 0 ob idx obB = ob') :
    OpS1 E.P N ops ⟨some d, .call ⟨.value fop, xs.toArray, tys.toArray⟩, ty, pos, after, gd⟩ tm t' ob ob' := fun tm' hag l Q k' => by
    have hfo : St.ev ⟨tm', ob⟩ fop = St.ev ⟨tm, ob⟩ fop := ev_agree hag (by simp only [Op.operands, Call.operands, Array.toList_append, List.mem_append]; exact .inl (by simp))
    refine WG.cq (G := []) idx off lend (by rw [want_agree hag]; exact hw) hd hc (by rw [hfo]; exact hclo) hK ?_ hlp hnd hA hs hmt hno hal hfl ht ho k'
    rw [argsT_agree (S := ⟨tm, ob⟩) (S' := ⟨tm', ob⟩) rfl lend fun x hx => ev_agree hag (by simp only [Op.operands, Call.operands, Array.toList_append, List.mem_append]; exact .inr (by simpa using hx))]
    exact ha

/-- A call that is lent objects and leaves them as they are, where nothing is written. -/
theorem WD.cq {K : St → Prop} {f : FuncId} {fop : Operand} {xs : List Operand} {tys : List TypeId} {cap args : List T} {obA obB : List Ob} {t t' : T} (idx off : List Nat) {KK : Nat} (lend : Bool) (hw : St.want ⟨tm, ob⟩ ops ⟨some d, .call ⟨.value fop, xs.toArray, tys.toArray⟩, ty, pos, after, gd⟩ = some true) (hd : Nat.blt d N.n = true)
    (hc : FunQ E.P f args obA (just t obB)) (hclo : cloOf (norm ob (St.ev ⟨tm, ob⟩ fop)) = some (f, cap)) (hK : KK = ob.length) (ha : argsT E ⟨tm, ob⟩ lend xs tys ++ cap = T.renL ⟨idx, off, KK⟩ args) (hlp : T.lpOKL ⟨idx, off, KK⟩ args = true) (hnd : nodupB idx = true)
    (hA : Nat.beq obA.length idx.length = true) (hs : startL ⟨idx, off, KK⟩ 0 obA = true) (hmt : matchO ⟨idx, off, KK⟩ ob 0 obA) (hno : lend = false ∨ idx = []) (hal : aliveN idx.length obB = true) (hfl : lend = true → t.flat = true ∧ ∀ o ∈ obB, o.flat)
    (ht : T.ren ⟨idx, off, KK⟩ t = t') (ho : mergeO ⟨idx, off, KK⟩ 0 ob idx obB = ob)
    (k : WD E.P N ops ob K l (upd tm d t')) : WD E.P N ops ob K (⟨some d, .call ⟨.value fop, xs.toArray, tys.toArray⟩, ty, pos, after, gd⟩ :: l) tm :=
  .cons t' (OpS1.cq idx off lend hw hd hc hclo hK ha hlp hnd hA hs hmt hno hal hfl ht ho) k
end

end Go.Proofs.YtfmhfdegkpbeiaaGreatDoor
