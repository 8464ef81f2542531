/-
  The small logic, twenty-seventh part: slices made within a region that draws its order. Conditions: none.
-/
import Derived.Test.YteooogngdejdgaaPwZ
set_option linter.unusedVariables false
set_option linter.unusedSimpArgs false
namespace Go.Proofs.Yteooogngdejdgaa
open Go.RowKit

section
variable {P : Program} {E : Env} {N : Nm} {K : (Nat → T) → Prop} {tm tm' : Nat → T} {ob ob' : List Ob} {ops l : List Oper} {o : Oper} {op : Op} {ty : TypeId} {pos : String} {after : Array Edge} {gd : Option (Nat × Bool)} {d w : Nat} {dst : Option Nat} {ps : List (Nat × List Nat)} {p : List Nat} {obF : Nat → List Ob}

/-- A call that hands back a slice of its own making. -/
theorem OpS1.coG {f : FuncId} {xs : List Operand} {tys : List TypeId} {args : List D} {z KK : Nat} {e : TypeId} {rows : List (List D)} (hw : St.want ⟨tm, ob⟩ ops ⟨some d, .call ⟨.value (.func f), xs.toArray, tys.toArray⟩, ty, pos, after, gd⟩ = some true) (hd : Nat.blt d N.n = true)
    (hc : Fun E.P f args (.og 0 0) [.gr z e rows 0 false]) (ha : argsOf E ⟨tm, ob⟩ xs tys = some args) (hK : ob.length = KK) (ho : ob ++ [.gr z e rows 0 false] = ob') :
    OpS1 E.P N ops ⟨some d, .call ⟨.value (.func f), xs.toArray, tys.toArray⟩, ty, pos, after, gd⟩ tm (.og KK 0) ob ob' := fun tm' hag l Q k' => by
  subst ho
  exact WG.coG (G := []) (by rw [want_agree hag]; exact hw) hd hc (by rw [argsOf_agree (S := ⟨tm, ob⟩) (S' := ⟨tm', ob⟩) rfl fun x hx => ev_agree hag (by simp only [Op.operands, Call.operands, Array.toList_append, List.mem_append]; exact .inr (by simpa using hx))]; exact ha) hK k'

/-- A slice written out, as a slice of the call's own at the end of the list. -/
theorem OpS1.bsO {t e : TypeId} {len : Nat} {parts : List (Nat × Operand)} {z KK : Nat} {rows : List (List D)} (hw : St.want ⟨tm, ob⟩ ops ⟨some d, .buildSlice t len parts.toArray, ty, pos, after, gd⟩ = some true) (hd : Nat.blt d N.n = true)
    (ht : (E.ty t).kind = .slice e) (he : (E.ty e).known = true) (hz : (E.ty e).size = z) (hz0 : Nat.blt 0 z = true) (hlen : Nat.beq len parts.length = true) (hmax : Nat.ble (len * z) 16777216 = true)
    (hrows : rowsOf ⟨tm, ob⟩ 0 parts = some rows) (hwd : widths z rows = true) (hK : ob.length = KK) (ho : ob ++ [.gr z e rows 0 false] = ob') :
    OpS1 E.P N ops ⟨some d, .buildSlice t len parts.toArray, ty, pos, after, gd⟩ tm (.og KK 0) ob ob' := fun tm' hag l Q k' => by
  subst ho; subst hK
  refine WL.buildSlice (S := ⟨tm', ob⟩) (by rw [want_agree hag]; exact hw) hd ht he hz hz0 hlen hmax (by
    rw [rowsOf_agree (S := ⟨tm, ob⟩) (S' := ⟨tm', ob⟩) rfl parts 0 fun p hp => ev_agree hag (by simp [Op.operands]; exact ⟨p.1, hp⟩)]
    exact hrows) hwd k'
end
end Go.Proofs.Yteooogngdejdgaa
