/-
  Texts of this claim in one. Conditions: none.
-/
import Derived.Test.YtlegadpbjccelaaQPartsP2
import Derived.Test.YtlegadpbjccelaaQPartsPgE
section
set_option linter.unusedVariables false
set_option linter.unusedSimpArgs false
set_option maxRecDepth 100000
namespace Go.Proofs.Ytlegadpbjccelaa
open Go.RowKit

def orI (p q : Int) : Int := if p = 0 then q else p
def cmpI (a b : Int) : Int := if a < b then -1 else if b < a then 1 else 0
def cmpS (a b : ByteArray) : Int := if lessK a b = true then -1 else if lessK b a = true then 1 else 0
def cmpKs : List ByteArray → List ByteArray → Int
  | [], [] => 0
  | [], _ :: _ => -1
  | _ :: _, [] => 1
  | a :: r, b :: s => orI (cmpS a b) (cmpKs r s)

mutual
def V.cmp : V → V → Int
  | .mk k n t ks kids, w => orI (cmpI k w.kind) (orI (cmpI n w.num) (orI (cmpS t w.text) (orI (cmpKs ks w.keys) (V.cmps kids w.kids))))
def V.cmps : List V → List V → Int
  | [], [] => 0
  | [], _ :: _ => -1
  | _ :: _, [] => 1
  | a :: r, b :: s => orI (V.cmp a b) (V.cmps r s)
end

theorem V.cmp_eq (v w : V) : V.cmp v w = orI (cmpI v.kind w.kind) (orI (cmpI v.num w.num) (orI (cmpS v.text w.text) (orI (cmpKs v.keys w.keys) (V.cmps v.kids w.kids)))) := by
  cases v; rfl

/-! ### bytes -/

/-! ### an order's laws, for three results -/

theorem orI_neg (p q : Int) : orI (-p) (-q) = - orI p q := by unfold orI; (repeat' split) <;> omega

theorem cmpI_neg (a b : Int) : cmpI b a = - cmpI a b := by unfold cmpI; (repeat' split) <;> omega
theorem cmpS_neg (a b : ByteArray) : cmpS b a = - cmpS a b := by
  unfold cmpS
  by_cases h1 : lessK a b = true <;> by_cases h2 : lessK b a = true
  · have := less_trans _ _ _ h1 h2
    rw [less_irrefl] at this; cases this
  · simp [h1, h2]
  · simp [h1, h2]
  · simp [h1, h2]

theorem cmpKs_neg : ∀ a b : List ByteArray, cmpKs b a = - cmpKs a b
  | [], [] => rfl
  | [], _ :: _ => rfl
  | _ :: _, [] => rfl
  | a :: r, b :: s => by rw [cmpKs, cmpKs, cmpKs_neg r s, cmpS_neg a b, orI_neg]

mutual
theorem V.cmp_neg : ∀ a b : V, V.cmp b a = - V.cmp a b
  | .mk k n t ks kids, .mk k' n' t' ks' kids' => by
    have h := V.cmps_neg kids kids'
    simp only [V.cmp, V.kind, V.num, V.text, V.keys, V.kids]
    rw [h, cmpI_neg k k', cmpI_neg n n', cmpS_neg t t', cmpKs_neg ks ks', orI_neg, orI_neg, orI_neg, orI_neg]
theorem V.cmps_neg : ∀ a b : List V, V.cmps b a = - V.cmps a b
  | [], [] => rfl
  | [], _ :: _ => by simp [V.cmps]
  | _ :: _, [] => by simp [V.cmps]
  | a :: r, b :: s => by rw [V.cmps, V.cmps, V.cmps_neg r s, V.cmp_neg a b, orI_neg]
end

theorem V.cmp_self (v : V) : V.cmp v v = 0 := by
  have := V.cmp_neg v v
  omega

/-- Two lists from a place on. -/
theorem V.cmps_at (a b : List V) (i : Nat) (ha : i < a.length) (hb : i < b.length) : V.cmps (a.drop i) (b.drop i) = orI (V.cmp (a.getD i default) (b.getD i default)) (V.cmps (a.drop (i + 1)) (b.drop (i + 1))) := by
  rw [drop_step ha, drop_step hb, V.cmps]
theorem V.cmps_end (a b : List V) (i : Nat) (h : a.length ≤ i ∨ b.length ≤ i) (ha : i ≤ a.length) (hb : i ≤ b.length) : V.cmps (a.drop i) (b.drop i) = cmpI a.length b.length := by
  unfold cmpI
  rcases Nat.lt_trichotomy a.length b.length with h1 | h1 | h1
  · obtain rfl : i = a.length := by omega
    rw [List.drop_length, drop_step h1, V.cmps, if_pos (by omega)]
  · obtain rfl : i = a.length := by omega
    rw [List.drop_length, h1, List.drop_length, V.cmps, if_neg (by omega), if_neg (by omega)]
  · obtain rfl : i = b.length := by omega
    rw [List.drop_length, drop_step h1, V.cmps, if_neg (by omega), if_pos (by omega)]
theorem cmpKs_at (a b : List ByteArray) (i : Nat) (ha : i < a.length) (hb : i < b.length) : cmpKs (a.drop i) (b.drop i) = orI (cmpS (a.getD i default) (b.getD i default)) (cmpKs (a.drop (i + 1)) (b.drop (i + 1))) := by
  rw [drop_step ha, drop_step hb, cmpKs]
theorem cmpKs_end (a b : List ByteArray) (i : Nat) (h : a.length ≤ i ∨ b.length ≤ i) (ha : i ≤ a.length) (hb : i ≤ b.length) : cmpKs (a.drop i) (b.drop i) = cmpI a.length b.length := by
  unfold cmpI
  rcases Nat.lt_trichotomy a.length b.length with h1 | h1 | h1
  · obtain rfl : i = a.length := by omega
    rw [List.drop_length, drop_step h1, cmpKs, if_pos (by omega)]
  · obtain rfl : i = a.length := by omega
    rw [List.drop_length, h1, List.drop_length, cmpKs, if_neg (by omega), if_neg (by omega)]
  · obtain rfl : i = b.length := by omega
    rw [List.drop_length, drop_step h1, cmpKs, if_neg (by omega), if_pos (by omega)]

end Go.Proofs.Ytlegadpbjccelaa
end

section
set_option linter.unusedVariables false
set_option linter.unusedSimpArgs false
namespace Go.Proofs.Ytlegadpbjccelaa
open Go.RowKit

section
variable {E : Env} {N : Nm} {Q : Exit → St → Prop} {ops l : List Oper} {ty : TypeId} {pos : String} {after : Array Edge} {gd : Option (Nat × Bool)} {d : Nat} {tm : Nat → T} {ob : List Ob} {G : List Nat}

theorem WG.cL {f : FuncId} {xs : List Operand} {tys : List TypeId} {args : List D} {t : T} (hw : St.want ⟨tm, ob⟩ ops ⟨some d, .call ⟨.value (.func f), xs.toArray, tys.toArray⟩, ty, pos, after, gd⟩ = some true) (hd : Nat.blt d N.n = true)
    (hc : Fun E.P f args t []) (ha : argsT E ⟨tm, ob⟩ true xs tys ++ [] = T.renL ⟨[], [], ob.length⟩ (args.map T.d)) (hlp : T.lpOKL ⟨[], [], ob.length⟩ (args.map T.d) = true) (hfl : t.flat = true) (hu : t.under 0 = true)
    (k : WG G E.P N ops l Q ⟨upd tm d t, ob⟩) : WG G E.P N ops (⟨some d, .call ⟨.value (.func f), xs.toArray, tys.toArray⟩, ty, pos, after, gd⟩ :: l) Q ⟨tm, ob⟩ :=
  WG.cq (E := E) [] [] true hw hd hc rfl rfl ha hlp rfl rfl rfl trivial (.inr rfl) rfl (fun _ => ⟨hfl, by intro o ho; cases ho⟩) (T.ren_under t hu) (by simp [mergeO, renFrom]) k
end
end Go.Proofs.Ytlegadpbjccelaa
end
