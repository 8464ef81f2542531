/-
  The small logic: these rules in regions that draw their order; slices held against nil. Conditions: none.
-/
import Derived.Test.YthaakpbdijhgiaaGreatDoorQTokensOn9
import Derived.WalkSpells
import Derived.Test.YthaakpbdijhgiaaGreatDoorQTokensPgE
set_option linter.unusedVariables false
set_option linter.unusedSimpArgs false
namespace Go.Proofs.YthaakpbdijhgiaaGreatDoor
open Go.RowKit

section
variable {P : Program} {E : Env} {N : Nm} {tm : Nat → T} {ob : List Ob} {ops : List Oper} {ty : TypeId} {pos : String} {after : Array Edge} {gd : Option (Nat × Bool)} {d : Nat}

theorem OpS1.ixArr {t e : TypeId} {n : Nat} {x ix : Operand} {l0 off : Nat} {k : IntKind} {i : Int} (hw : St.want ⟨tm, ob⟩ ops ⟨some d, .indexAddr t x ix, ty, pos, after, gd⟩ = some true) (hd : Nat.blt d N.n = true)
    (ht : E.P.underlying t = some (.array n e)) (he : (E.ty e).known = true) (hz : (E.ty e).size = 1) (hx : St.ev ⟨tm, ob⟩ x = .lp l0 off) (hi : St.ev ⟨tm, ob⟩ ix = .d (.v (.int k i))) (hb : 0 ≤ i ∧ i < n) :
    OpS1 E.P N ops ⟨some d, .indexAddr t x ix, ty, pos, after, gd⟩ tm (.lp l0 (off + i.toNat)) ob ob := fun tm' hag l Q k' =>
  WL.ixArr (S := ⟨tm', ob⟩) (by rw [want_agree hag]; exact hw) hd ht he hz (by rw [ev_agree hag (by simp [Op.operands])]; exact hx) (by rw [ev_agree hag (by simp [Op.operands])]; exact hi) hb k'

theorem OpS1.ldA {t : TypeId} {x : Operand} {l0 off : Nat} {cs : List T} {c : T} (hw : St.want ⟨tm, ob⟩ ops ⟨some d, .load t x, ty, pos, after, gd⟩ = some true) (hd : Nat.blt d N.n = true)
    (hk : (E.ty t).known = true) (ha : (E.ty t).agg = false) (hx : St.ev ⟨tm, ob⟩ x = .lp l0 off) (hj : ob[l0]? = some (.pv cs)) (hc : cs[off]? = some c) :
    OpS1 E.P N ops ⟨some d, .load t x, ty, pos, after, gd⟩ tm c ob ob := fun tm' hag l Q k' =>
  WG.ldA (G := []) (by rw [want_agree hag]; exact hw) hd hk ha (by rw [ev_agree hag (by simp [Op.operands])]; exact hx) hj hc k'

theorem OpS1.slO {t e e' : TypeId} {x lo : Operand} {rows : List (List D)} {n m : Nat} {kl : IntKind} {li : Int} (hw : St.want ⟨tm, ob⟩ ops ⟨some d, .slice t x (some lo) none none, ty, pos, after, gd⟩ = some true) (hd : Nat.blt d N.n = true)
    (ht : (E.ty t).kind = .slice e) (he : (E.ty e).known = true) (hz : (E.ty e).size = 1) (hx : St.ev ⟨tm, ob⟩ x = .og m n) (hm : ob[m]? = some (.gr 1 e' rows n false)) (hl : St.ev ⟨tm, ob⟩ lo = .d (.v (.int kl li))) (hb : 0 ≤ li ∧ li < rows.length) :
    OpS1 E.P N ops ⟨some d, .slice t x (some lo) none none, ty, pos, after, gd⟩ tm (.os m n li.toNat) ob ob := fun tm' hag l Q k' =>
  WL.slO (S := ⟨tm', ob⟩) (by rw [want_agree hag]; exact hw) hd ht he hz (by rw [ev_agree hag (by simp [Op.operands])]; exact hx) hm (by rw [ev_agree hag (by simp [Op.operands])]; exact hl) hb k'

theorem OpS1.cpO {t t' e e' : TypeId} {s x : Operand} {rows news : List (List D)} {n m i : Nat} {ob2 : List Ob} (hw : St.want ⟨tm, ob⟩ ops ⟨some d, .call ⟨.builtin .copy, #[s, x], #[t, t']⟩, ty, pos, after, gd⟩ = some true) (hd : Nat.blt d N.n = true)
    (ht : (E.ty t).kind = .slice e) (he : (E.ty e).known = true) (hz : (E.ty e).size = 1) (hs : St.ev ⟨tm, ob⟩ s = .os m n i) (hm : ob[m]? = some (.gr 1 e' rows n false)) (hx : St.ev ⟨tm, ob⟩ x = .d (.sl 1 news)) (hb : i + news.length ≤ rows.length) (h0 : 0 < news.length)
    (ho : ob.set m (.gr 1 e' (setAll rows i news) n false) = ob2) :
    OpS1 E.P N ops ⟨some d, .call ⟨.builtin .copy, #[s, x], #[t, t']⟩, ty, pos, after, gd⟩ tm (vI .i64 news.length) ob ob2 := fun tm' hag l Q k' => by
  subst ho
  exact WL.cpO (S := ⟨tm', ob⟩) (by rw [want_agree hag]; exact hw) hd ht he hz (by rw [ev_agree hag (by simp [Op.operands, Call.operands])]; exact hs) hm (by rw [ev_agree hag (by simp [Op.operands, Call.operands])]; exact hx) hb h0 k'
end

section
variable {E : Env} {N : Nm} {Q : Exit → St → Prop} {tm : Nat → T} {ob : List Ob} {ops l : List Oper} {ty : TypeId} {pos : String} {after : Array Edge} {gd : Option (Nat × Bool)} {d : Nat} {G : List Nat}

/-- A slice that is nil, one that is not: held against nil. -/
theorem WG.neNil {t e : TypeId} {rt : TypeId} {x : Operand} {z : Nat} (hw : St.want ⟨tm, ob⟩ ops ⟨some d, .binOp .neq t x (.const (.slice none 0 0)) rt, ty, pos, after, gd⟩ = some true) (hd : Nat.blt d N.n = true)
    (ht : (E.ty t).kind = .slice e) (hx : St.ev ⟨tm, ob⟩ x = .d (.nl z))
    (k : WG G E.P N ops l Q ⟨upd tm d (.d (.v (.bool false))), ob⟩) : WG G E.P N ops (⟨some d, .binOp .neq t x (.const (.slice none 0 0)) rt, ty, pos, after, gd⟩ :: l) Q ⟨tm, ob⟩ :=
  WL.oper (S := ⟨tm, ob⟩) hw fun w0 σ0 a w g R => by
    have hv := R.ev x
    rw [hx] at hv
    have hu : a.eval x = .slice none 0 0 := hv.inv_d.inv_nl
    have h1 := Go.run_neq_slice_nil_any (P := E.P) w t e none 0 0 0 0 (E.slice ht)
    have h2 : a.eval (.const (.slice none 0 0)) = .slice none 0 0 := rfl
    have h3 : eqGuard .neq t x (.const (.slice none 0 0)) (.slice none 0 0) (.slice none 0 0) = pure () := by simp [eqGuard]
    unfold Oper.wp Oper.upon
    simp only [execOp, hu, h2, h3]
    simp only [Sem.run_bind, Sem.run_pure, Result.andThen_ok, h1]
    exact k w0 σ0 _ w g (R.set (by simpa using hd) (.d _ _ (.v _)))

theorem WG.neSl {t e : TypeId} {rt : TypeId} {x : Operand} {z : Nat} {rows : List (List D)} (hw : St.want ⟨tm, ob⟩ ops ⟨some d, .binOp .neq t x (.const (.slice none 0 0)) rt, ty, pos, after, gd⟩ = some true) (hd : Nat.blt d N.n = true)
    (ht : (E.ty t).kind = .slice e) (hx : St.ev ⟨tm, ob⟩ x = .d (.sl z rows)) (hr : Nat.blt 0 rows.length = true)
    (k : WG G E.P N ops l Q ⟨upd tm d (.d (.v (.bool true))), ob⟩) : WG G E.P N ops (⟨some d, .binOp .neq t x (.const (.slice none 0 0)) rt, ty, pos, after, gd⟩ :: l) Q ⟨tm, ob⟩ :=
  WL.oper (S := ⟨tm, ob⟩) hw fun w0 σ0 a w g R => by
    have hv := R.ev x
    rw [hx] at hv
    have hv2 := hv.inv_d
    obtain ⟨A, n, c, hu⟩ : ∃ (A : Addr) (n c : Nat), a.eval x = .slice (some A) n c := by
      generalize a.eval x = u at hv2
      cases hv2 with
      | nil _ A => simp at hr
      | sl _ _ b off cap U hcap hm hz hc hr => exact ⟨_, _, _, rfl⟩
    have h1 := Go.run_neq_slice_nil_any (P := E.P) w t e (some A) n c 0 0 (E.slice ht)
    have h2 : a.eval (.const (.slice none 0 0)) = .slice none 0 0 := rfl
    have h3 : eqGuard .neq t x (.const (.slice none 0 0)) (.slice (some A) n c) (.slice none 0 0) = pure () := by simp [eqGuard]
    unfold Oper.wp Oper.upon
    simp only [execOp, hu, h2, h3]
    simp only [Sem.run_bind, Sem.run_pure, Result.andThen_ok, h1]
    exact k w0 σ0 _ w g (R.set (by simpa using hd) (.d _ _ (.v _)))
end

end Go.Proofs.YthaakpbdijhgiaaGreatDoor
