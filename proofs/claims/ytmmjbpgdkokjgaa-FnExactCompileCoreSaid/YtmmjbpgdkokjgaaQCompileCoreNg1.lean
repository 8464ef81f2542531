/-
  The small logic: a nil slice in a row of values becomes the call's own; nests in drawn regions. Conditions: none.
-/
import Derived.Test.YtmmjbpgdkokjgaaQCompileCoreNf1
set_option linter.unusedVariables false
set_option linter.unusedSimpArgs false
namespace Go.Proofs.Ytmmjbpgdkokjgaa
open Go.RowKit

section
variable {E : Env} {N : Nm} {Q : Exit → St → Prop} {tm : Nat → T} {ob ob' : List Ob} {ops l : List Oper} {ty : TypeId} {pos : String} {after : Array Edge} {gd : Option (Nat × Bool)} {d : Nat} {G : List Nat}

/-- The same, of a row that is data. -/
theorem WG.adoptD {P : Program} (i j0 : Nat) (z : Nat) (e : TypeId) {ds : List D} {z0 K : Nat} (hi : tm i = .d (.agg ds)) (hj : ds[j0]? = some (.nl z0)) (hK : ob.length = K)
    (k : WG G P N ops l Q ⟨upd tm i (.agg ((ds.map T.d).set j0 (.og K 0))), ob ++ [.gr z e [] 0 false]⟩) : WG G P N ops l Q ⟨tm, ob⟩ := fun w0 σ0 a w g r => by
  subst hK
  obtain ⟨g', hle, I, ht⟩ := r.inv.adopt (by rw [r.hm]; exact r.hl) z e
  refine k w0 σ0 a w g' ⟨I, r.defers, r.size, r.hm, by have := r.hl; simp at this ⊢; omega, fun j => ?_⟩
  have h1 := r.tm j
  show RT g' (upd tm i _ j) _
  by_cases hjj : j = i
  · subst hjj
    have h1 : RT g (tm j) _ := h1
    rw [hi] at h1
    obtain ⟨vs, hv, hl, hat⟩ := h1.inv_d.inv_agg
    rw [show upd tm j (.agg ((ds.map T.d).set j0 (.og ob.length 0))) j = .agg ((ds.map T.d).set j0 (.og ob.length 0)) by simp [upd]]
    rw [hv]
    refine .agg _ vs (by simpa using hl) fun a x u hx hu => ?_
    by_cases hb : j0 = a
    · subst hb
      have hlo : j0 < (ds.map T.d).length := by have := (List.getElem?_eq_some_iff.1 hj).1; simpa using this
      rw [List.getElem?_set_self hlo] at hx
      simp only [Option.some.injEq] at hx
      subst hx
      have := (hat j0 _ u hj hu).inv_nl
      rw [this]
      exact ht
    · rw [List.getElem?_set_ne hb, List.getElem?_map, Option.map_eq_some_iff] at hx
      obtain ⟨y, hy, rfl⟩ := hx
      exact .d _ _ ((hat a y u hy hu).mono hle.σ)
  · rw [show upd tm i (.agg ((ds.map T.d).set j0 (.og ob.length 0))) j = tm j by simp [upd, nbeq hjj]]
    exact h1.mono hle

theorem OpS1.ixN {t e : TypeId} {x ix : Operand} {n m z j0 zi : Nat} {eo ei : TypeId} {rows : List NR} {hint : Option (Nat × Value)} {dd : Option (List (List D))} {k : IntKind} {i : Int} (hw : St.want ⟨tm, ob⟩ ops ⟨some d, .indexAddr t x ix, ty, pos, after, gd⟩ = some true) (hd : Nat.blt d N.n = true)
    (ht : (E.ty t).kind = .slice e) (he : (E.ty e).known = true) (hz : (E.ty e).size = z) (hx : St.ev ⟨tm, ob⟩ x = .og m n) (hm : ob[m]? = some (.x (nestX eo z j0 ei zi rows hint dd) n)) (hi : St.ev ⟨tm, ob⟩ ix = .d (.v (.int k i)))
    (hb : 0 ≤ i ∧ i < rows.length) :
    OpS1 E.P N ops ⟨some d, .indexAddr t x ix, ty, pos, after, gd⟩ tm (.eg m n z i.toNat 0) ob ob := fun tm' hag l Q k' =>
  WL.indexN (S := ⟨tm', ob⟩) (by rw [want_agree hag]; exact hw) hd ht he hz (by rw [ev_agree hag (by simp [Op.operands])]; exact hx) hm (by rw [ev_agree hag (by simp [Op.operands])]; exact hi) hb k'

theorem OpS1.lenN {t e : TypeId} {x : Operand} {n m z j0 zi : Nat} {eo ei : TypeId} {rows : List NR} {hint : Option (Nat × Value)} {dd : Option (List (List D))} (hw : St.want ⟨tm, ob⟩ ops ⟨some d, .call ⟨.builtin .len, #[x], #[t]⟩, ty, pos, after, gd⟩ = some true) (hd : Nat.blt d N.n = true)
    (ht : (E.ty t).kind = .slice e) (hx : St.ev ⟨tm, ob⟩ x = .og m n) (hm : ob[m]? = some (.x (nestX eo z j0 ei zi rows hint dd) n)) :
    OpS1 E.P N ops ⟨some d, .call ⟨.builtin .len, #[x], #[t]⟩, ty, pos, after, gd⟩ tm (vI .i64 rows.length) ob ob := fun tm' hag l Q k' =>
  WL.lenN (S := ⟨tm', ob⟩) (by rw [want_agree hag]; exact hw) hd ht (by rw [ev_agree hag (by simp [Op.operands, Call.operands])]; exact hx) hm k'

theorem OpS1.stND {t : TypeId} {x v : Operand} {k n z j0 zi i off : Nat} {eo ei : TypeId} {rows : List NR} {hint : Option (Nat × Value)} {dd : Option (List (List D))} {r : NR} {vals : List D} (hw : St.want ⟨tm, ob⟩ ops ⟨none, .store t x v, ty, pos, after, gd⟩ = some true) (hk : (E.ty t).known = true)
    (hx : St.ev ⟨tm, ob⟩ x = .eg k n z i off) (hm : ob[k]? = some (.x (nestX eo z j0 ei zi rows hint dd) n)) (hr : rows[i]? = some r) (hv : rowOf ob (fixNil E t (St.ev ⟨tm, ob⟩ v)) = some vals) (hn : Nat.beq vals.length (E.ty t).size = true) (ho : Nat.ble (off + vals.length) z = true)
    (h1 : onesD vals = true) (hj : (Nat.blt j0 off || Nat.ble (off + vals.length) j0) = true) (hob : ob.set k (.x (nestX eo z j0 ei zi (rows.set i ⟨setAll r.c off vals, r.own⟩) none none) n) = ob') :
    OpS1 E.P N ops ⟨none, .store t x v, ty, pos, after, gd⟩ tm .any ob ob' := fun tm' hag l Q k' => by
  subst hob
  exact WL.storeND (S := ⟨tm', ob⟩) (by rw [want_agree hag]; exact hw) hk (by rw [ev_agree hag (by simp [Op.operands])]; exact hx) hm hr (by rw [ev_agree hag (by simp [Op.operands])]; exact hv) hn ho h1 hj k'
end

section
variable {E : Env} {N : Nm} {G : List Nat} {Q : Exit → St → Prop} {ops : List Oper}

/-- runOps, at most n operations. -/
def runK (E : Env) (N : Nm) (G : List Nat) (ops : List Oper) : Nat → List Oper → (Nat → T) → List Ob → List Prop → Out
  | 0, l, tm, ob, ps => ⟨ps, l, tm, ob⟩
  | n + 1, [], tm, ob, ps => ⟨ps, [], tm, ob⟩
  | n + 1, o :: l, tm, ob, ps => stepOp E N G ops o tm ob (fun p tm' ob' => runK E N G ops n l tm' ob' (p :: ps)) ⟨ps, o :: l, tm, ob⟩

theorem runK_ok : ∀ (n : Nat) (l : List Oper) (tm : Nat → T) (ob : List Ob) (ps : List Prop), AllP (runK E N G ops n l tm ob ps).conds →
    AllP ps ∧ (WG G E.P N ops (runK E N G ops n l tm ob ps).rest Q ⟨(runK E N G ops n l tm ob ps).tm, (runK E N G ops n l tm ob ps).ob⟩ → WG G E.P N ops l Q ⟨tm, ob⟩)
  | 0, l, tm, ob, ps => fun h => ⟨h, fun k => k⟩
  | n + 1, [], tm, ob, ps => fun h => ⟨h, fun k => k⟩
  | n + 1, o :: l, tm, ob, ps => by
    unfold runK
    refine stepOp_ok (Q := Q) (l := l) (M := fun r => AllP r.conds → AllP ps ∧ (WG G E.P N ops r.rest Q ⟨r.tm, r.ob⟩ → WG G E.P N ops (o :: l) Q ⟨tm, ob⟩)) (fun h => ⟨h, fun k => k⟩) fun p tm' ob' hk h => ?_
    obtain ⟨h1, h2⟩ := runK_ok n l tm' ob' (p :: ps) h
    exact ⟨h1.2, fun k => hk h1.1 (h2 k)⟩

theorem WG.runN (n : Nat) {l l' : List Oper} {tm tm' : Nat → T} {ob ob' : List Ob} {ps : List Prop} (k : WG G E.P N ops l' Q ⟨tm', ob'⟩)
    (h : runK E N G ops n l tm ob [] = ⟨ps, l', tm', ob'⟩ := by exact rfl) (hlen : Nat.blt l'.length l.length = true := by exact rfl) (hp : AllP ps := by repeat (first | exact trivial | refine ⟨trivial, ?_⟩ | refine ⟨by first | exact trivial | (simp only [inRange, List.length_map]; omega) | omega | assumption, ?_⟩)) : WG G E.P N ops l Q ⟨tm, ob⟩ :=
  by
    have := runK_ok (E := E) (N := N) (G := G) (ops := ops) (Q := Q) n l tm ob []
    rw [h] at this
    exact (this hp).2 k
end

section
variable {P : Program} {E : Env} {N : Nm} {tm : Nat → T} {ob ob2 : List Ob} {ops : List Oper} {ty : TypeId} {pos : String} {after : Array Edge} {gd : Option (Nat × Bool)} {d : Nat}
/-- A call that writes to what it is lent, in a drawn region. -/
theorem OpS1.cqM {f : FuncId} {fop : Operand} {xs : List Operand} {tys : List TypeId} {cap args : List T} {obA obB : List Ob} {t t' : T} {KK : Nat} (idx off : List Nat) (hw : St.want ⟨tm, ob⟩ ops ⟨some d, .call ⟨.value fop, xs.toArray, tys.toArray⟩, ty, pos, after, gd⟩ = some true) (hd : Nat.blt d N.n = true)
    (hc : FunQ E.P f args obA (just t obB)) (hclo : cloOf (norm ob (St.ev ⟨tm, ob⟩ fop)) = some (f, cap)) (hK : KK = ob.length) (ha : argsT E ⟨tm, ob⟩ false xs tys ++ cap = T.renL ⟨idx, off, KK⟩ args) (hlp : T.lpOKL ⟨idx, off, KK⟩ args = true) (hnd : nodupB idx = true)
    (hA : Nat.beq obA.length idx.length = true) (hs : startL ⟨idx, off, KK⟩ 0 obA = true) (hmt : matchO ⟨idx, off, KK⟩ ob 0 obA) (hal : aliveN idx.length obB = true) (ht : T.ren ⟨idx, off, KK⟩ t = t') (ho : mergeO ⟨idx, off, KK⟩ 0 ob idx obB = ob2) :
    OpS1 E.P N ops ⟨some d, .call ⟨.value fop, xs.toArray, tys.toArray⟩, ty, pos, after, gd⟩ tm t' ob ob2 := fun tm' hag l Q k' => by
  have hfo : St.ev ⟨tm', ob⟩ fop = St.ev ⟨tm, ob⟩ fop := ev_agree hag (by simp only [Op.operands, Call.operands, Array.toList_append, List.mem_append]; exact .inl (by simp))
  refine WG.cq (G := []) idx off false (by rw [want_agree hag]; exact hw) hd hc (by rw [hfo]; exact hclo) hK ?_ hlp hnd hA hs hmt (.inl rfl) hal (fun h => nomatch h) ht ho k'
  rw [argsT_agree (S := ⟨tm, ob⟩) (S' := ⟨tm', ob⟩) rfl false fun x hx => ev_agree hag (by simp only [Op.operands, Call.operands, Array.toList_append, List.mem_append]; exact .inr (by simpa using hx))]
  exact ha
end

section
variable {E : Env} {N : Nm} {Q : Exit → St → Prop} {tm : Nat → T} {ob : List Ob} {ops l : List Oper} {ty : TypeId} {pos : String} {after : Array Edge} {gd : Option (Nat × Bool)} {d : Nat} {G : List Nat}
/-- A row that is known by another name. -/
theorem WG.ixeQ {α : Type} [Inhabited α] {f : α → List D} {r : List D} {xs : List α} {t e : TypeId} {x ix : Operand} {z : Nat} {k : IntKind} {i : Int} (hw : St.want ⟨tm, ob⟩ ops ⟨some d, .indexAddr t x ix, ty, pos, after, gd⟩ = some true) (hd : Nat.blt d N.n = true)
    (ht : (E.ty t).kind = .slice e) (he : (E.ty e).known = true) (hz : (E.ty e).size = z) (hx : norm ob (St.ev ⟨tm, ob⟩ x) = .d (.sl z (xs.map f))) (hi : St.ev ⟨tm, ob⟩ ix = .d (.v (.int k i)))
    (hf : f (xs.getD i.toNat default) = r) (hb : 0 ≤ i ∧ i < xs.length)
    (kk : WG G E.P N ops l Q ⟨upd tm d (.ea r 0), ob⟩) : WG G E.P N ops (⟨some d, .indexAddr t x ix, ty, pos, after, gd⟩ :: l) Q ⟨tm, ob⟩ := by
  subst hf
  exact WG.ixm hw hd ht he hz hx hi (fun _ => rfl) hb kk
end

theorem WG.pubK {P : Program} {N : Nm} {G : List Nat} {ops l : List Oper} {Q : Exit → St → Prop} {tm : Nat → T} {ob : List Ob} (k : Nat) {z n : Nat} {e : TypeId} {rows : List (List D)} (hk : ob[k]? = some (.gr z e rows n false))
    (h : WG G P N ops l Q ⟨fun i => pubd k n (.sl z rows) (tm i), ob.set k (.gr z e rows n true)⟩) : WG G P N ops l Q ⟨tm, ob⟩ := fun w0 σ0 a w g r => by
  obtain ⟨g', hle, hlim, I⟩ := r.inv.pub hk
  have hlt : k < ob.length := (List.getElem?_eq_some_iff.1 hk).1
  exact h w0 σ0 a w g' ⟨I, r.defers, r.size, r.hm, by simpa using r.hl, fun i => ((r.tm i).mono hle).pubd I (List.getElem?_set_self hlt)⟩
end Go.Proofs.Ytmmjbpgdkokjgaa
