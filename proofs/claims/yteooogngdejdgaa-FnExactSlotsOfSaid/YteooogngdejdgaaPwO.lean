/-
  The small logic, fifteenth part: regions that draw their order and only read. Conditions: none.
-/
import Derived.Test.YteooogngdejdgaaPwN
import Derived.Deep.Quiet
set_option linter.unusedVariables false
set_option linter.unusedSimpArgs false
namespace Go.Proofs.Yteooogngdejdgaa
open Go.RowKit

theorem Inv.later {w0 : World} {σ0 : Bs} {ob : List Ob} {w w' : World} {g : Gh} (I : Inv w0 σ0 ob w g) (hb : Below w.heap.size w w') : Inv w0 σ0 ob w' g := by
  refine ⟨I.below.trans hb, I.old, fun b o u hu => ?_, fun k o hk => ?_, I.lim, I.dis, I.ext⟩
  · rw [World.cell?_of_block (w := w) (w' := w') (hb.block b (I.lt_of_σ hu))]
    exact I.con b o u hu
  · exact (I.obs k o hk).mono (Gh.le_refl g) rfl rfl (fun b hbk => ⟨hb.block b ((I.obs k o hk).at_lt hbk).2, fun _ => rfl⟩) hb.size

theorem Rel.later {N : Nm} {w0 : World} {σ0 : Bs} {S : St} {a : Act} {w w' : World} {g : Gh} (r : Rel N w0 σ0 S a w g) (hb : Below w.heap.size w w') : Rel N w0 σ0 S a w' g :=
  ⟨r.inv.later hb, r.defers, r.size, r.hm, r.hl, r.tm⟩

mutual
/-- The value of data without memory. -/
def D.plain : D → Option Value
  | .v x => some x
  | .agg cs => match D.plainL cs with | some vs => some (.agg vs.toArray) | none => none
  | _ => none
def D.plainL : List D → Option (List Value)
  | [] => some []
  | d :: r => match D.plain d, D.plainL r with | some y, some ys => some (y :: ys) | _, _ => none
end

mutual
theorem RD_plain {σ : Sto} : ∀ (d : D) (u v : Value), RD σ d u → d.plain = some v → u = v
  | .v x, u, v, h, hp => by
    simp only [D.plain, Option.some.injEq] at hp
    subst hp
    cases h; rfl
  | .nl z, u, v, h, hp => by simp [D.plain] at hp
  | .sl z rows, u, v, h, hp => by simp [D.plain] at hp
  | .agg cs, u, v, h, hp => by
    simp only [D.plain] at hp
    split at hp
    · rename_i vs hvs
      simp only [Option.some.injEq] at hp
      subst hp
      obtain ⟨us, rfl, hl, hr⟩ := h.inv_agg
      rw [RD_plainL cs us vs hl hr hvs]
    · cases hp
theorem RD_plainL {σ : Sto} : ∀ (cs : List D) (us vs : List Value), cs.length = us.length → (∀ (i : Nat) (x : D) (u : Value), cs[i]? = some x → us[i]? = some u → RD σ x u) → D.plainL cs = some vs → us = vs
  | [], [], vs, _, _, hp => by simpa [D.plainL] using hp
  | d :: r, u :: us, vs, hl, hr, hp => by
    simp only [D.plainL] at hp
    split at hp
    · rename_i v vs' hv hvs
      simp only [Option.some.injEq] at hp
      subst hp
      rw [RD_plain d u v (hr 0 d u rfl rfl) hv, RD_plainL r us vs' (by simpa using hl) (fun i x y hx hy => hr (i + 1) x y (by simpa using hx) (by simpa using hy)) hvs]
    · cases hp
end

mutual
theorem RD_of_plain {σ : Sto} : ∀ (d : D) (v : Value), d.plain = some v → RD σ d v
  | .v x, v, hp => by
    simp only [D.plain, Option.some.injEq] at hp
    subst hp
    exact .v _
  | .nl z, v, hp => by simp [D.plain] at hp
  | .sl z rows, v, hp => by simp [D.plain] at hp
  | .agg cs, v, hp => by
    simp only [D.plain] at hp
    split at hp
    · rename_i vs hvs
      simp only [Option.some.injEq] at hp
      subst hp
      obtain ⟨h1, h2⟩ := RD_of_plainL cs vs hvs
      exact .agg cs vs h1 h2
    · cases hp
theorem RD_of_plainL {σ : Sto} : ∀ (cs : List D) (vs : List Value), D.plainL cs = some vs → cs.length = vs.length ∧ ∀ (i : Nat) (x : D) (u : Value), cs[i]? = some x → vs[i]? = some u → RD σ x u
  | [], vs, hp => by
    simp only [D.plainL, Option.some.injEq] at hp
    subst hp
    exact ⟨rfl, fun i x u hx => by simp at hx⟩
  | d :: r, vs, hp => by
    simp only [D.plainL] at hp
    split at hp
    · rename_i v vs' hv hvs
      simp only [Option.some.injEq] at hp
      subst hp
      obtain ⟨h1, h2⟩ := RD_of_plainL r vs' hvs
      refine ⟨by simp [h1], fun i x u hx hu => ?_⟩
      cases i with
      | zero => simp at hx hu; subst hx; subst hu; exact RD_of_plain d v hv
      | succ i => exact h2 i x u (by simpa using hx) (by simpa using hu)
    · cases hp
end

/-- The walk of a region that draws its order, in the order of the text; every operation leaves memory as it was. -/
def WQ (P : Program) (N : Nm) (ops l : List Oper) (K : St → Prop) (S : St) : Prop :=
  ∀ w0 σ0 a w g, Rel N w0 σ0 S a w g → wpQuiet P ops.toArray (Below w.heap.size w) (fun a' => ∀ w', Below w.heap.size w w' → ∃ S', K S' ∧ Rel N w0 σ0 S' a' w' g) l a

section
variable {P : Program} {E : Env} {N : Nm} {K : St → Prop} {tm : Nat → T} {ob : List Ob} {ops l : List Oper} {op : Op} {ty : TypeId} {pos : String} {after : Array Edge} {gd : Option (Nat × Bool)} {d : Nat}

theorem W.dr {id : Nat} {Q : Exit → St → Prop} (hm : P.follows .mixedOrders = true) (hB : Region.lexB .any l.toArray = true) (h : WQ P N l l (Q .normal) ⟨tm, ob⟩) : W P N (.region id l.toArray true) Q ⟨tm, ob⟩ := fun w0 σ0 a w g r => by
  refine wp_region_quiet (C := Below w.heap.size w) hm hB ((Below.refl _ w).drew) ?_
  have := h w0 σ0 a w g r
  have mono' : ∀ (ops l : List Oper) (a : Act) (Q1 Q2 : Act → Prop), (∀ a, Q1 a → Q2 a) → wpQuiet P ops.toArray (Below w.heap.size w) Q1 l a → wpQuiet P ops.toArray (Below w.heap.size w) Q2 l a := by
    intro ops l
    induction l with
    | nil => intro a Q1 Q2 h h1; exact h a h1
    | cons o r ih =>
      intro a Q1 Q2 h h1
      unfold wpQuiet at h1 ⊢
      split at h1
      · rename_i hw; rw [if_pos hw]; exact Oper.quiet_mono (fun a' => ih a' Q1 Q2 h) h1
      · rename_i hw; rw [if_neg hw]; exact ih _ Q1 Q2 h h1
  refine mono' l l a _ _ (fun a' h' w' hw' => ?_) this
  obtain ⟨S', hK, r'⟩ := h' w' hw'
  exact ⟨S', g, hK, r'⟩

theorem WQ.nil (h : K ⟨tm, ob⟩) : WQ P N ops [] K ⟨tm, ob⟩ := fun w0 σ0 a w g r => fun w' hw' => ⟨_, h, r.later hw'⟩

theorem WQ.val {S S' : St} {d : Nat} {t : T} (hw : S.want ops ⟨some d, op, ty, pos, after, gd⟩ = some true) (hd : Nat.blt d N.n = true)
    (h : ∀ w0 σ0 a w g, Rel N w0 σ0 S a w g → ∃ v, (∀ w', Below w.heap.size w w' → (execOp a.eval ⟨some d, op, ty, pos, after, gd⟩).run P w' = .ok (.value v) w') ∧ RT g t v)
    (k : WQ P N ops l K (S.set d t)) : WQ P N ops (⟨some d, op, ty, pos, after, gd⟩ :: l) K S := fun w0 σ0 a w g r => by
  obtain ⟨v, hv, ht⟩ := h w0 σ0 a w g r
  unfold wpQuiet
  rw [if_pos (r.want hw)]
  refine ⟨v, fun w' hw' => ?_, k w0 σ0 _ w g (r.set (by simpa using hd) ht)⟩
  unfold Oper.quietAt
  rw [hv w' hw']
  exact ⟨rfl, rfl⟩

theorem WQ.s {p : Prop} {t : T} (hw : St.want ⟨tm, ob⟩ ops ⟨some d, op, ty, pos, after, gd⟩ = some true) (hd : Nat.blt d N.n = true) (h : ev1 E ⟨tm, ob⟩ op ty = some (p, t)) (hp : p)
    (k : WQ E.P N ops l K ⟨upd tm d t, ob⟩) : WQ E.P N ops (⟨some d, op, ty, pos, after, gd⟩ :: l) K ⟨tm, ob⟩ :=
  WQ.val (S' := ⟨tm, ob⟩) hw hd (fun w0 σ0 a w g r => ev1_all r h hp) k

theorem WQ.p (hw : St.want ⟨tm, ob⟩ ops ⟨some d, op, ty, pos, after, gd⟩ = some false) (hd : Nat.blt d N.n = true)
    (k : WQ P N ops l K ⟨upd tm d (.d (.v undef)), ob⟩) : WQ P N ops (⟨some d, op, ty, pos, after, gd⟩ :: l) K ⟨tm, ob⟩ := fun w0 σ0 a w g r => by
  unfold wpQuiet
  rw [if_neg (by rw [r.want hw]; simp)]
  exact k w0 σ0 _ w g (r.set (S := ⟨tm, ob⟩) (by simpa using hd) (.d _ _ (.v _)))

theorem WQ.sp {o p : Oper} {j : Nat} {b c : Bool} (hg : o.guard = some (j, b)) (hp : ops[j]? = some p) (hd : p.dst = some d) (hc : tm d = .d (.v (.bool c)))
    (ht : c = true → WQ P N ops (o :: l) K ⟨upd tm d (.d (.v (.bool true))), ob⟩) (hf : c = false → WQ P N ops (o :: l) K ⟨upd tm d (.d (.v (.bool false))), ob⟩) :
    WQ P N ops (o :: l) K ⟨tm, ob⟩ := fun w0 σ0 a w g r => by
  have same : ∀ t, tm d = t → Rel N w0 σ0 ⟨upd tm d t, ob⟩ a w g := fun t e => ⟨r.inv, r.defers, r.size, r.hm, r.hl, fun i => by
    by_cases hi : i = d
    · subst hi
      have : Nat.beq i i = true := by simp
      simp only [upd, this, cond_true]
      rw [← e]; exact r.tm i
    · simp only [upd, nbeq hi, cond_false]
      exact r.tm i⟩
  cases c with
  | true => exact ht rfl w0 σ0 a w g (same _ hc)
  | false => exact hf rfl w0 σ0 a w g (same _ hc)

theorem WQ.ix {t e : TypeId} {x ix : Operand} {z : Nat} {rows : List (List D)} {k : IntKind} {i : Int} {r : List D} (hw : St.want ⟨tm, ob⟩ ops ⟨some d, .indexAddr t x ix, ty, pos, after, gd⟩ = some true) (hd : Nat.blt d N.n = true)
    (ht : (E.ty t).kind = .slice e) (he : (E.ty e).known = true) (hz : (E.ty e).size = z) (hx : norm ob (St.ev ⟨tm, ob⟩ x) = .d (.sl z rows)) (hi : St.ev ⟨tm, ob⟩ ix = .d (.v (.int k i)))
    (hb : 0 ≤ i ∧ i < rows.length) (hr : rows[i.toNat]? = some r)
    (kk : WQ E.P N ops l K ⟨upd tm d (.ea r 0), ob⟩) : WQ E.P N ops (⟨some d, .indexAddr t x ix, ty, pos, after, gd⟩ :: l) K ⟨tm, ob⟩ :=
  WQ.val (S' := ⟨tm, ob⟩) hw hd (fun w0 σ0 a w g R => by
    have h1 := R.inv.norm (R.ev x)
    rw [hx] at h1
    have h2 := R.ev ix
    rw [hi] at h2
    have h2' := h2.inv_v
    obtain ⟨inf, zz, hinf, hsz, _⟩ := E.info he
    have hlt : i.toNat < rows.length := by omega
    generalize hxe : a.eval x = xv at h1
    cases h1.inv_d with
    | nil => simp at hlt
    | sl _ _ b off cap U hcap hm hzr hc hrr =>
      have hrl : r.length = z := hzr r (List.mem_of_getElem? hr)
      refine ⟨_, fun w' _ => by simp only [execOp, Sem.run_bind, hxe, h2', run_indexAt (E.slice ht) hinf b off rows.length cap k i hb, Result.andThen_ok, Sem.run_pure]; rfl, ?_⟩
      rw [hsz, hz]
      exact .ea r 0 b (off + i.toNat * z) (U i.toNat) (fun j hj => hc i.toNat j hlt (by omega)) (fun j y hy => hrr i.toNat j r y hr hy)) kk

theorem WQ.ixm {α : Type} [Inhabited α] {f f' : α → List D} {xs : List α} {t e : TypeId} {x ix : Operand} {z : Nat} {k : IntKind} {i : Int} (hw : St.want ⟨tm, ob⟩ ops ⟨some d, .indexAddr t x ix, ty, pos, after, gd⟩ = some true) (hd : Nat.blt d N.n = true)
    (ht : (E.ty t).kind = .slice e) (he : (E.ty e).known = true) (hz : (E.ty e).size = z) (hx : norm ob (St.ev ⟨tm, ob⟩ x) = .d (.sl z (xs.map f))) (hi : St.ev ⟨tm, ob⟩ ix = .d (.v (.int k i)))
    (hf : ∀ x, f x = f' x) (hb : 0 ≤ i ∧ i < xs.length)
    (kk : WQ E.P N ops l K ⟨upd tm d (.ea (f' (xs.getD i.toNat default)) 0), ob⟩) : WQ E.P N ops (⟨some d, .indexAddr t x ix, ty, pos, after, gd⟩ :: l) K ⟨tm, ob⟩ := by
  have hlt : i.toNat < xs.length := by omega
  exact WQ.ix hw hd ht he hz hx hi (by simpa using hb) (by rw [← hf]; simp [hlt]) kk

theorem WQ.c {f : FuncId} {xs : List Operand} {tys : List TypeId} {args : List D} {r : D} {v : Value} (hw : St.want ⟨tm, ob⟩ ops ⟨some d, .call ⟨.value (.func f), xs.toArray, tys.toArray⟩, ty, pos, after, gd⟩ = some true) (hd : Nat.blt d N.n = true)
    (hc : Fun E.P f args (.d r) []) (hr : r.plain = some v) (ha : argsOf E ⟨tm, ob⟩ xs tys = some args)
    (k : WQ E.P N ops l K ⟨upd tm d (.d r), ob⟩) : WQ E.P N ops (⟨some d, .call ⟨.value (.func f), xs.toArray, tys.toArray⟩, ty, pos, after, gd⟩ :: l) K ⟨tm, ob⟩ := fun w0 σ0 a w g R => by
  obtain ⟨h1, h2⟩ := R.args ha
  unfold wpQuiet
  rw [if_pos (R.want hw)]
  have call : ∀ w', Below w.heap.size w w' → Calls E.P f (xs.map a.eval).toArray w' fun e w'' => e = .returned v ∧ Below w.heap.size w w'' := fun w' hw' =>
    (hc.raw w' g.σ (xs.map a.eval) (R.inv.later hw').con h1 h2).mono fun e w'' ⟨u, g1, he, J, _, hu⟩ => by
      have := RD_plain r u v hu.inv_d hr
      subst this
      exact ⟨he, hw'.trans (J.mono hw'.size)⟩
  refine ⟨v, fun w' hw' => ?_, ?_⟩
  · unfold Oper.quietAt
    rw [run_call hc.enter]
    exact ⟨rfl, call w' hw'⟩
  · refine k w0 σ0 _ w g (R.set (S := ⟨tm, ob⟩) (by simpa using hd) (.d _ _ ?_))
    exact RD_of_plain r v hr
end
end Go.Proofs.Yteooogngdejdgaa
