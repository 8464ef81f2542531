/-
  The small logic: a map of the call's own, from integers to integers. Conditions: none.
-/
import Derived.Maps.OwnSet
import Derived.Maps.Keyed
import Derived.Test.YtmmjbpgdkokjgaaQCompileCorePgE
set_option linter.unusedVariables false
set_option linter.unusedSimpArgs false
namespace Go.Proofs.Ytmmjbpgdkokjgaa
open Go.RowKit

abbrev DVi := DataW Value
/-- Elements read as they are. -/
def rdI : Value → Option (DVi × List MemPlace) := fun v => some (.held v, [])
abbrev keyI (x : Int) : Lit := .int .i64 x
abbrev okI (x : Int) : Prop := (Lit.int .i64 x).wf = true
theorem okI_of {x : Int} (h : -9223372036854775808 ≤ x ∧ x ≤ 9223372036854775807) : okI x := by
  show (Lit.int .i64 x).wf = true
  simp only [Lit.wf, Bool.and_eq_true, decide_eq_true_eq]
  have e1 : IntKind.min .i64 = -9223372036854775808 := by decide
  have e2 : IntKind.max .i64 = 9223372036854775807 := by decide
  omega
theorem keyI_inj {x y : Int} (h : keyI x = keyI y) : x = y := by injection h

/-- What a map reads as, and what it is in the walk's own words. -/
def imR (DD : DVi) (m : Int → Option Int) : Prop :=
  ∀ x : Int, okI x → match m x with
    | none => Maps.has DD (keyI x) = false
    | some v => Maps.has DD (keyI x) = true ∧ ∀ zd, DD.atKey (keyI x) zd = .held (.int .i64 v)
theorem imR.empty : imR (.map []) (fun _ => none) := fun x hx => rfl
theorem imR.put {DD : DVi} {m : Int → Option Int} (h : imR DD m) (hm : Maps.IsMap DD) {s v : Int} : imR (DD.put (keyI s) (.held (.int .i64 v))) (fun x => if x = s then some v else m x) := fun x hx => by
  by_cases e : x = s
  · subst e
    simp only [if_true]
    exact ⟨Maps.has_put_same hm (show WideAt.IsKeyLit (.int .i64 _) from trivial) _, fun zd => Maps.atKey_put_same hm (show WideAt.IsKeyLit (.int .i64 _) from trivial) _ _⟩
  · simp only [if_neg e]
    have hne : keyI x ≠ keyI s := fun h => e (keyI_inj h)
    have := h x hx
    rw [Maps.has_put_other hne]
    split
    · rename_i e1; rw [e1] at this; exact this
    · rename_i d1 e1
      rw [e1] at this
      obtain ⟨h1, h2⟩ := this
      exact ⟨h1, fun zd => by rw [Maps.atKey_put_other hne]; exact h2 zd⟩

theorem ownsMap_swapI {w w' : World} {P : Program} {k : TypeId} {b n : Nat} {DD : DVi} (hb : w'.heap[b]? = w.heap[b]?) (h : w.ownsMap P k rdI b n DD) : w'.ownsMap P k rdI b n DD := by
  obtain ⟨es, clock, h1, h2⟩ := h
  exact ⟨es, clock, hb.trans h1, h2⟩

/-- A map of the call's own from integers to integers. -/
def imX (P : Program) (k : TypeId) (b n : Nat) (m : Int → Option Int) : ObX where
  ok σ h F v := v = .map (some b) ∧ (∀ c, F c ↔ c = b) ∧ ∃ (w : World) (DD : DVi), w.heap[b]? = h b ∧ w.ownsMap P k rdI b n DD ∧ imR DD m
  mono := by
    rintro σ σ' h h' F v hs hh ⟨h1, h2, w, DD, h3, h4, h5⟩
    exact ⟨h1, h2, w, DD, h3.trans (hh b ((h2 b).2 rfl)).symm, h4, h5⟩
  one := by rintro σ h F v ⟨h1, _⟩; rw [h1]; rfl

abbrev imT (b : Nat) : T := .d (.v (.map (some b)))

section
variable {E : Env} {N : Nm} {Q : Exit → St → Prop} {S : St} {ops l : List Oper} {ty : TypeId} {pos : String} {after : Array Edge} {gd : Option (Nat × Bool)} {d : Nat}

theorem WL.makeMapI {t kt : TypeId} (hw : S.want ops ⟨some d, .makeMap t none, ty, pos, after, gd⟩ = some true) (hd : Nat.blt d N.n = true)
    (k : ∀ b, WL E.P N ops l Q ⟨(S.set d (imT b)).tm, S.ob ++ [.x (imX E.P kt b 0 (fun _ => none)) 0]⟩) : WL E.P N ops (⟨some d, .makeMap t none, ty, pos, after, gd⟩ :: l) Q S :=
  WL.oper hw fun w0 σ0 a w g r => by
    obtain ⟨g', hle, hσ, hl1, hγ, I'⟩ := r.inv.addF (below_alloc w (.map #[] 0)) (.x (imX E.P kt w.heap.size 0 (fun _ => none)) 0) (.map (some w.heap.size)) (fun c => c = w.heap.size) (fun g' hle hσ hl1 hγ hf => by
      have hnew := heap_alloc_new w (.map #[] 0)
      refine ⟨⟨hl1, ⟨hγ, fun c => by rw [hf], w.alloc (.map #[] 0), .map [], rfl, World.ownsMap_made w E.P kt rdI, imR.empty⟩, fun b hb => ?_⟩, fun b hb => ?_⟩
      · rw [hf] at hb
        have hb' : b = w.heap.size := hb
        subst hb'
        exact ⟨.inl r.inv.below.size, (Array.getElem?_eq_some_iff.1 hnew).1, fun o => by rw [hσ]; exact r.inv.new_none (Nat.le_refl _) o⟩
      · have hb : g'.foot S.ob.length b := hb
        rw [hf] at hb
        have hb' : b = w.heap.size := hb
        omega) (by rw [r.hm]; exact r.hl)
    unfold Oper.wp Oper.upon
    simp only [execOp, run_makeMap, Sem.run_bind, Option.map_none, Result.andThen_ok]
    have r' : Rel N w0 σ0 ⟨S.tm, S.ob ++ [.x (imX E.P kt w.heap.size 0 (fun _ => none)) 0]⟩ a (w.alloc (.map #[] 0)) g' := ⟨I', r.defers, r.size, r.hm, Nat.le_trans r.hl (by simp), fun i => (r.tm i).mono hle⟩
    exact k w.heap.size w0 σ0 _ _ g' (r'.set (by simpa using hd) (.d _ _ (.v _)))

/-- m[s] = v -/
theorem WL.mapUpdateI {t kt et : TypeId} {x y v : Operand} {b n nn kk : Nat} {s u : Int} {m : Int → Option Int} (hw : S.want ops ⟨none, .mapUpdate t x y v, ty, pos, after, gd⟩ = some true)
    (ht : E.P.underlying t = some (.map kt et)) (hkt : E.P.underlying kt = some (.int .i64)) (hx : S.ev x = imT b) (hy : S.ev y = .d (.v (.int .i64 s))) (hv : S.ev v = .d (.v (.int .i64 u))) (hm : S.ob[kk]? = some (.x (imX E.P kt b n m) nn)) (hs : okI s) (hn : n < maxLen)
    (k : WL E.P N ops l Q ⟨S.tm, S.ob.set kk (.x (imX E.P kt b (n + 1) (fun x => if x = s then some u else m x)) nn)⟩) : WL E.P N ops (⟨none, .mapUpdate t x y v, ty, pos, after, gd⟩ :: l) Q S :=
  WL.effskip (by simp) hw (fun w0 σ0 a w g R => by
    have hxr := R.ev x; rw [hx] at hxr
    have hyr := R.ev y; rw [hy] at hyr
    have hvr := R.ev v; rw [hv] at hvr
    obtain ⟨hlim, ⟨h1, h2, w1, DD, hb, hown, hmR⟩, hfoot⟩ := R.inv.obs kk _ hm
    have hown := ownsMap_swapI hb.symm hown
    obtain ⟨w', hrun, hown', hg⟩ := hown.update (Maps.int_keyed hkt) ht hn (Maps.keyOf_int_mk hkt hs) (val := a.eval v) (d := .held (a.eval v)) (ps := []) rfl
    rw [hvr.inv_v] at hown'
    refine ⟨w', g, ?_, Gh.le_refl g, R.inv.turn hm (by intros; simp) (by omega) (Gh.le_refl g) rfl (fun _ _ => ⟨rfl, rfl⟩) hg.os hg.tape hg.output hg.size (fun b' hb' hn' => hg.block b' hb' fun e => hn' ((h2 b').2 (Option.some.inj e))) ?_ (fun _ h => .inl h)⟩
    · simp [execOp, hxr.inv_v, hyr.inv_v, hrun]
    · exact ⟨hlim, ⟨h1, h2, w', _, rfl, hown', hmR.put hown.isMap⟩, fun b' hb' => ⟨(hfoot b' hb').1, Nat.lt_of_lt_of_le (hfoot b' hb').2.1 hg.size, (hfoot b' hb').2.2⟩⟩) k

/-- m[s], s a key of m -/
theorem WL.lookupI {t kt et : TypeId} {x y : Operand} {b n nn kk : Nat} {m : Int → Option Int} {s u : Int} (hw : S.want ops ⟨some d, .lookup t x y false, ty, pos, after, gd⟩ = some true) (hd : Nat.blt d N.n = true)
    (ht : E.P.underlying t = some (.map kt et)) (hkt : E.P.underlying kt = some (.int .i64)) (het : (E.ty et).known = true) (hx : S.ev x = imT b) (hy : S.ev y = .d (.v (.int .i64 s))) (hm : S.ob[kk]? = some (.x (imX E.P kt b n m) nn))
    (hs : okI s) (hms : m s = some u)
    (k : WL E.P N ops l Q (S.set d (.d (.v (.int .i64 u))))) : WL E.P N ops (⟨some d, .lookup t x y false, ty, pos, after, gd⟩ :: l) Q S :=
  WL.val hw hd (fun w0 σ0 a w g R => by
    have hxr := R.ev x; rw [hx] at hxr
    have hyr := R.ev y; rw [hy] at hyr
    obtain ⟨inf, z, hinf, _, _, hz, _⟩ := E.info het
    obtain ⟨hlim, ⟨h1, h2, w1, DD, hb, hown, hmR⟩, hfoot⟩ := R.inv.obs kk _ hm
    have hown := ownsMap_swapI hb.symm hown
    have := hmR s hs
    rw [hms] at this
    obtain ⟨_, hat⟩ := this
    obtain ⟨v, ps, hrun, hv⟩ := hown.lookup (e := et) (Maps.int_keyed hkt) ht (z := z) (by simp [zeroValue, typeInfo, hinf, hz]) (zd := .held z) (zp := []) rfl (Maps.keyOf_int_mk hkt hs)
    rw [hat] at hv
    have hv : some (DataW.held v, ([] : List MemPlace)) = some (.held (.int .i64 u), ps) := hv
    injection hv with hv
    injection hv with hv _
    injection hv with hv
    subst hv
    exact ⟨_, by simp [execOp, hxr.inv_v, hyr.inv_v, hrun], .d _ _ (.v _)⟩) k

/-- v, ok := m[s] -/
theorem WL.lookOkI {t kt et : TypeId} {x y : Operand} {b n nn kk : Nat} {m : Int → Option Int} {s : Int} (hw : S.want ops ⟨some d, .lookup t x y true, ty, pos, after, gd⟩ = some true) (hd : Nat.blt d N.n = true)
    (ht : E.P.underlying t = some (.map kt et)) (hkt : E.P.underlying kt = some (.int .i64)) (het : (E.ty et).known = true) (hx : S.ev x = imT b) (hy : S.ev y = .d (.v (.int .i64 s))) (hm : S.ob[kk]? = some (.x (imX E.P kt b n m) nn))
    (hs : okI s)
    (k0 : m s = none → WL E.P N ops l Q (S.set d (.tup [.any, .d (.v (.bool false))])))
    (k1 : ∀ u, m s = some u → WL E.P N ops l Q (S.set d (.tup [.d (.v (.int .i64 u)), .d (.v (.bool true))]))) : WL E.P N ops (⟨some d, .lookup t x y true, ty, pos, after, gd⟩ :: l) Q S := by
  have main : ∀ w0 σ0 a w g, Rel N w0 σ0 S a w g → ∃ v, (execOp a.eval ⟨some d, .lookup t x y true, ty, pos, after, gd⟩).run E.P w = .ok (.value (.tuple #[v, .bool (m s).isSome])) w ∧ ∀ u, m s = some u → v = .int .i64 u := fun w0 σ0 a w g R => by
    have hxr := R.ev x; rw [hx] at hxr
    have hyr := R.ev y; rw [hy] at hyr
    obtain ⟨inf, z, hinf, _, _, hz, _⟩ := E.info het
    obtain ⟨hlim, ⟨h1, h2, w1, DD, hb, hown, hmR⟩, hfoot⟩ := R.inv.obs kk _ hm
    have hown := ownsMap_swapI hb.symm hown
    have hrs := hmR s hs
    obtain ⟨v, ps, hrun, hv⟩ := hown.look_ok (e := et) (Maps.int_keyed hkt) ht (z := z) (by simp [zeroValue, typeInfo, hinf, hz]) (zd := .held z) (zp := []) rfl (Maps.keyOf_int_mk hkt hs)
    cases hms : m s with
    | none =>
      rw [hms] at hrs
      rw [show Maps.has DD (.int .i64 s) = false from hrs] at hrun
      exact ⟨v, by simp [execOp, hxr.inv_v, hyr.inv_v, hrun], fun u h => by cases h⟩
    | some u =>
      rw [hms] at hrs
      obtain ⟨h3, hat⟩ := hrs
      rw [show Maps.has DD (.int .i64 s) = true from h3] at hrun
      rw [hat] at hv
      have hv : some (DataW.held v, ([] : List MemPlace)) = some (.held (.int .i64 u), ps) := hv
      injection hv with hv
      injection hv with hv _
      injection hv with hv
      subst hv
      exact ⟨.int .i64 u, by simp [execOp, hxr.inv_v, hyr.inv_v, hrun], fun u' h => by cases h; rfl⟩
  cases hms : m s with
  | none =>
    refine WL.val hw hd (fun w0 σ0 a w g R => ?_) (k0 hms)
    obtain ⟨v, hrun, _⟩ := main w0 σ0 a w g R
    rw [hms] at hrun
    exact ⟨_, hrun, .tup _ [v, .bool false] rfl fun i t v' ht hv => by
      match i with
      | 0 => simp at ht hv; subst ht; exact .any _
      | 1 => simp at ht hv; subst ht; subst hv; exact .d _ _ (.v _)
      | i + 2 => simp at ht⟩
  | some u =>
    refine WL.val hw hd (fun w0 σ0 a w g R => ?_) (k1 u hms)
    obtain ⟨v, hrun, hu⟩ := main w0 σ0 a w g R
    rw [hms] at hrun
    have := hu u hms
    subst this
    exact ⟨_, hrun, .tup _ [.int .i64 u, .bool true] rfl fun i t v' ht hv => by
      match i with
      | 0 => simp at ht hv; subst ht; subst hv; exact .d _ _ (.v _)
      | 1 => simp at ht hv; subst ht; subst hv; exact .d _ _ (.v _)
      | i + 2 => simp at ht⟩
end

section
variable {E : Env} {G : List Nat} {N : Nm} {Q : Exit → St → Prop} {tm : Nat → T} {ob : List Ob} {ops l : List Oper} {ty : TypeId} {pos : String} {after : Array Edge} {gd : Option (Nat × Bool)} {d : Nat}

theorem WG.mkI' {t : TypeId} (kt : TypeId) (k : ∀ b, WG G E.P N ops l Q ⟨upd tm d (imT b), ob ++ [.x (imX E.P kt b 0 (fun _ => none)) 0]⟩)
    (hw : St.want ⟨tm, ob⟩ ops ⟨some d, .makeMap t none, ty, pos, after, gd⟩ = some true := by exact rfl) (hd : Nat.blt d N.n = true := by exact rfl) : WG G E.P N ops (⟨some d, .makeMap t none, ty, pos, after, gd⟩ :: l) Q ⟨tm, ob⟩ :=
  WL.makeMapI (S := ⟨tm, ob⟩) hw hd k

theorem WG.upI' {t kt et : TypeId} {x y v : Operand} {b n nn : Nat} {s u : Int} {m : Int → Option Int} (kk : Nat) (ht : E.P.underlying t = some (.map kt et)) (hkt : E.P.underlying kt = some (.int .i64))
    (k : WG G E.P N ops l Q ⟨tm, ob.set kk (.x (imX E.P kt b (n + 1) (fun x => if x = s then some u else m x)) nn)⟩) (hs : okI s) (hn : n < maxLen)
    (hw : St.want ⟨tm, ob⟩ ops ⟨none, .mapUpdate t x y v, ty, pos, after, gd⟩ = some true := by exact rfl) (hx : St.ev ⟨tm, ob⟩ x = imT b := by exact rfl) (hy : St.ev ⟨tm, ob⟩ y = .d (.v (.int .i64 s)) := by exact rfl) (hv : St.ev ⟨tm, ob⟩ v = .d (.v (.int .i64 u)) := by exact rfl)
    (hm : ob[kk]? = some (.x (imX E.P kt b n m) nn) := by exact rfl) : WG G E.P N ops (⟨none, .mapUpdate t x y v, ty, pos, after, gd⟩ :: l) Q ⟨tm, ob⟩ :=
  WL.mapUpdateI (S := ⟨tm, ob⟩) hw ht hkt hx hy hv hm hs hn k

theorem WG.lkOkI' {t kt et : TypeId} {x y : Operand} {b n nn : Nat} {m : Int → Option Int} {s : Int} (kk : Nat) (ht : E.P.underlying t = some (.map kt et)) (hkt : E.P.underlying kt = some (.int .i64)) (hs : okI s)
    (k0 : m s = none → WG G E.P N ops l Q ⟨upd tm d (.tup [.any, .d (.v (.bool false))]), ob⟩)
    (k1 : ∀ u, m s = some u → WG G E.P N ops l Q ⟨upd tm d (.tup [.d (.v (.int .i64 u)), .d (.v (.bool true))]), ob⟩)
    (hw : St.want ⟨tm, ob⟩ ops ⟨some d, .lookup t x y true, ty, pos, after, gd⟩ = some true := by exact rfl) (hd : Nat.blt d N.n = true := by exact rfl) (het : (E.ty et).known = true := by exact rfl) (hx : St.ev ⟨tm, ob⟩ x = imT b := by exact rfl) (hy : St.ev ⟨tm, ob⟩ y = .d (.v (.int .i64 s)) := by exact rfl)
    (hm : ob[kk]? = some (.x (imX E.P kt b n m) nn) := by exact rfl) : WG G E.P N ops (⟨some d, .lookup t x y true, ty, pos, after, gd⟩ :: l) Q ⟨tm, ob⟩ := WL.lookOkI (S := ⟨tm, ob⟩) hw hd ht hkt het hx hy hm hs k0 k1
end

section
variable {E : Env} {N : Nm} {tm : Nat → T} {ob : List Ob} {ops : List Oper} {ty : TypeId} {pos : String} {after : Array Edge} {gd : Option (Nat × Bool)} {d : Nat}
theorem OpS1.lkI {t kt et : TypeId} {x y : Operand} {b n nn : Nat} {m : Int → Option Int} {s u : Int} (kk : Nat) (ht : E.P.underlying t = some (.map kt et)) (hkt : E.P.underlying kt = some (.int .i64)) (hs : okI s) (hms : m s = some u)
    (hw : St.want ⟨tm, ob⟩ ops ⟨some d, .lookup t x y false, ty, pos, after, gd⟩ = some true) (hd : Nat.blt d N.n = true) (het : (E.ty et).known = true) (hx : St.ev ⟨tm, ob⟩ x = imT b) (hy : St.ev ⟨tm, ob⟩ y = .d (.v (.int .i64 s)))
    (hm : ob[kk]? = some (.x (imX E.P kt b n m) nn)) : OpS1 E.P N ops ⟨some d, .lookup t x y false, ty, pos, after, gd⟩ tm (.d (.v (.int .i64 u))) ob ob := fun tm' hag l Q k' =>
  WL.lookupI (S := ⟨tm', ob⟩) (by rw [want_agree hag]; exact hw) hd ht hkt het (by rw [ev_agree hag (by simp [Op.operands])]; exact hx) (by rw [ev_agree hag (by simp [Op.operands])]; exact hy) hm hs hms k'
end

end Go.Proofs.Ytmmjbpgdkokjgaa
