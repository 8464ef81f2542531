/-
  The small logic: a map written out (from numbers to texts), that is looked into at once; in plain regions and in regions that draw their order. Conditions: none.
-/
import Derived.Maps.Range
import Derived.Maps.Views
import Derived.Test.YtfmhfdegkpbeiaaGreatDoorQFormatProgramQFormatProgramWq1
set_option linter.unusedVariables false
set_option linter.unusedSimpArgs false
namespace Go.Proofs.YtfmhfdegkpbeiaaGreatDoor
open Go.RowKit

abbrev DVi := DataW Value
def rdI : Value → Option (DVi × List MemPlace) := fun v => some (.held v, [])
abbrev keyI (i : Int) : Lit := .int .i64 i
theorem keyI_ne {i j : Int} (h : i ≠ j) : keyI i ≠ keyI j := fun e => h (by injection e)

def litR (DD : DVi) (l : List (Int × ByteArray)) : Prop := ∀ e ∈ l, ∀ zd, DD.atKey (keyI e.1) zd = .held (.string e.2)

/-- A map of the call's own: what is known to be in it. -/
def litX (P : Program) (k : TypeId) (N : Nat) (l : List (Int × ByteArray)) : ObX where
  ok _ h F v := ∃ (b n : Nat) (w : World) (DD : DVi), v = .map (some b) ∧ (∀ c, F c ↔ c = b) ∧ w.heap[b]? = h b ∧ w.ownsMap P k rdI b n DD ∧ n ≤ N ∧ litR DD l
  mono := by
    rintro σ σ' h h' F v _ hh ⟨b, n, w, DD, h1, h2, h3, h4, h5, h6⟩
    exact ⟨b, n, w, DD, h1, h2, h3.trans (hh b ((h2 b).2 rfl)).symm, h4, h5, h6⟩
  one := by rintro σ h F v ⟨b, n, w, DD, h1, _⟩; rw [h1]; rfl

theorem ownsI_swap {w w' : World} {P : Program} {k : TypeId} {b n : Nat} {DD : DVi} (hb : w'.heap[b]? = w.heap[b]?) (h : w.ownsMap P k rdI b n DD) : w'.ownsMap P k rdI b n DD := by
  obtain ⟨es, clock, h1, h2⟩ := h
  exact ⟨es, clock, hb.trans h1, h2⟩

section
variable {E : Env} {N : Nm} {Q : Exit → St → Prop} {S : St} {ops l : List Oper} {ty : TypeId} {pos : String} {after : Array Edge} {gd : Option (Nat × Bool)} {d : Nat}

theorem WL.mkLit {t kt : TypeId} (hw : S.want ops ⟨some d, .makeMap t none, ty, pos, after, gd⟩ = some true) (hd : Nat.blt d N.n = true)
    (k : WL E.P N ops l Q ⟨(S.set d (.og S.ob.length 0)).tm, S.ob ++ [.x (litX E.P kt 1 []) 0]⟩) : WL E.P N ops (⟨some d, .makeMap t none, ty, pos, after, gd⟩ :: l) Q S :=
  WL.oper hw fun w0 σ0 a w g r => by
    obtain ⟨g', hle, hσ, hl1, hγ, I'⟩ := r.inv.addF (below_alloc w (.map #[] 0)) (.x (litX E.P kt 1 []) 0) (.map (some w.heap.size)) (fun c => c = w.heap.size) (fun g' hle hσ hl1 hγ hf => by
      have hnew := heap_alloc_new w (.map #[] 0)
      refine ⟨⟨hl1, ⟨w.heap.size, 0, w.alloc (.map #[] 0), .map [], hγ, fun c => by rw [hf], rfl, World.ownsMap_made w E.P kt rdI, Nat.zero_le _, fun e he => by cases he⟩, fun b hb => ?_⟩, fun b hb => ?_⟩
      · rw [hf] at hb
        have hb' : b = w.heap.size := hb
        subst hb'
        exact ⟨.inl r.inv.below.size, (Array.getElem?_eq_some_iff.1 hnew).1, fun o => by rw [hσ]; exact r.inv.new_none (Nat.le_refl _) o⟩
      · have hb : g'.foot S.ob.length b := hb
        rw [hf] at hb
        have hb' : b = w.heap.size := hb
        omega) (by rw [r.hm]; exact r.hl)
    unfold Oper.wp Oper.upon
    simp only [execOp, run_makeMap, Sem.run_bind, Option.map_none, Result.andThen_ok]
    have r' : Rel N w0 σ0 ⟨S.tm, S.ob ++ [.x (litX E.P kt 1 []) 0]⟩ a (w.alloc (.map #[] 0)) g' := ⟨I', r.defers, r.size, r.hm, Nat.le_trans r.hl (by simp), fun i => (r.tm i).mono hle⟩
    exact k w0 σ0 _ _ g' (r'.set (by simpa using hd) (by rw [← hγ]; exact .og _ _ (by rw [hl1]; exact Nat.zero_lt_one)))

theorem WL.insLit {t kt et : TypeId} {x y v : Operand} {kk N0 N1 : Nat} {key : Int} {s : ByteArray} {l0 l1 : List (Int × ByteArray)} (hw : S.want ops ⟨none, .insert t x y v, ty, pos, after, gd⟩ = some true)
    (ht : E.P.underlying t = some (.map kt et)) (hkt : E.P.underlying kt = some (.int .i64)) (hx : S.ev x = .og kk 0) (hy : S.ev y = .d (.v (.int .i64 key))) (hv : S.ev v = .d (.v (.string s))) (hm : S.ob[kk]? = some (.x (litX E.P kt N0 l0) 0))
    (hr : (Lit.int .i64 key).wf = true) (hN : N0 < N1) (hc : N0 < maxLen) (hsub : ∀ e ∈ l1, e = (key, s) ∨ (e ∈ l0 ∧ e.1 ≠ key))
    (k : WL E.P N ops l Q ⟨S.tm, S.ob.set kk (.x (litX E.P kt N1 l1) 0)⟩) : WL E.P N ops (⟨none, .insert t x y v, ty, pos, after, gd⟩ :: l) Q S :=
  WL.effskip (by simp) hw (fun w0 σ0 a w g R => by
    have hxr := R.ev x; rw [hx] at hxr
    have hyr := R.ev y; rw [hy] at hyr
    have hvr := R.ev v; rw [hv] at hvr
    obtain ⟨hlim, ⟨b, n, w1, DD, h1, h2, hb, hown, hn, hl⟩, hfoot⟩ := R.inv.obs kk _ hm
    have hown := ownsI_swap hb.symm hown
    have hxv : a.eval x = .map (some b) := by
      generalize a.eval x = u at hxr
      cases hxr
      exact h1
    obtain ⟨w', hrun, hown', hg⟩ := hown.update (Maps.int_keyed hkt) ht (by omega) (Maps.keyOf_int_mk hkt hr) (val := .string s) (d := .held (.string s)) (ps := []) rfl
    refine ⟨w', g, ?_, Gh.le_refl g, R.inv.turn hm (by intros; simp) (by omega) (Gh.le_refl g) rfl (fun _ _ => ⟨rfl, rfl⟩) hg.os hg.tape hg.output hg.size (fun b' hb' hn' => hg.block b' hb' fun e => hn' ((h2 b').2 (Option.some.inj e))) ?_ (fun _ h => .inl h)⟩
    · simp [execOp, hxv, hyr.inv_v, hvr.inv_v, hrun]
    · refine ⟨hlim, ⟨b, n + 1, w', _, h1, h2, rfl, hown', by omega, fun e he zd => ?_⟩, fun b' hb' => ⟨(hfoot b' hb').1, Nat.lt_of_lt_of_le (hfoot b' hb').2.1 hg.size, (hfoot b' hb').2.2⟩⟩
      rcases hsub e he with rfl | ⟨h, hne⟩
      · exact Maps.atKey_put_same hown.isMap (show WideAt.IsKeyLit (.int ..) from trivial) _ _
      · rw [Maps.atKey_put_other (keyI_ne hne)]
        exact hl e h zd) k

theorem WL.lkLit {t kt et : TypeId} {x y : Operand} {kk N0 : Nat} {i : Int} {s : ByteArray} {l0 : List (Int × ByteArray)} (hw : S.want ops ⟨some d, .lookup t x y false, ty, pos, after, gd⟩ = some true) (hd : Nat.blt d N.n = true)
    (ht : E.P.underlying t = some (.map kt et)) (hkt : E.P.underlying kt = some (.int .i64)) (het : (E.ty et).known = true) (hx : S.ev x = .og kk 0) (hy : S.ev y = .d (.v (.int .i64 i))) (hm : S.ob[kk]? = some (.x (litX E.P kt N0 l0) 0))
    (hr : (Lit.int .i64 i).wf = true) (hms : (i, s) ∈ l0)
    (k : WL E.P N ops l Q (S.set d (.d (.v (.string s))))) : WL E.P N ops (⟨some d, .lookup t x y false, ty, pos, after, gd⟩ :: l) Q S :=
  WL.val hw hd (fun w0 σ0 a w g R => by
    have hxr := R.ev x; rw [hx] at hxr
    have hyr := R.ev y; rw [hy] at hyr
    obtain ⟨inf, z, hinf, _, _, hz, _⟩ := E.info het
    obtain ⟨hlim, ⟨b, n, w1, DD, h1, h2, hb, hown, hn, hl⟩, hfoot⟩ := R.inv.obs kk _ hm
    have hown := ownsI_swap hb.symm hown
    have hxv : a.eval x = .map (some b) := by
      generalize a.eval x = u at hxr
      cases hxr
      exact h1
    obtain ⟨v, ps, hrun, hv⟩ := hown.lookup (e := et) (Maps.int_keyed hkt) ht (z := z) (by simp [zeroValue, typeInfo, hinf, hz]) (zd := .held z) (zp := []) rfl (Maps.keyOf_int_mk hkt hr)
    rw [hl _ hms] at hv
    have hv : some (DataW.held v, ([] : List MemPlace)) = some (.held (.string s), ps) := hv
    injection hv with hv
    injection hv with hv _
    injection hv with hv
    subst hv
    exact ⟨_, by simp [execOp, hxv, hyr.inv_v, hrun], .d _ _ (.v _)⟩) k
end

section
variable {P : Program} {E : Env} {N : Nm} {Q : Exit → St → Prop} {K : (Nat → T) → Prop} {tm tm' : Nat → T} {ob ob' base : List Ob} {ops l : List Oper} {o : Oper} {op : Op} {ty : TypeId} {pos : String} {after : Array Edge} {gd : Option (Nat × Bool)} {d : Nat} {G : List Nat} {ps : List (Nat × List Nat)} {p : List Nat}

theorem WG.mkLit {t : TypeId} (kt : TypeId) {KK : Nat} (hw : St.want ⟨tm, ob⟩ ops ⟨some d, .makeMap t none, ty, pos, after, gd⟩ = some true) (hd : Nat.blt d N.n = true) (hK : ob.length = KK)
    (k : WG G E.P N ops l Q ⟨upd tm d (.og KK 0), ob ++ [.x (litX E.P kt 1 []) 0]⟩) : WG G E.P N ops (⟨some d, .makeMap t none, ty, pos, after, gd⟩ :: l) Q ⟨tm, ob⟩ := by
  subst hK; exact WL.mkLit (S := ⟨tm, ob⟩) hw hd k
theorem WG.insLit {t kt et : TypeId} {x y v : Operand} {kk N0 : Nat} {key : Int} {s : ByteArray} {l0 : List (Int × ByteArray)} (hw : St.want ⟨tm, ob⟩ ops ⟨none, .insert t x y v, ty, pos, after, gd⟩ = some true)
    (ht : E.P.underlying t = some (.map kt et)) (hkt : E.P.underlying kt = some (.int .i64)) (hx : St.ev ⟨tm, ob⟩ x = .og kk 0) (hy : St.ev ⟨tm, ob⟩ y = .d (.v (.int .i64 key))) (hv : St.ev ⟨tm, ob⟩ v = .d (.v (.string s))) (hm : ob[kk]? = some (.x (litX E.P kt N0 l0) 0))
    (hr : (Lit.int .i64 key).wf = true) (hc : Nat.blt N0 100 = true) (hne : l0.all (fun e => decide (e.1 ≠ key)) = true)
    (k : WG G E.P N ops l Q ⟨tm, ob.set kk (.x (litX E.P kt (N0 + 1) ((key, s) :: l0)) 0)⟩) : WG G E.P N ops (⟨none, .insert t x y v, ty, pos, after, gd⟩ :: l) Q ⟨tm, ob⟩ :=
  WL.insLit (S := ⟨tm, ob⟩) hw ht hkt hx hy hv hm hr (Nat.lt_succ_self _) (by simp only [Nat.blt_eq] at hc; unfold maxLen; omega) (fun e he => by
    rcases List.mem_cons.1 he with rfl | he
    · exact .inl rfl
    · exact .inr ⟨he, by have := List.all_eq_true.1 hne e he; simpa using this⟩) k
theorem WG.lkLit {t kt et : TypeId} {x y : Operand} {kk N0 : Nat} {i : Int} (s : ByteArray) {l0 : List (Int × ByteArray)} (hms : (i, s) ∈ l0) (hw : St.want ⟨tm, ob⟩ ops ⟨some d, .lookup t x y false, ty, pos, after, gd⟩ = some true) (hd : Nat.blt d N.n = true)
    (ht : E.P.underlying t = some (.map kt et)) (hkt : E.P.underlying kt = some (.int .i64)) (het : (E.ty et).known = true) (hx : St.ev ⟨tm, ob⟩ x = .og kk 0) (hy : St.ev ⟨tm, ob⟩ y = .d (.v (.int .i64 i))) (hm : ob[kk]? = some (.x (litX E.P kt N0 l0) 0))
    (hr : (Lit.int .i64 i).wf = true)
    (k : WG G E.P N ops l Q ⟨upd tm d (.d (.v (.string s))), ob⟩) : WG G E.P N ops (⟨some d, .lookup t x y false, ty, pos, after, gd⟩ :: l) Q ⟨tm, ob⟩ :=
  WL.lkLit (S := ⟨tm, ob⟩) hw hd ht hkt het hx hy hm hr hms k

/-! ### where the order is drawn -/

/-- The objects: a map of the region's own behind those that were there, once it is made (bit 1). -/
def obM (base : List Ob) (X : Nat → ObX) (f : Nat) : List Ob := bif bt f 1 then base ++ [.x (X f) 0] else base
/-- What is in the map: the entries whose bits are set. -/
def entsM (five : List (Nat × (Int × ByteArray))) (f : Nat) : List (Int × ByteArray) := (five.filter fun e => bt f e.1).map (·.2)

theorem AllF.of {Φ : Nat → Prop} : ∀ {p : List Nat}, (∀ f ∈ p, Φ f) → AllF p Φ
  | [], _ => .n
  | f :: r, h => .c (h f (List.mem_cons_self ..)) (AllF.of fun g hg => h g (List.mem_cons_of_mem _ hg))

theorem AllF.shapeO {X : Nat → ObX} {t : T} (h0 : OpS1 P N ops o tm t base base) (h1 : ∀ Y, OpS1 P N ops o tm t (base ++ [.x Y 0]) (base ++ [.x Y 0])) : AllF p fun f => OpS1 P N ops o tm t (obM base X f) (obM base X (f + 0)) :=
  AllF.of fun f _ => by
    show OpS1 P N ops o tm t (obM base X f) (obM base X f)
    unfold obM
    cases bt f 1 with
    | true => exact h1 _
    | false => exact h0

theorem WEM.s {X : Nat → ObX} {t : T} {pp : Prop} (k : WE E.P N ops (obM base X) K ps l (upd tm d t)) (h0w : St.want ⟨tm, base⟩ ops ⟨some d, op, ty, pos, after, gd⟩ = some true := by exact rfl) (hd : Nat.blt d N.n = true := by exact rfl) (h0 : ev1 E ⟨tm, base⟩ op ty = some (pp, t) := by exact rfl)
    (h1w : ∀ Y, St.want ⟨tm, base ++ [.x Y 0]⟩ ops ⟨some d, op, ty, pos, after, gd⟩ = some true := by intro _; exact rfl) (h1 : ∀ Y, ev1 E ⟨tm, base ++ [.x Y 0]⟩ op ty = some (pp, t) := by intro _; exact rfl) (hp : pp := by first | exact trivial | (simp only [inRange, List.length_map]; omega) | omega | assumption) :
    WE E.P N ops (obM base X) K ((0, p) :: ps) (⟨some d, op, ty, pos, after, gd⟩ :: l) tm :=
  WE.mkd t k (AllF.shapeO (OpS1.s h0w hd h0 hp) fun Y => OpS1.s (h1w Y) hd (h1 Y) hp)

theorem OpS1.mkLit {t kt : TypeId} {KK : Nat} (hw : St.want ⟨tm, ob⟩ ops ⟨some d, .makeMap t none, ty, pos, after, gd⟩ = some true) (hd : Nat.blt d N.n = true) (hK : ob.length = KK) (ho : ob ++ [.x (litX E.P kt 1 []) 0] = ob') :
    OpS1 E.P N ops ⟨some d, .makeMap t none, ty, pos, after, gd⟩ tm (.og KK 0) ob ob' := fun tm' hag l Q k' => by
  subst ho
  exact WG.mkLit (G := []) kt (by rw [want_agree hag]; exact hw) hd hK k'

theorem OpS1.insLit {t kt et : TypeId} {x y v : Operand} {kk N0 N1 : Nat} {key : Int} {s : ByteArray} {l0 l1 : List (Int × ByteArray)} (hw : St.want ⟨tm, ob⟩ ops ⟨none, .insert t x y v, ty, pos, after, gd⟩ = some true)
    (ht : E.P.underlying t = some (.map kt et)) (hkt : E.P.underlying kt = some (.int .i64)) (hx : St.ev ⟨tm, ob⟩ x = .og kk 0) (hy : St.ev ⟨tm, ob⟩ y = .d (.v (.int .i64 key))) (hv : St.ev ⟨tm, ob⟩ v = .d (.v (.string s))) (hm : ob[kk]? = some (.x (litX E.P kt N0 l0) 0))
    (hr : (Lit.int .i64 key).wf = true) (hN : N0 < N1) (hc : N0 < maxLen) (hsub : ∀ e ∈ l1, e = (key, s) ∨ (e ∈ l0 ∧ e.1 ≠ key)) (ho : ob.set kk (.x (litX E.P kt N1 l1) 0) = ob') :
    OpS1 E.P N ops ⟨none, .insert t x y v, ty, pos, after, gd⟩ tm .any ob ob' := fun tm' hag l Q k' => by
  subst ho
  exact WL.insLit (S := ⟨tm', ob⟩) (by rw [want_agree hag]; exact hw) ht hkt (by rw [ev_agree hag (by simp [Op.operands])]; exact hx) (by rw [ev_agree hag (by simp [Op.operands])]; exact hy) (by rw [ev_agree hag (by simp [Op.operands])]; exact hv) hm hr hN hc hsub k'

theorem OpS1.lkLit {t kt et : TypeId} {x y : Operand} {kk N0 : Nat} {i : Int} (s : ByteArray) {l0 : List (Int × ByteArray)} (hms : (i, s) ∈ l0) (hw : St.want ⟨tm, ob⟩ ops ⟨some d, .lookup t x y false, ty, pos, after, gd⟩ = some true) (hd : Nat.blt d N.n = true)
    (ht : E.P.underlying t = some (.map kt et)) (hkt : E.P.underlying kt = some (.int .i64)) (het : (E.ty et).known = true) (hx : St.ev ⟨tm, ob⟩ x = .og kk 0) (hy : St.ev ⟨tm, ob⟩ y = .d (.v (.int .i64 i))) (hm : ob[kk]? = some (.x (litX E.P kt N0 l0) 0)) (hr : (Lit.int .i64 i).wf = true) :
    OpS1 E.P N ops ⟨some d, .lookup t x y false, ty, pos, after, gd⟩ tm (.d (.v (.string s))) ob ob := fun tm' hag l Q k' =>
  WL.lkLit (S := ⟨tm', ob⟩) (by rw [want_agree hag]; exact hw) hd ht hkt het (by rw [ev_agree hag (by simp [Op.operands])]; exact hx) (by rw [ev_agree hag (by simp [Op.operands])]; exact hy) hm hr hms k'

/-- What an insertion asks of the masks. -/
def chkM (five : List (Nat × (Int × ByteArray))) (w : Nat) (key : Int) (s : ByteArray) (p : List Nat) : Bool :=
  p.all fun f => bt f 1 && bt (f + w) 1 && Nat.blt 0 w && Nat.blt f 1000 && five.all fun e => !(bt (f + w) e.1) || decide (e.2 = (key, s)) || (bt f e.1 && decide (e.2.1 ≠ key))

theorem AllF.insM {five : List (Nat × (Int × ByteArray))} {w KK : Nat} {t kt et : TypeId} {x y v : Operand} {key : Int} {s : ByteArray} (hK : base.length = KK) (hw : ∀ Y, St.want ⟨tm, base ++ [.x Y 0]⟩ ops ⟨none, .insert t x y v, ty, pos, after, gd⟩ = some true)
    (ht : E.P.underlying t = some (.map kt et)) (hkt : E.P.underlying kt = some (.int .i64)) (hx : ∀ Y, St.ev ⟨tm, base ++ [.x Y 0]⟩ x = .og KK 0) (hy : ∀ Y, St.ev ⟨tm, base ++ [.x Y 0]⟩ y = .d (.v (.int .i64 key))) (hv : ∀ Y, St.ev ⟨tm, base ++ [.x Y 0]⟩ v = .d (.v (.string s)))
    (hr : (Lit.int .i64 key).wf = true) (hp : chkM five w key s p = true) :
    AllF p fun f => OpS1 E.P N ops ⟨none, .insert t x y v, ty, pos, after, gd⟩ tm .any (obM base (fun f => litX E.P kt f (entsM five f)) f) (obM base (fun f => litX E.P kt f (entsM five f)) (f + w)) :=
  AllF.of fun f hf => by
    have h := List.all_eq_true.1 hp f hf
    simp only [Bool.and_eq_true] at h
    obtain ⟨⟨⟨⟨h1, h2⟩, h3⟩, h4⟩, h5⟩ := h
    subst hK
    unfold obM
    rw [h1, h2, cond_true, cond_true]
    refine OpS1.insLit (N0 := f) (N1 := f + w) (l0 := entsM five f) (l1 := entsM five (f + w)) (hw _) ht hkt (hx _) (hy _) (hv _) (by simp) hr (by simp only [Nat.blt_eq] at h3; omega) (by simp only [Nat.blt_eq] at h4; unfold maxLen; omega) (fun e he => ?_) (by simp)
    obtain ⟨x, hx1, rfl⟩ := List.mem_map.1 he
    obtain ⟨hx2, hx3⟩ := List.mem_filter.1 hx1
    have h6 := List.all_eq_true.1 h5 x hx2
    rw [hx3] at h6
    simp only [Bool.not_true, Bool.false_or, Bool.or_eq_true, Bool.and_eq_true, decide_eq_true_eq] at h6
    rcases h6 with h6 | ⟨h6, h7⟩
    · exact .inl h6
    · exact .inr ⟨List.mem_map.2 ⟨x, List.mem_filter.2 ⟨hx2, h6⟩, rfl⟩, h7⟩
end

end Go.Proofs.YtfmhfdegkpbeiaaGreatDoor
