/-
  The small logic: a map of the call's own, from texts to values, and its iteration. Conditions: none.
-/
import Derived.Maps.Range
import Derived.Maps.Views
import Derived.Test.YtmmjbpgdkokjgaaGreatQLowerTreePgE
set_option linter.unusedVariables false
set_option linter.unusedSimpArgs false
namespace Go.Proofs.YtmmjbpgdkokjgaaGreat
open Go.RowKit

abbrev DV := DataW Value

/-- Elements read as they are. -/
def rdU : Value → Option (DV × List MemPlace) := fun v => some (.held v, [])

abbrev keyL (x : ByteArray) : Lit := .string x.data.toList

theorem keyL_inj {x y : ByteArray} (h : keyL x = keyL y) : x = y := by
  injection h with h
  cases x; cases y
  simp only [ByteArray.mk.injEq]
  exact Array.toList_inj.1 h

theorem keyOf_str {P : Program} {k : TypeId} (hk : P.underlying k = some .string) {v : Value} {kl : Lit} (h : keyOf P k v = some kl) : ∃ x : ByteArray, v = .string x ∧ kl = keyL x ∧ x.size ≤ maxLen := by
  cases v <;> simp [keyOf, hk, mapKey] at h
  rename_i x
  exact ⟨x, rfl, by simpa using h.2.symm, by simpa using h.1⟩

/-- What a map reads as, and what it is in the walk's own words. -/
def mapR (σ : Sto) (DD : DV) (m : ByteArray → Option D) : Prop :=
  ∀ x : ByteArray, x.size ≤ maxLen → match m x with
    | none => Maps.has DD (keyL x) = false
    | some d => Maps.has DD (keyL x) = true ∧ ∃ u, (∀ zd, DD.atKey (keyL x) zd = .held u) ∧ RD σ d u

theorem mapR.mono {σ σ' : Sto} (hs : ∀ b o u, σ b o = some u → σ' b o = some u) {DD : DV} {m : ByteArray → Option D} (h : mapR σ DD m) : mapR σ' DD m := fun x hx => by
  have := h x hx
  split
  · rename_i e; rw [e] at this; exact this
  · rename_i d e
    rw [e] at this
    obtain ⟨h1, u, h2, h3⟩ := this
    exact ⟨h1, u, h2, h3.mono hs⟩

theorem mapR.empty (σ : Sto) : mapR σ (.map []) (fun _ => none) := fun x hx => rfl

theorem mapR.put {σ : Sto} {DD : DV} {m : ByteArray → Option D} (h : mapR σ DD m) (hm : Maps.IsMap DD) {s : ByteArray} {d : D} {u : Value} (hu : RD σ d u) : mapR σ (DD.put (keyL s) (.held u)) (fun x => if x = s then some d else m x) := fun x hx => by
  by_cases e : x = s
  · subst e
    simp only [if_true]
    exact ⟨Maps.has_put_same hm (show WideAt.IsKeyLit (.string _) from trivial) _, u, fun zd => Maps.atKey_put_same hm (show WideAt.IsKeyLit (.string _) from trivial) _ _, hu⟩
  · simp only [if_neg e]
    have hne : keyL x ≠ keyL s := fun h => e (keyL_inj h)
    have := h x hx
    rw [Maps.has_put_other hne]
    split
    · rename_i e1; rw [e1] at this; exact this
    · rename_i d1 e1
      rw [e1] at this
      obtain ⟨h1, u1, h2, h3⟩ := this
      exact ⟨h1, u1, fun zd => by rw [Maps.atKey_put_other hne]; exact h2 zd, h3⟩

theorem ownsMap_swap {w w' : World} {P : Program} {k : TypeId} {b n : Nat} {DD : DV} (hb : w'.heap[b]? = w.heap[b]?) (h : w.ownsMap P k rdU b n DD) : w'.ownsMap P k rdU b n DD := by
  obtain ⟨es, clock, h1, h2⟩ := h
  exact ⟨es, clock, hb.trans h1, h2⟩

theorem ranges_swap {w w' : World} {P : Program} {k : TypeId} {b r n : Nat} {DD : DV} {left : Lit → Bool} {cnt : Nat} (hb : w'.heap[b]? = w.heap[b]?) (hr : w'.heap[r]? = w.heap[r]?) (h : w.ranges P k rdU b r n DD left cnt) :
    w'.ranges P k rdU b r n DD left cnt := by
  obtain ⟨es, clock, since, seen, c0, h1, h2, h3, h4, h5, h6⟩ := h
  exact ⟨es, clock, since, seen, c0, hb.trans h1, h2, h3, h4, hr.trans h5, h6⟩

/-- A map of the call's own. -/
def mapX (P : Program) (k : TypeId) (b n : Nat) (m : ByteArray → Option D) : ObX where
  ok σ h F v := v = .map (some b) ∧ (∀ c, F c ↔ c = b) ∧ ∃ (w : World) (DD : DV), w.heap[b]? = h b ∧ w.ownsMap P k rdU b n DD ∧ mapR σ DD m
  mono := by
    rintro σ σ' h h' F v hs hh ⟨h1, h2, w, DD, h3, h4, h5⟩
    exact ⟨h1, h2, w, DD, h3.trans (hh b ((h2 b).2 rfl)).symm, h4, h5.mono hs⟩
  one := by rintro σ h F v ⟨h1, _⟩; rw [h1]; rfl

/-- A map of the call's own that is being gone through: which keys are left, how many, and the key at hand. -/
def itX (P : Program) (k : TypeId) (b r n : Nat) (m : ByteArray → Option D) (lf : ByteArray → Bool) (cnt : Nat) (cur : Option ByteArray) : ObX where
  ok σ h F v := v = .map (some b) ∧ (∀ c, F c ↔ (c = b ∨ c = r)) ∧ ∃ (w : World) (DD : DV) (left : Lit → Bool), w.heap[b]? = h b ∧ w.heap[r]? = h r ∧ w.ranges P k rdU b r n DD left cnt ∧ mapR σ DD m ∧
    (∀ x : ByteArray, x.size ≤ maxLen → left (keyL x) = lf x) ∧
    ∀ x, cur = some x → ∃ u, ∀ w' : World, w'.heap[b]? = h b → w'.heap[r]? = h r → (Instr.entry (.pointer (some ⟨r, 0, none⟩))).run P w' = .ok (.tuple #[.string x, u]) w'
  mono := by
    rintro σ σ' h h' F v hs hh ⟨h1, h2, w, DD, left, h3, h4, h5, h6, h7, h8⟩
    have hb := hh b ((h2 b).2 (.inl rfl))
    have hr := hh r ((h2 r).2 (.inr rfl))
    exact ⟨h1, h2, w, DD, left, h3.trans hb.symm, h4.trans hr.symm, h5, h6.mono hs, h7, fun x hx => by
      obtain ⟨u, hu⟩ := h8 x hx
      exact ⟨u, fun w' e1 e2 => hu w' (e1.trans hb) (e2.trans hr)⟩⟩
  one := by rintro σ h F v ⟨h1, _⟩; rw [h1]; rfl

/-- The step of an iteration, with what the entry reads as behind it. -/
theorem next_it {P : Program} {k : TypeId} {w : World} {b r n : Nat} {DD : DV} {left : Lit → Bool} {cnt : Nat} (h : w.ranges P k rdU b r n DD left cnt) (hk : P.underlying k = some .string) (ty : TypeId) :
    (cnt = 0 ∧ (∀ kl, left kl = false) ∧ (Instr.next (.pointer (some ⟨r, 0, none⟩)) false ty).run P w = .ok (.tuple #[.bool false]) w) ∨
    ∃ (x : ByteArray) (u : Value) (w' : World) (cnt' : Nat), x.size ≤ maxLen ∧ left (keyL x) = true ∧ (∀ zd, DD.atKey (keyL x) zd = .held u) ∧ (Instr.next (.pointer (some ⟨r, 0, none⟩)) false ty).run P w = .ok (.tuple #[.bool true, .string x, u]) w' ∧
      w'.ranges P k rdU b r n DD (fun z => left z && !z.sameKey (keyL x)) cnt' ∧ cnt' < cnt ∧ w.grownBy w' (some r) ∧ w'.heap.size = w.heap.size ∧
      ∀ w2 : World, w2.heap[b]? = w'.heap[b]? → w2.heap[r]? = w'.heap[r]? → (Instr.entry (.pointer (some ⟨r, 0, none⟩))).run P w2 = .ok (.tuple #[.string x, u]) w2 := by
  have K := Maps.string_keyed hk
  have h0 := h
  obtain ⟨es, clock, since, seen, c0, hb, F, hs, _, hr, hold, _, _, _, hsc, hsk⟩ := h0
  rcases h.next K ty with ⟨h1, h2, h3⟩ | ⟨key, v, kl, y, w', cnt', hkey, hlk, hv, hat, hrun, hrg, hlt, hgr, hsz, hen⟩
  · exact .inl ⟨h1, h2, h3⟩
  · obtain ⟨x, rfl, rfl, hx⟩ := keyOf_str hk hkey
    have hy : y.1 = .held v := by
      have : some (DataW.held v, ([] : List MemPlace)) = some y := hv
      rw [← Option.some.inj this]
    refine .inr ⟨x, v, w', cnt', hx, hlk, fun zd => by rw [hat zd, hy], hrun, hrg, hlt, hgr, hsz, fun w2 e1 e2 => ?_⟩
    rcases run_next_at (P := P) w ty r b since c0 seen es clock hr hb hold hsc with ⟨_, hrun0⟩ | ⟨e, he, w1, hal, hrun1⟩
    · rw [hrun] at hrun0
      simp at hrun0
    · rw [hrun] at hrun1
      simp only [Result.ok.injEq, Value.tuple.injEq, Array.mk.injEq, List.cons.injEq, true_and, and_true] at hrun1
      obtain ⟨⟨hke, hva⟩, hw⟩ := hrun1
      have hr1 : w1.heap[r]? = some (.mapIter (some b) since seen c0) := by rcases hal with rfl | rfl <;> exact hr
      have hb1 : w1.heap[b]? = some (.map es clock) := by rcases hal with rfl | rfl <;> exact hb
      have hset := MapKept.heap_set (o' := .mapIter (some b) since (seen.push e.born) clock) hr1
      have hb' := (hset.2 b (fun e1 => h.ne e1.symm)).trans hb1
      have hem := (mem_left he).1
      rw [hw] at e1 e2
      have := run_entry_at (P := P) w2 r b since seen es clock e (e2.trans hset.1) (e1.trans hb') hem ((MapKept.stamped_iff es clock).1 F.stamped).2.1
      rw [this, ← hke, ← hva]

section
variable {E : Env} {N : Nm} {Q : Exit → St → Prop} {S : St} {ops l : List Oper} {ty : TypeId} {pos : String} {after : Array Edge} {gd : Option (Nat × Bool)} {d : Nat}

abbrev mpT (b : Nat) : T := .d (.v (.map (some b)))
abbrev itT (r : Nat) : T := .d (.v (.pointer (some ⟨r, 0, none⟩)))

theorem WL.makeMap {t kt : TypeId} (hw : S.want ops ⟨some d, .makeMap t none, ty, pos, after, gd⟩ = some true) (hd : Nat.blt d N.n = true)
    (k : ∀ b, WL E.P N ops l Q ⟨(S.set d (mpT b)).tm, S.ob ++ [.x (mapX E.P kt b 0 (fun _ => none)) 0]⟩) : WL E.P N ops (⟨some d, .makeMap t none, ty, pos, after, gd⟩ :: l) Q S :=
  WL.oper hw fun w0 σ0 a w g r => by
    obtain ⟨g', hle, hσ, hl1, hγ, I'⟩ := r.inv.addF (below_alloc w (.map #[] 0)) (.x (mapX E.P kt w.heap.size 0 (fun _ => none)) 0) (.map (some w.heap.size)) (fun c => c = w.heap.size) (fun g' hle hσ hl1 hγ hf => by
      have hnew := heap_alloc_new w (.map #[] 0)
      refine ⟨⟨hl1, ⟨hγ, fun c => by rw [hf], w.alloc (.map #[] 0), .map [], rfl, World.ownsMap_made w E.P kt rdU, mapR.empty _⟩, fun b hb => ?_⟩, fun b hb => ?_⟩
      · rw [hf] at hb
        have hb' : b = w.heap.size := hb
        subst hb'
        exact ⟨.inl r.inv.below.size, (Array.getElem?_eq_some_iff.1 hnew).1, fun o => by rw [hσ]; exact r.inv.new_none (Nat.le_refl _) o⟩
      · have hb : g'.foot S.ob.length b := hb
        rw [hf] at hb
        have hb' : b = w.heap.size := hb
        omega) (by rw [r.hm]; exact r.hl)
    unfold Oper.wp Oper.upon
    simp only [execOp, run_makeMap, Sem.run_bind, Option.map_none, Result.andThen_ok]
    have r' : Rel N w0 σ0 ⟨S.tm, S.ob ++ [.x (mapX E.P kt w.heap.size 0 (fun _ => none)) 0]⟩ a (w.alloc (.map #[] 0)) g' := ⟨I', r.defers, r.size, r.hm, Nat.le_trans r.hl (by simp), fun i => (r.tm i).mono hle⟩
    exact k w.heap.size w0 σ0 _ _ g' (r'.set (by simpa using hd) (.d _ _ (.v _)))

/-- m[s] = v -/
theorem WL.mapUpdate {t kt et : TypeId} {x y v : Operand} {b n nn kk : Nat} {s : ByteArray} {dv : D} {m : ByteArray → Option D} (hw : S.want ops ⟨none, .mapUpdate t x y v, ty, pos, after, gd⟩ = some true)
    (ht : E.P.underlying t = some (.map kt et)) (hkt : E.P.underlying kt = some .string) (hx : S.ev x = mpT b) (hy : S.ev y = .d (.v (.string s))) (hv : S.ev v = .d dv) (hm : S.ob[kk]? = some (.x (mapX E.P kt b n m) nn)) (hs : s.size ≤ maxLen) (hn : n < maxLen)
    (k : WL E.P N ops l Q ⟨S.tm, S.ob.set kk (.x (mapX E.P kt b (n + 1) (fun x => if x = s then some dv else m x)) nn)⟩) : WL E.P N ops (⟨none, .mapUpdate t x y v, ty, pos, after, gd⟩ :: l) Q S :=
  WL.effskip (by simp) hw (fun w0 σ0 a w g R => by
    have hxr := R.ev x; rw [hx] at hxr
    have hyr := R.ev y; rw [hy] at hyr
    have hvr := R.ev v; rw [hv] at hvr
    obtain ⟨hlim, ⟨h1, h2, w1, DD, hb, hown, hmR⟩, hfoot⟩ := R.inv.obs kk _ hm
    have hown := ownsMap_swap hb.symm hown
    obtain ⟨w', hrun, hown', hg⟩ := hown.update (Maps.string_keyed hkt) ht hn (WideMaps.keyOf_string_mk hkt hs) (val := a.eval v) (d := .held (a.eval v)) (ps := []) rfl
    refine ⟨w', g, ?_, Gh.le_refl g, R.inv.turn hm (by intros; simp) (by omega) (Gh.le_refl g) rfl (fun _ _ => ⟨rfl, rfl⟩) hg.os hg.tape hg.output hg.size (fun b' hb' hn' => hg.block b' hb' fun e => hn' ((h2 b').2 (Option.some.inj e))) ?_ (fun _ h => .inl h)⟩
    · simp [execOp, hxr.inv_v, hyr.inv_v, hrun]
    · exact ⟨hlim, ⟨h1, h2, w', _, rfl, hown', hmR.put hown.isMap hvr.inv_d⟩, fun b' hb' => ⟨(hfoot b' hb').1, Nat.lt_of_lt_of_le (hfoot b' hb').2.1 hg.size, (hfoot b' hb').2.2⟩⟩) k

/-- range m -/
theorem WL.rangeM {t kt et : TypeId} {x : Operand} {b n nn kk : Nat} {m : ByteArray → Option D} (hw : S.want ops ⟨some d, .range t x, ty, pos, after, gd⟩ = some true) (hd : Nat.blt d N.n = true)
    (ht : E.P.underlying t = some (.map kt et)) (hkt : E.P.underlying kt = some .string) (hx : S.ev x = mpT b) (hm : S.ob[kk]? = some (.x (mapX E.P kt b n m) nn))
    (k : ∀ r cnt, WL E.P N ops l Q ⟨(S.set d (itT r)).tm, S.ob.set kk (.x (itX E.P kt b r n m (fun x => (m x).isSome) cnt none) nn)⟩) : WL E.P N ops (⟨some d, .range t x, ty, pos, after, gd⟩ :: l) Q S :=
  WL.oper hw fun w0 σ0 a w g R => by
    have hxr := R.ev x; rw [hx] at hxr
    obtain ⟨hlim, ⟨h1, h2, w1, DD, hb, hown, hmR⟩, hfoot⟩ := R.inv.obs kk _ hm
    have hown := ownsMap_swap hb.symm hown
    obtain ⟨w', hrun, hrg, hg, hsz⟩ := hown.range (Maps.string_keyed hkt) ht
    let g' : Gh := { g with foot := fun j => if j = kk then (fun c => c = b ∨ c = w.heap.size) else g.foot j }
    have hle : g.le g' := ⟨fun _ _ _ h => h, fun _ _ h => ⟨h, rfl⟩⟩
    have I' : Inv w0 σ0 (S.ob.set kk (.x (itX E.P kt b w.heap.size n m (fun x => (m x).isSome) (Maps.size DD) none) nn)) w' g' := by
      refine R.inv.turn hm (by intros; simp) (by omega) hle rfl (fun j hj => ⟨rfl, by simp [g', hj]⟩) hg.os hg.tape hg.output hg.size (fun b' hb' _ => hg.block b' hb' (by simp)) ⟨hlim, ⟨h1, fun c => by simp [g'], w', DD, Maps.has DD, rfl, rfl, hrg, hmR, fun z hz => ?_, fun z hz => by cases hz⟩, fun b' hb' => ?_⟩ (fun b' hb' => ?_)
      · have := hmR z hz
        cases e : m z with
        | none => simp only [e] at this ⊢; exact this
        | some d1 => simp only [e] at this ⊢; exact this.1
      · have hb' : g'.foot kk b' := hb'
        simp only [g', if_true] at hb'
        rcases hb' with rfl | rfl
        · have := hfoot b' ((h2 b').2 rfl)
          exact ⟨this.1, Nat.lt_of_lt_of_le this.2.1 hg.size, this.2.2⟩
        · exact ⟨.inl R.inv.below.size, by omega, fun o => R.inv.new_none (Nat.le_refl _) o⟩
      · have hb' : g'.foot kk b' := hb'
        simp only [g', if_true] at hb'
        rcases hb' with rfl | rfl
        · exact .inl ((h2 b').2 rfl)
        · exact .inr (Nat.le_refl _)
    unfold Oper.wp Oper.upon
    simp only [execOp, hxr.inv_v, hrun, Sem.run_bind, Result.andThen_ok]
    have r' : Rel N w0 σ0 ⟨S.tm, S.ob.set kk (.x (itX E.P kt b w.heap.size n m (fun x => (m x).isSome) (Maps.size DD) none) nn)⟩ a w' g' := ⟨I', R.defers, R.size, R.hm, Nat.le_trans R.hl (by simp), fun i => (R.tm i).mono hle⟩
    exact k w.heap.size (Maps.size DD) w0 σ0 _ _ g' (r'.set (by simpa using hd) (.d _ _ (.v _)))

/-- The step of an iteration. -/
theorem WL.nextM {kt : TypeId} {x : Operand} {b r n nn kk cnt : Nat} {m : ByteArray → Option D} {lf : ByteArray → Bool} {cur : Option ByteArray} (hw : S.want ops ⟨some d, .next x false, ty, pos, after, gd⟩ = some true) (hd : Nat.blt d N.n = true)
    (hkt : E.P.underlying kt = some .string) (hx : S.ev x = itT r) (hm : S.ob[kk]? = some (.x (itX E.P kt b r n m lf cnt cur) nn))
    (k0 : (∀ y : ByteArray, y.size ≤ maxLen → lf y = false) → WL E.P N ops l Q ⟨(S.set d (.tup [.d (.v (.bool false))])).tm, S.ob⟩)
    (k1 : ∀ (y : ByteArray) (cnt' : Nat), y.size ≤ maxLen → lf y = true → (m y).isSome = true → cnt' < cnt →
      WL E.P N ops l Q ⟨(S.set d (.tup [.d (.v (.bool true)), .d (.v (.string y)), .any])).tm, S.ob.set kk (.x (itX E.P kt b r n m (fun z => lf z && !decide (z = y)) cnt' (some y)) nn)⟩) :
    WL E.P N ops (⟨some d, .next x false, ty, pos, after, gd⟩ :: l) Q S :=
  WL.oper hw fun w0 σ0 a w g R => by
    have hxr := R.ev x; rw [hx] at hxr
    obtain ⟨hlim, ⟨h1, h2, w1, DD, left, hb, hr, hrg, hmR, hlf, _⟩, hfoot⟩ := R.inv.obs kk _ hm
    have hrg := ranges_swap hb.symm hr.symm hrg
    unfold Oper.wp Oper.upon
    rcases next_it hrg hkt ty with ⟨e0, hall, hrun⟩ | ⟨y, u, w', cnt', hys, hly, hat, hrun, hrg', hlt, hg, hsz, hen⟩
    · simp only [execOp, hxr.inv_v, hrun, Sem.run_bind, Result.andThen_ok]
      exact k0 (fun y hy => by rw [← hlf y hy, hall]) w0 σ0 _ _ g (R.set (by simpa using hd) (.tup [.d (.v (.bool false))] [.bool false] rfl fun i t v ht hv => by
        match i with
        | 0 => simp at ht hv; subst ht; subst hv; exact .d _ _ (.v _)
        | i + 1 => simp at ht))
    · have I' : Inv w0 σ0 (S.ob.set kk (.x (itX E.P kt b r n m (fun z => lf z && !decide (z = y)) cnt' (some y)) nn)) w' g := by
        refine R.inv.turn hm (by intros; simp) (by omega) (Gh.le_refl g) rfl (fun j hj => ⟨rfl, rfl⟩) hg.os hg.tape hg.output hg.size (fun b' hb' hn => hg.block b' hb' fun e => hn ((h2 b').2 (.inr (Option.some.inj e))))
          ⟨hlim, ⟨h1, h2, w', DD, _, rfl, rfl, hrg', hmR, fun z hz => ?_, fun z hz => ?_⟩, fun b' hb' => ⟨(hfoot b' hb').1, by rw [hsz]; exact (hfoot b' hb').2.1, (hfoot b' hb').2.2⟩⟩ (fun b' hb' => .inl hb')
        · simp only [hlf z hz]
          congr 2
          by_cases e : z = y
          · subst e
            rw [WideAt.sameKey_self (show WideAt.IsKeyLit (.string _) from trivial)]; simp
          · rw [Maps.sameKey_ne fun h => e (keyL_inj h)]; simp [e]
        · cases hz
          exact ⟨u, hen⟩
      have hsome : (m y).isSome = true := by
        have := hmR y hys
        cases e : m y with
        | none =>
          rw [e] at this
          have h := hat .nil
          rw [Maps.atKey_of_not_has this] at h
          cases h
        | some d1 => rfl
      simp only [execOp, hxr.inv_v, hrun, Sem.run_bind, Result.andThen_ok]
      have r' : Rel N w0 σ0 ⟨S.tm, S.ob.set kk (.x (itX E.P kt b r n m (fun z => lf z && !decide (z = y)) cnt' (some y)) nn)⟩ a w' g := ⟨I', R.defers, R.size, R.hm, Nat.le_trans R.hl (by simp), R.tm⟩
      exact k1 y cnt' hys (by rw [← hlf y hys]; exact hly) hsome hlt w0 σ0 _ _ g (r'.set (by simpa using hd) (.tup [.d (.v (.bool true)), .d (.v (.string y)), .any] [.bool true, .string y, u] rfl fun i t v ht hv => by
        match i with
        | 0 => simp at ht hv; subst ht; subst hv; exact .d _ _ (.v _)
        | 1 => simp at ht hv; subst ht; subst hv; exact .d _ _ (.v _)
        | 2 => simp at ht hv; subst ht; exact .any _
        | i + 3 => simp at ht))

/-- The entry at hand. -/
theorem WL.entryM {kt : TypeId} {x : Operand} {b r n nn kk cnt : Nat} {m : ByteArray → Option D} {lf : ByteArray → Bool} {y : ByteArray} (hw : S.want ops ⟨some d, .entry x, ty, pos, after, gd⟩ = some true) (hd : Nat.blt d N.n = true)
    (hx : S.ev x = itT r) (hm : S.ob[kk]? = some (.x (itX E.P kt b r n m lf cnt (some y)) nn))
    (k : WL E.P N ops l Q (S.set d (.tup [.d (.v (.string y)), .any]))) : WL E.P N ops (⟨some d, .entry x, ty, pos, after, gd⟩ :: l) Q S :=
  WL.val hw hd (fun w0 σ0 a w g R => by
    have hxr := R.ev x; rw [hx] at hxr
    obtain ⟨hlim, ⟨h1, h2, w1, DD, left, hb, hr, hrg, hmR, hlf, hen⟩, hfoot⟩ := R.inv.obs kk _ hm
    obtain ⟨u, hu⟩ := hen y rfl
    refine ⟨.tuple #[.string y, u], ?_, .tup [.d (.v (.string y)), .any] [.string y, u] rfl fun i t v ht hv => ?_⟩
    · simp [execOp, hxr.inv_v, hu w rfl rfl]
    · match i with
      | 0 => simp at ht hv; subst ht; subst hv; exact .d _ _ (.v _)
      | 1 => simp at ht hv; subst ht; exact .any _
      | i + 2 => simp at ht) k

/-- m[s], s a key of m -/
theorem WL.lookupM {t kt et : TypeId} {x y : Operand} {b r n nn kk cnt : Nat} {m : ByteArray → Option D} {lf : ByteArray → Bool} {cur : Option ByteArray} {s : ByteArray} {dv : D} (hw : S.want ops ⟨some d, .lookup t x y false, ty, pos, after, gd⟩ = some true) (hd : Nat.blt d N.n = true)
    (ht : E.P.underlying t = some (.map kt et)) (hkt : E.P.underlying kt = some .string) (het : (E.ty et).known = true) (hx : S.ev x = mpT b) (hy : S.ev y = .d (.v (.string s))) (hm : S.ob[kk]? = some (.x (itX E.P kt b r n m lf cnt cur) nn))
    (hs : s.size ≤ maxLen) (hms : m s = some dv)
    (k : WL E.P N ops l Q (S.set d (.d dv))) : WL E.P N ops (⟨some d, .lookup t x y false, ty, pos, after, gd⟩ :: l) Q S :=
  WL.val hw hd (fun w0 σ0 a w g R => by
    have hxr := R.ev x; rw [hx] at hxr
    have hyr := R.ev y; rw [hy] at hyr
    obtain ⟨inf, z, hinf, _, _, hz, _⟩ := E.info het
    obtain ⟨hlim, ⟨h1, h2, w1, DD, left, hb, hr, hrg, hmR, _⟩, hfoot⟩ := R.inv.obs kk _ hm
    have hown := ownsMap_swap hb.symm hrg.owns
    have := hmR s hs
    rw [hms] at this
    obtain ⟨_, u, hat, hu⟩ := this
    obtain ⟨v, ps, hrun, hv⟩ := hown.lookup (e := et) (Maps.string_keyed hkt) ht (z := z) (by simp [zeroValue, typeInfo, hinf, hz]) (zd := .held z) (zp := []) rfl (WideMaps.keyOf_string_mk hkt hs)
    rw [hat] at hv
    have hv : some (DataW.held v, ([] : List MemPlace)) = some (.held u, ps) := hv
    injection hv with hv
    injection hv with hv _
    injection hv with hv
    subst hv
    exact ⟨v, by simp [execOp, hxr.inv_v, hyr.inv_v, hrun], .d _ _ hu⟩) k

end
section
variable {E : Env} {G : List Nat} {N : Nm} {Q : Exit → St → Prop} {tm : Nat → T} {ob : List Ob} {ops l : List Oper} {ty : TypeId} {pos : String} {after : Array Edge} {gd : Option (Nat × Bool)} {d : Nat}

theorem WG.mkM' {t : TypeId} (kt : TypeId) (k : ∀ b, WG G E.P N ops l Q ⟨upd tm d (mpT b), ob ++ [.x (mapX E.P kt b 0 (fun _ => none)) 0]⟩)
    (hw : St.want ⟨tm, ob⟩ ops ⟨some d, .makeMap t none, ty, pos, after, gd⟩ = some true := by exact rfl) (hd : Nat.blt d N.n = true := by exact rfl) : WG G E.P N ops (⟨some d, .makeMap t none, ty, pos, after, gd⟩ :: l) Q ⟨tm, ob⟩ :=
  WL.makeMap (S := ⟨tm, ob⟩) hw hd k

theorem WG.upM' {t kt et : TypeId} {x y v : Operand} {b n nn : Nat} {s : ByteArray} {dv : D} {m : ByteArray → Option D} (kk : Nat) (ht : E.P.underlying t = some (.map kt et)) (hkt : E.P.underlying kt = some .string)
    (k : WG G E.P N ops l Q ⟨tm, ob.set kk (.x (mapX E.P kt b (n + 1) (fun x => if x = s then some dv else m x)) nn)⟩)
    (hw : St.want ⟨tm, ob⟩ ops ⟨none, .mapUpdate t x y v, ty, pos, after, gd⟩ = some true := by exact rfl) (hx : St.ev ⟨tm, ob⟩ x = mpT b := by exact rfl) (hy : St.ev ⟨tm, ob⟩ y = .d (.v (.string s)) := by exact rfl) (hv : St.ev ⟨tm, ob⟩ v = .d dv := by exact rfl)
    (hm : ob[kk]? = some (.x (mapX E.P kt b n m) nn) := by exact rfl) (hs : s.size ≤ maxLen := by first | assumption | omega) (hn : n < maxLen := by first | assumption | omega) : WG G E.P N ops (⟨none, .mapUpdate t x y v, ty, pos, after, gd⟩ :: l) Q ⟨tm, ob⟩ :=
  WL.mapUpdate (S := ⟨tm, ob⟩) hw ht hkt hx hy hv hm hs hn k

theorem WG.rgM' {t kt et : TypeId} {x : Operand} {b n nn : Nat} {m : ByteArray → Option D} (kk : Nat) (ht : E.P.underlying t = some (.map kt et)) (hkt : E.P.underlying kt = some .string)
    (k : ∀ r cnt, WG G E.P N ops l Q ⟨upd tm d (itT r), ob.set kk (.x (itX E.P kt b r n m (fun x => (m x).isSome) cnt none) nn)⟩)
    (hw : St.want ⟨tm, ob⟩ ops ⟨some d, .range t x, ty, pos, after, gd⟩ = some true := by exact rfl) (hd : Nat.blt d N.n = true := by exact rfl) (hx : St.ev ⟨tm, ob⟩ x = mpT b := by exact rfl) (hm : ob[kk]? = some (.x (mapX E.P kt b n m) nn) := by exact rfl) :
    WG G E.P N ops (⟨some d, .range t x, ty, pos, after, gd⟩ :: l) Q ⟨tm, ob⟩ := WL.rangeM (S := ⟨tm, ob⟩) hw hd ht hkt hx hm k

theorem WG.nxM' {kt : TypeId} {x : Operand} {b r n nn cnt : Nat} {m : ByteArray → Option D} {lf : ByteArray → Bool} {cur : Option ByteArray} (kk : Nat) (hkt : E.P.underlying kt = some .string)
    (k0 : (∀ y : ByteArray, y.size ≤ maxLen → lf y = false) → WG G E.P N ops l Q ⟨upd tm d (.tup [.d (.v (.bool false))]), ob⟩)
    (k1 : ∀ (y : ByteArray) (cnt' : Nat), y.size ≤ maxLen → lf y = true → (m y).isSome = true → cnt' < cnt →
      WG G E.P N ops l Q ⟨upd tm d (.tup [.d (.v (.bool true)), .d (.v (.string y)), .any]), ob.set kk (.x (itX E.P kt b r n m (fun z => lf z && !decide (z = y)) cnt' (some y)) nn)⟩)
    (hw : St.want ⟨tm, ob⟩ ops ⟨some d, .next x false, ty, pos, after, gd⟩ = some true := by exact rfl) (hd : Nat.blt d N.n = true := by exact rfl) (hx : St.ev ⟨tm, ob⟩ x = itT r := by exact rfl) (hm : ob[kk]? = some (.x (itX E.P kt b r n m lf cnt cur) nn) := by exact rfl) :
    WG G E.P N ops (⟨some d, .next x false, ty, pos, after, gd⟩ :: l) Q ⟨tm, ob⟩ := WL.nextM (S := ⟨tm, ob⟩) hw hd hkt hx hm k0 k1

theorem WG.enM' {kt : TypeId} {x : Operand} {b r n nn cnt : Nat} {m : ByteArray → Option D} {lf : ByteArray → Bool} {y : ByteArray} (kk : Nat)
    (k : WG G E.P N ops l Q ⟨upd tm d (.tup [.d (.v (.string y)), .any]), ob⟩)
    (hw : St.want ⟨tm, ob⟩ ops ⟨some d, .entry x, ty, pos, after, gd⟩ = some true := by exact rfl) (hd : Nat.blt d N.n = true := by exact rfl) (hx : St.ev ⟨tm, ob⟩ x = itT r := by exact rfl) (hm : ob[kk]? = some (.x (itX E.P kt b r n m lf cnt (some y)) nn) := by exact rfl) :
    WG G E.P N ops (⟨some d, .entry x, ty, pos, after, gd⟩ :: l) Q ⟨tm, ob⟩ := WL.entryM (S := ⟨tm, ob⟩) hw hd hx hm k

theorem WG.lkM' {t kt et : TypeId} {x y : Operand} {b r n nn cnt : Nat} {m : ByteArray → Option D} {lf : ByteArray → Bool} {cur : Option ByteArray} {s : ByteArray} {dv : D} (kk : Nat) (ht : E.P.underlying t = some (.map kt et)) (hkt : E.P.underlying kt = some .string) (hms : m s = some dv)
    (k : WG G E.P N ops l Q ⟨upd tm d (.d dv), ob⟩)
    (hw : St.want ⟨tm, ob⟩ ops ⟨some d, .lookup t x y false, ty, pos, after, gd⟩ = some true := by exact rfl) (hd : Nat.blt d N.n = true := by exact rfl) (het : (E.ty et).known = true := by exact rfl) (hx : St.ev ⟨tm, ob⟩ x = mpT b := by exact rfl) (hy : St.ev ⟨tm, ob⟩ y = .d (.v (.string s)) := by exact rfl)
    (hm : ob[kk]? = some (.x (itX E.P kt b r n m lf cnt cur) nn) := by exact rfl) (hs : s.size ≤ maxLen := by first | assumption | omega) : WG G E.P N ops (⟨some d, .lookup t x y false, ty, pos, after, gd⟩ :: l) Q ⟨tm, ob⟩ := WL.lookupM (S := ⟨tm, ob⟩) hw hd ht hkt het hx hy hm hs hms k
end

end Go.Proofs.YtmmjbpgdkokjgaaGreat
