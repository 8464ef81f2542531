/-
  A table of the library's (a variable of the program, of integers, read and never written) as an object that a call is lent. Conditions: none.
-/
import Derived.Test.YthaakpbdijhgiaaGreatDoorQTokensPgC
import Derived.WideLaws
set_option linter.unusedVariables false
set_option linter.unusedSimpArgs false
namespace Go.Proofs.YthaakpbdijhgiaaGreatDoor
open Go.RowKit Go.ChangeShapes Go.WideShapes

/-- A variable's block, as it lies. -/
def tbX (b : Nat) (us : List Value) (q : TypeId × (Nat × Nat)) : ObX where
  ok _ h F v := (∀ c, F c ↔ c = b) ∧ h b = some (.cells us.toArray q.1 q.2) ∧ v.oneCell' = true
  mono _ hF h := ⟨h.1, by rw [hF b ((h.1 b).2 rfl)]; exact h.2.1, h.2.2⟩
  one h := h.2.2

section
variable {P : Program} {f : FuncId} {args : List D} {t : T} {b : Nat} {us : List Value} {q : TypeId × (Nat × Nat)}

theorem FunQ.ofRawT (he : ∀ (vals : Array Value) (w : World), (callFunc f vals).run P w = .ok (.enter f vals) w)
    (h : ∀ (w : World) (σ0 : Sto) (vals : List Value), (∀ b o u, σ0 b o = some u → w.cell? ⟨b, o, none⟩ = some u) → w.heap[b]? = some (.cells us.toArray q.1 q.2) → vals.length = args.length → (∀ (i : Nat) (x : D) (u : Value), args[i]? = some x → vals[i]? = some u → RD σ0 x u) →
      Calls P f vals.toArray w fun e w' => ∃ v, e = .returned v ∧ Below w.heap.size w w' ∧ ∀ g, RT g t v) : FunQ P f (args.map .d) [.x (tbX b us q) 0] (just t [.x (tbX b us q) 0]) := by
  refine ⟨he, fun w g vals hI hl hr => ?_⟩
  have ho := hI.obs 0 _ rfl
  obtain ⟨ho1, ⟨ho2, ho3, ho5⟩, ho4⟩ := ho
  refine (h w g.σ vals hI.con ho3 (by simpa using hl) fun i x u hx hu => (hr i (.d x) u (by simp [hx]) hu).inv_d).mono fun e w' ⟨v, h1, h2, h3⟩ => ?_
  have hc : ∀ b o u, g.σ b o = some u → w'.cell? ⟨b, o, none⟩ = some u := fun b o u hu => by
    rw [World.cell?_of_block (w := w) (w' := w') (h2.block b (World.block_lt_of_cell? w ⟨b, o, none⟩ (hI.con b o u hu)))]
    exact hI.con b o u hu
  refine ⟨v, t, [.x (tbX b us q) 0], g, h1, ⟨rfl, rfl⟩, ⟨hI.below.trans h2, hI.old, hc, fun k o hk => ?_, hI.lim, hI.dis, hI.ext⟩, h3 g⟩
  match k with
  | 0 =>
    simp at hk
    subst hk
    refine ⟨ho1, ⟨ho2, ?_, ho5⟩, fun c hc => ?_⟩
    · obtain ⟨_, q2, _⟩ := ho4 b ((ho2 b).2 rfl)
      show w'.heap[b]? = _
      rw [h2.block b q2]
      exact ho3
    · obtain ⟨q1, q2, q3⟩ := ho4 c hc
      exact ⟨q1, Nat.lt_of_lt_of_le q2 h2.size, q3⟩
  | k + 1 => simp at hk

/-- What a contract that is lent a table says of a call. -/
theorem FunQ.rawT (h : FunQ P f (args.map .d) [.x (tbX b us q) 0] (just t [.x (tbX b us q) 0])) (w : World) (σ0 : Sto) (vals : List Value) (hσ : ∀ b o u, σ0 b o = some u → w.cell? ⟨b, o, none⟩ = some u)
    (hb : w.heap[b]? = some (.cells us.toArray q.1 q.2)) (hσb : ∀ o, σ0 b o = none) (hl : vals.length = args.length)
    (hr : ∀ (i : Nat) (x : D) (u : Value), args[i]? = some x → vals[i]? = some u → RD σ0 x u) :
    Calls P f vals.toArray w fun e w' => ∃ v g, e = .returned v ∧ Below w.heap.size w w' ∧ (∀ b o u, g.σ b o = some u → w'.cell? ⟨b, o, none⟩ = some u) ∧ RT g t v := by
  have hlt : b < w.heap.size := by
    rcases Nat.lt_or_ge b w.heap.size with h | h
    · exact h
    · rw [Array.getElem?_eq_none h] at hb; cases hb
  have hI : Inv w (baseOf [.x (tbX b us q) 0] ⟨σ0, fun _ _ => .bool true, fun k => if k = 0 then 1 else 0, fun _ c => c = b⟩) [.x (tbX b us q) 0] w ⟨σ0, fun _ _ => .bool true, fun k => if k = 0 then 1 else 0, fun _ c => c = b⟩ := by
    refine ⟨.refl _ _, fun _ _ _ _ => rfl, hσ, fun k o h => ?_, fun k hk => ?_, fun k k' o o' b _ h h' hb => ?_, fun k _ => .inr rfl⟩
    · match k with
      | 0 =>
        simp at h
        subst h
        exact ⟨rfl, ⟨fun c => Iff.rfl, hb, rfl⟩, fun c (hc : c = b) => ⟨.inr ⟨0, _, rfl, hc⟩, by subst hc; exact hlt, by subst hc; exact hσb⟩⟩
      | k + 1 => simp at h
    · simp only [List.length_singleton] at hk
      show (if k = 0 then 1 else 0) = 0
      rw [if_neg (by omega)]
    · match k, k' with
      | 0, 0 => exact absurd rfl ‹_›
      | k + 1, _ => simp at h
      | 0, k' + 1 => simp at h'
  refine (h.calls w _ vals hI (by simpa using hl) fun i x u hx hu => ?_).mono fun e w' ⟨v, t', ob', g', he, ⟨h1, h2⟩, J, hv⟩ => ?_
  · simp only [List.getElem?_map, Option.map_eq_some_iff] at hx
    obtain ⟨y, hy, rfl⟩ := hx
    exact .d _ _ (hr i y u hy hu)
  · subst h1
    subst h2
    obtain ⟨_, ⟨_, jb, _⟩, _⟩ := J.obs 0 _ rfl
    refine ⟨v, g', he, ⟨J.below.os, J.below.tape, J.below.output, J.below.size, fun c hc => ?_⟩, J.con, hv⟩
    by_cases e : c = b
    · subst e
      exact jb.trans hb.symm
    · refine J.below.block c hc fun ⟨k, o, h, h'⟩ => ?_
      match k with
      | 0 =>
        simp at h
        subst h
        exact e h'
      | k + 1 => simp at h
end

/-! ### data without such integers lies elsewhere -/

inductive NoU : D → Prop
  | v (x : Value) (h : ∀ n, x ≠ .int .u64 n) : NoU (.v x)
  | nl (z : Nat) : NoU (.nl z)
  | sl (z : Nat) (rows : List (List D)) (h : ∀ r ∈ rows, ∀ x ∈ r, NoU x) : NoU (.sl z rows)
  | agg (cs : List D) (h : ∀ x ∈ cs, NoU x) : NoU (.agg cs)

/-- The cells that hold none. -/
def filt (σ : Sto) : Sto := fun b o => match σ b o with
  | some (.int .u64 _) => none
  | c => c

theorem filt_some {σ : Sto} {b o : Nat} {u : Value} (h : σ b o = some u) (hu : ∀ n, u ≠ .int .u64 n) : filt σ b o = some u := by
  unfold filt
  rw [h]
  split
  · rename_i n e
    exact absurd (Option.some.inj e) (hu n)
  · rfl
theorem filt_le {σ : Sto} {b o : Nat} {u : Value} (h : filt σ b o = some u) : σ b o = some u := by
  unfold filt at h
  split at h
  · cases h
  · exact h

theorem RD.nou {σ : Sto} {d : D} {u : Value} (h : RD σ d u) (hd : NoU d) : ∀ n, u ≠ .int .u64 n := by
  cases h with
  | v x => cases hd with | v _ h => exact h
  | nl z => exact fun n h => nomatch h
  | nil z A => exact fun n h => nomatch h
  | sl => exact fun n h => nomatch h
  | agg => exact fun n h => nomatch h

theorem RD.filt {σ : Sto} {d : D} {u : Value} (h : RD σ d u) : NoU d → RD (filt σ) d u := by
  induction h with
  | v x => exact fun _ => .v x
  | nl z => exact fun _ => .nl z
  | nil z A => exact fun _ => .nil z A
  | sl z rows b off cap U hcap hm hz hc hr ih =>
    intro hd
    cases hd with
    | sl _ _ hd =>
      refine .sl z rows b off cap U hcap hm hz (fun i j hi hj => ⟨filt_some (hc i j hi hj).1 ?_, (hc i j hi hj).2⟩) fun i j r x h1 h2 => ih i j r x h1 h2 (hd r (List.mem_of_getElem? h1) x (List.mem_of_getElem? h2))
      have h1 : rows[i]? = some rows[i] := List.getElem?_eq_getElem hi
      have hjl : j < rows[i].length := by rw [hz _ (List.getElem_mem hi)]; exact hj
      have h2 : rows[i][j]? = some rows[i][j] := List.getElem?_eq_getElem hjl
      exact (hr i j _ _ h1 h2).nou (hd _ (List.getElem_mem hi) _ (List.getElem_mem hjl))
  | agg cs vs hl h ih =>
    intro hd
    cases hd with
    | agg _ hd => exact .agg cs vs hl fun i x u h1 h2 => ih i x u h1 h2 (hd x (List.mem_of_getElem? h1))

/-! ### the last step of a law -/

section
variable {H : Type} {enc : TypeId × Value → H} {P : Program}
/-- A law of plain arguments that returns true whatever they are, where a table is read. -/
theorem law_bodyT {f : FuncId} {fn : Func} {s : ChangeSpec} {apart fresh handsOn again : Bool} {n : Nat} {W : World} {args : Array Value} {ds gs : List (DataW H)} {before : List MemPlace} {tb : TypeId} {b : Nat} {zs : List Int} {q : TypeId × (Nat × Nat)}
    (hl : laidOutB P = true) (hp : fn.params.toList.all (plainTy P n) = true) (hr : (fn.params.toList.all fun t => P.readableRec t && decide (t < P.types.size)) = true)
    (hrt : fn.resultTypes = #[tb]) (hb : P.underlying tb = some .bool) (hvars : s.vars = [])
    (hs : ∀ ds : List (DataW H), ds.length = fn.params.toList.length → s.fn H (ds ++ []) = { results := [.lit (.bool true)], args := ds })
    (hval : ∀ (j : Nat) t v, fn.params[j]? = some t → args[j]? = some v → Value.okWide P W .any 0 t v)
    (hW : DataW.Whole enc P fn.params.toList s.vars apart W args.toList ds gs before) (hx : W.heap[b]? = some (.cells (zs.map (Value.int .u64)).toArray q.1 q.2))
    (hno : ∀ xs, wfAs P fn.params.toList xs → ∀ x ∈ xs, NoU x)
    (hfun : ∀ xs, wfAs P fn.params.toList xs → FunQ P f (xs.map .d) [.x (tbX b (zs.map (Value.int .u64)) q) 0] (just (.d (.v (.bool true))) [.x (tbX b (zs.map (Value.int .u64)) q) 0])) :
    Calls P f args W fun e W' => ∃ v, e = .returned v ∧ s.post enc P fn apart fresh handsOn again W args v W' := by
  have hW' := hW
  obtain ⟨p, q', hA, hV, rfl, hfz, hnd⟩ := hW
  rw [hvars] at hV
  obtain ⟨rfl, rfl⟩ := trodVars_none hV
  obtain ⟨xs, hlen, hwf, hrd⟩ := rd_args hp hA fun j t v ht hv => hval j t v (by simpa using ht) (by simpa using hv)
  have hdl : ds.length = fn.params.toList.length := by
    have : ∀ {ts : List TypeId} {vs : List Value} {ds : List (DataW H)} {p : List MemPlace}, DataW.TrodAll enc P W 0 (fun _ => true) true ts vs ds p → ds.length = ts.length := by
      intro ts
      induction ts with
      | nil => intro vs ds p h; cases vs <;> cases ds <;> first | rfl | exact h.elim
      | cons t ts ih =>
        intro vs ds p h
        cases vs with
        | nil => cases ds <;> exact h.elim
        | cons v vs =>
          cases ds with
          | nil => exact h.elim
          | cons d ds => obtain ⟨_, _, _, h2, _⟩ := h; simp [ih h2]
    exact this hA
  have hfb : ∀ o, filt (memOf W) b o = none := fun o => by
    cases hfo : filt (memOf W) b o with
    | none => rfl
    | some u =>
      have h1 := filt_le hfo
      exfalso
      have h2 : (zs.map (Value.int .u64))[o]? = some u := by
        have h3 : W.cell? ⟨b, o, none⟩ = some u := h1
        unfold World.cell? at h3
        rw [hx] at h3
        simpa using h3
      simp only [List.getElem?_map, Option.map_eq_some_iff] at h2
      obtain ⟨z, _, rfl⟩ := h2
      unfold Go.Proofs.YthaakpbdijhgiaaGreatDoor.filt at hfo
      rw [h1] at hfo
      cases hfo
  have hc := (hfun xs hwf).rawT W (filt (memOf W)) args.toList (fun b o u h => filt_le h) hx hfb hlen fun i x u h1 h2 => (hrd i x u h1 h2).filt (hno xs hwf x (List.mem_of_getElem? h1))
  rw [show args.toList.toArray = args by simp] at hc
  refine hc.mono fun e W' ⟨v, g, he, I, _, hv⟩ => ?_
  have hv' := hv.inv_v
  subst hv'
  refine ⟨_, he, post_of_below (pa := p) (pv := []) hW' (fun b sp hd => ?_) (fun sp hsp => ?_) (fun sp hsp => ?_) rfl I ?_⟩
  · rw [hs ds hdl, hrt]
    exact trodAll_cons_mk (p := []) (p' := []) ⟨1, by simp [DataW.trod, Value.cells, hb]⟩ trodAll_mk0
  · rw [hs ds hdl]
    refine stay_args hl hr hA fun x hx => ⟨I.same (hW'.lt x (List.mem_append_left _ hx)), hsp x (List.mem_append_left _ hx)⟩
  · rw [hs ds hdl, hvars]; rfl
  · exact ok_one hrt rfl (by simp [Value.okWide, hb, Cell.okWide, Cell.ok])
end

end Go.Proofs.YthaakpbdijhgiaaGreatDoor
