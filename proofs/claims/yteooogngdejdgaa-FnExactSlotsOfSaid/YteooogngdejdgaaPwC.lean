/-
  The small logic, third part: from a body to its contract; results; what is published; a call by its contract. Conditions: none.
-/
import Derived.Test.YteooogngdejdgaaPwB
set_option linter.unusedVariables false
set_option linter.unusedSimpArgs false
namespace Go.Proofs.Yteooogngdejdgaa
open Go.RowKit

theorem cell_of_heap {w : World} {b : Nat} {vs : List Value} {e : TypeId} (h : w.heap[b]? = some (.cells vs.toArray e (0, 0))) (o : Nat) : w.cell? ⟨b, o, none⟩ = vs[o]? := by
  simp [World.cell?, h]

theorem run_loadVar_struct {P : Program} {t : TypeId} {fs : Array Field} {i : TypeInfo} {w : World} (hu : P.underlying t = some (.struct fs)) (hi : P.info? t = some i)
    (a : Addr) (cs : List Value) (hn : i.size = cs.length) (h : ∀ (j : Nat) (v : Value), cs[j]? = some v → w.cell? (a.add j) = some v) :
    (loadVar t a).run P w = .ok (.agg cs.toArray) w := by
  have h1 := run_loadCells_list (P := P) (w := w) a cs h
  simp [loadVar, isAgg, run_underlying hu, sizeOf, typeInfo, hi, hn, h1]

theorem RD.inv_agg {σ : Sto} {cs : List D} {u : Value} (h : RD σ (.agg cs) u) : ∃ vs : List Value, u = .agg vs.toArray ∧ cs.length = vs.length ∧ ∀ (i : Nat) (x : D) (u : Value), cs[i]? = some x → vs[i]? = some u → RD σ x u := by
  cases h with
  | agg _ vs hl h => exact ⟨vs, rfl, hl, h⟩
theorem RT.inv_d {g : Gh} {x : D} {u : Value} (h : RT g (.d x) u) : RD g.σ x u := by cases h; assumption
theorem RT.inv_agg {g : Gh} {cs : List T} {u : Value} (h : RT g (.agg cs) u) : ∃ vs : List Value, u = .agg vs.toArray ∧ cs.length = vs.length ∧ ∀ (i : Nat) (x : T) (u : Value), cs[i]? = some x → vs[i]? = some u → RT g x u := by
  cases h with
  | agg _ vs hl h => exact ⟨vs, rfl, hl, h⟩
theorem RT.inv_tup {g : Gh} {cs : List T} {u : Value} (h : RT g (.tup cs) u) : ∃ vs : List Value, u = .tuple vs.toArray ∧ cs.length = vs.length ∧ ∀ (i : Nat) (x : T) (u : Value), cs[i]? = some x → vs[i]? = some u → RT g x u := by
  cases h with
  | tup _ vs hl h => exact ⟨vs, rfl, hl, h⟩
theorem RT.inv_og {g : Gh} {k n : Nat} {u : Value} (h : RT g (.og k n) u) : n < g.lim k ∧ u = g.γ k n := by
  cases h; exact ⟨‹_›, rfl⟩
theorem RT.inv_lp {g : Gh} {l off : Nat} {u : Value} (h : RT g (.lp l off) u) : ∃ b, 0 < g.lim l ∧ g.γ l 0 = .pointer (some ⟨b, 0, none⟩) ∧ u = .pointer (some ⟨b, off, none⟩) := by
  cases h; exact ⟨_, ‹_›, ‹_›, rfl⟩

/-! ### what a body leaves -/

section
variable {P : Program} {N : Nm} {S : St} {w0 : World} {σ0 : Bs} {a : Act} {w : World} {g : Gh}

def resultOf (tmps : Array Value) : ResultVar → Sem Value
  | .tmp t => pure (tmps.getD t undef)
  | .cell a t => do loadVar t (← asAddr (tmps.getD a undef))

theorem results_eq (fn : Func) (tmps : Array Value) :
    Go.results fn tmps = (fn.results.mapM (resultOf tmps) >>= fun vs => pure (if h : vs.size = 1 then vs[0] else .tuple vs)) := by
  unfold Go.results
  refine congrArg (fun f => fn.results.mapM f >>= _) ?_
  funext x
  cases x <;> rfl

theorem Rel.res1 (r : Rel N w0 σ0 S a w g) {x : ResultVar} {t : T} (ht : resOf S x = some t) (hok : resOK P S [x]) :
    ∃ v, (resultOf a.tmps x).run P w = .ok v w ∧ RT g t v := by
  cases x with
  | tmp i =>
    simp only [resOf, Option.some.injEq] at ht
    subst ht
    exact ⟨_, by simp [resultOf], r.tm i⟩
  | cell p ty =>
    simp only [resOf] at ht
    obtain ⟨⟨fs, hu⟩, hsz, _⟩ := hok
    cases hp : S.tm p with
    | lp l off =>
      rw [hp] at ht hsz
      simp only [] at ht hsz
      cases hl : S.ob[l]? with
      | none => rw [hl] at ht; cases ht
      | some o =>
        cases o with
        | pv cs =>
          rw [hl] at ht hsz
          simp only [] at ht hsz
          have hoff : off = 0 := by
            by_cases h : off = 0
            · exact h
            · rw [nbeq h] at ht; cases ht
          subst hoff
          rw [show Nat.beq 0 0 = true from rfl] at ht
          simp only [cond_true, Option.some.injEq] at ht
          subst ht
          obtain ⟨b, h0, hγ, hv⟩ := (show RT g (.lp l 0) _ from hp ▸ r.tm p).inv_lp
          obtain ⟨_, b', vs, e, hγ', hb, hh, hlen, hcs, h1, hσ⟩ := r.inv.obs l _ hl
          rw [hγ] at hγ'
          injection hγ' with e1; injection e1 with e1; injection e1 with e1 _ _
          subst e1
          obtain ⟨hc, hi⟩ := hsz
          obtain ⟨inf, hinf⟩ := Option.isSome_iff_exists.1 hi
          refine ⟨.agg vs.toArray, ?_, .agg cs vs hlen hcs⟩
          have hl := run_loadVar_struct (w := w) hu hinf ⟨b, 0, none⟩ vs (by have : inf.size = cs.length := by simpa [Program.cellsOf, hinf] using hc
                                                                             omega) (fun j v hj => by rw [Addr.add_lit, cell_of_heap hh]; simpa using hj)
          simp only [resultOf, hv, asAddr]
          simpa using hl
        | gr _ _ _ _ _ => rw [hl] at ht; cases ht
        | x _ _ => rw [hl] at ht; cases ht
        | dead => rw [hl] at ht; cases ht
        | new => rw [hl] at ht; cases ht
    | d _ => rw [hp] at ht; cases ht
    | agg _ => rw [hp] at ht; cases ht
    | tup _ => rw [hp] at ht; cases ht
    | og _ _ => rw [hp] at ht; cases ht
    | ea _ _ => rw [hp] at ht; cases ht
    | eg _ _ _ _ _ => rw [hp] at ht; cases ht
    | clo _ _ => rw [hp] at ht; cases ht
    | any => rw [hp] at ht; cases ht

theorem Rel.runL (r : Rel N w0 σ0 S a w g) : ∀ (l : List ResultVar) (ts : List T), resL S l = some ts → resOK P S l →
    ∃ vs : List Value, (l.mapM (resultOf a.tmps)).run P w = .ok vs w ∧ ts.length = vs.length ∧ ∀ (i : Nat) (x : T) (u : Value), ts[i]? = some x → vs[i]? = some u → RT g x u
  | [], ts, h, _ => by
    simp only [resL, Option.some.injEq] at h
    subst h
    exact ⟨[], by simp, rfl, fun i x u hx => by simp at hx⟩
  | x :: l, ts, h, hok => by
    unfold Go.Proofs.Yteooogngdejdgaa.resL at h
    cases h1 : resOf S x with
    | none => rw [h1] at h; cases h
    | some t =>
      cases h2 : Go.Proofs.Yteooogngdejdgaa.resL S l with
      | none => rw [h1, h2] at h; cases h
      | some ts' =>
        rw [h1, h2] at h
        simp only [Option.some.injEq] at h
        subst h
        have hok1 : resOK P S [x] := by
          cases x with
          | tmp i => trivial
          | cell p ty => exact ⟨hok.1, hok.2.1, trivial⟩
        have hok2 : resOK P S l := by
          cases x with
          | tmp i => exact hok
          | cell p ty => exact hok.2.2
        obtain ⟨v, hv, hr⟩ := r.res1 h1 hok1
        obtain ⟨vs, hvs, hlen, hrs⟩ := Rel.runL r l ts' h2 hok2
        refine ⟨v :: vs, by simp [List.mapM_cons, hv, hvs], by simp [hlen], fun i y u hy hu => ?_⟩
        cases i with
        | zero => simp at hy hu; subst hy; subst hu; exact hr
        | succ i => exact hrs i y u (by simpa using hy) (by simpa using hu)

theorem Rel.results (r : Rel N w0 σ0 S a w g) (fn : Func) {ts : List T} (h : Go.Proofs.Yteooogngdejdgaa.resL S fn.results.toList = some ts) (hok : resOK P S fn.results.toList) :
    ∃ v, (Go.results fn a.tmps).run P w = .ok v w ∧ RT g (resT ts) v := by
  obtain ⟨vs, hvs, hlen, hrs⟩ := r.runL fn.results.toList ts h hok
  rw [results_eq, Array.mapM_eq_mapM_toList]
  simp only [Sem.run_bind, Sem.run_map, hvs, Result.andThen_ok, Sem.run_pure]
  refine ⟨_, rfl, ?_⟩
  match vs, ts, hlen, hrs with
  | [], [], _, hrs => exact .tup [] [] rfl hrs
  | [v], [t], _, hrs => exact hrs 0 t v rfl rfl
  | v :: v' :: vs, t :: t' :: ts, hlen, hrs => exact .tup (t :: t' :: ts) (v :: v' :: vs) hlen hrs
end

theorem FnQ.intro {P : Program} {f : FuncId} {fn : Func} {c : Code} {args : List T} {ob : List Ob} {R : T → List Ob → Prop} (hf : P.funcs[f]? = some fn) (hb : fn.body = some c)
    (hn : args.length ≤ fn.ntmps) (h : W P ⟨fn.ntmps, ob.length⟩ c (RetR P fn ob.length R) ⟨argT args, ob⟩) : FnQ P f args ob R := by
  intro w g0 vals hI hlen hR
  refine calls_of_wp hf hb ?_
  have hrel : Rel ⟨fn.ntmps, ob.length⟩ w (baseOf ob g0) ⟨argT args, ob⟩ { tmps := vals.toArray ++ Array.replicate (fn.ntmps - vals.toArray.size) undef, defers := [] } w g0 := by
    refine ⟨hI, rfl, by simp; omega, rfl, Nat.le_refl _, fun i => ?_⟩
    simp only [argT]
    cases hi : args[i]? with
    | none => exact .any _
    | some x =>
      have hlt : i < args.length := (List.getElem?_eq_some_iff.1 hi).1
      have hlt' : i < vals.length := by omega
      refine hR i x _ hi ?_
      simp [Array.getD_eq_getD_getElem?, Array.getElem?_append, hlt']
  refine wp_mono (h w _ _ w _ hrel) fun e a' w' ⟨S, g, ⟨he, ts, h1, h2, h3⟩, r⟩ => ?_
  obtain ⟨v, hv, hrt⟩ := r.results fn h1 h2
  obtain ⟨t, ob', g', hQ, hI', hrt'⟩ := h3 _ _ _ _ _ rfl r.inv hrt
  rcases he with rfl | rfl
  · exact ⟨r.defers, v, hv, v, t, ob', g', rfl, hQ, hI', hrt'⟩
  · exact ⟨r.defers, v, hv, v, t, ob', g', rfl, hQ, hI', hrt'⟩

/-! ### an object's own part of the invariant, kept -/

theorem ObOK.mono {mine : Nat → Prop} {g g' : Gh} {w w' : World} {k : Nat} {o : Ob} (h : ObOK mine g w k o) (hg : g.le g') (hlim : g'.lim k = g.lim k) (hft : g'.foot k = g.foot k)
    (hb : ∀ b, g.at k o b → w'.heap[b]? = w.heap[b]? ∧ ∀ x, g'.σ b x = g.σ b x) (hs : w.heap.size ≤ w'.heap.size) : ObOK mine g' w' k o := by
  cases o with
  | pv cs =>
    obtain ⟨h1, b, vs, e, h2, h3, h4, h5, h6, h7, h8⟩ := h
    have hg0 : g'.γ k 0 = g.γ k 0 := (hg.γ k 0 (by omega)).2
    have hbb := hb b (by simp [Gh.at, h2])
    exact ⟨hlim.trans h1, b, vs, e, hg0.trans h2, h3, hbb.1.trans h4, h5, fun i x u hx hu => (h6 i x u hx hu).mono hg, h7, fun x => (hbb.2 x).trans (h8 x)⟩
  | gr z e rows n pub =>
    obtain ⟨h1, xs, ⟨h2, h2m⟩, h3, h4, h5, h6⟩ := h
    have hg0 : g'.γ k n = g.γ k n := (hg.γ k n (by omega)).2
    refine ⟨hlim.trans h1, xs, ⟨?_, by rw [hg0]; exact h2m⟩, h3, fun i j r x hr hx => let ⟨u, hu, hd⟩ := h4 i j r x hr hx; ⟨u, hu, hd.mono hg.σ⟩, h5, fun b hbk => ?_⟩
    · rw [hg0]
      refine ⟨h2.1, ?_⟩
      rcases h2.2 with hn | ⟨b, cap, cur, hv, hg1, hh, rest⟩
      · exact .inl hn
      · exact .inr ⟨b, cap, cur, hv, hg1, ((hb b (by simp [Gh.at, hv, Value.ownBlock])).1).trans hh, rest⟩
    · rw [hg0] at hbk
      have := h6 b hbk
      have hs := (hb b (by simp [Gh.at, hbk])).2
      cases pub with
      | true => simp only [if_true] at this ⊢; exact fun x => (hs x).trans (this x)
      | false => simp only [Bool.false_eq_true, if_false] at this ⊢; exact fun x => (hs x).trans (this x)
  | x X n =>
    obtain ⟨h1, h2, h3⟩ := h
    have hg0 : g'.γ k n = g.γ k n := (hg.γ k n (by omega)).2
    refine ⟨hlim.trans h1, ?_, fun b hb' => ?_⟩
    · rw [hg0, hft]
      exact X.mono hg.σ (fun b hb' => (hb b hb').1) h2
    · rw [hft] at hb'
      obtain ⟨h4, h5, h6⟩ := h3 b hb'
      exact ⟨h4, by omega, fun x => ((hb b hb').2 x).trans (h6 x)⟩
  | dead => trivial
  | new => exact hlim.trans h

theorem Gh.at_mono {g g' : Gh} (hg : g.le g') {mine : Nat → Prop} {w : World} {k : Nat} {o : Ob} (h : ObOK mine g w k o) (hft : g'.foot k = g.foot k) (b : Nat) : g'.at k o b ↔ g.at k o b := by
  cases o with
  | pv cs =>
    have hg0 : g'.γ k 0 = g.γ k 0 := (hg.γ k 0 (by have := h.1; omega)).2
    simp [Gh.at, hg0]
  | gr z e rows n pub =>
    have hg0 : g'.γ k n = g.γ k n := (hg.γ k n (by have := h.1; omega)).2
    simp [Gh.at, hg0]
  | x X n => simp [Gh.at, hft]
  | dead => exact Iff.rfl
  | new => exact Iff.rfl

/-- Where an object lies: among what may be written, and there. -/
theorem ObOK.at_lt {mine : Nat → Prop} {g : Gh} {w : World} {k : Nat} {o : Ob} (h : ObOK mine g w k o) {b : Nat} (hb : g.at k o b) : mine b ∧ b < w.heap.size := by
  cases o with
  | pv cs =>
    obtain ⟨h1, b', vs, e, h2, h3, h4, _⟩ := h
    simp only [Gh.at, h2, Value.pointer.injEq, Option.some.injEq, Addr.mk.injEq, and_true] at hb
    subst hb
    exact ⟨h3, (Array.getElem?_eq_some_iff.1 h4).1⟩
  | gr z e rows n pub =>
    obtain ⟨h1, xs, ⟨h2, h2m⟩, _⟩ := h
    exact ⟨h2m b hb, (h2.lt b hb).2⟩
  | x X n => exact ⟨(h.2.2 b hb).1, (h.2.2 b hb).2.1⟩
  | dead => exact hb.elim
  | new => exact hb.elim

/-- What is not published is not known. -/
theorem ObOK.hid {mine : Nat → Prop} {g : Gh} {w : World} {k : Nat} {o : Ob} (h : ObOK mine g w k o) (ho : ∀ z e rows n, o ≠ .gr z e rows n true) {b : Nat} (hb : g.at k o b) (x : Nat) : g.σ b x = none := by
  cases o with
  | pv cs =>
    obtain ⟨h1, b', vs, e, h2, h3, h4, _, _, _, h8⟩ := h
    simp only [Gh.at, h2, Value.pointer.injEq, Option.some.injEq, Addr.mk.injEq, and_true] at hb
    subst hb
    exact h8 x
  | gr z e rows n pub =>
    cases pub with
    | true => exact (ho z e rows n rfl).elim
    | false =>
      obtain ⟨h1, xs, _, _, _, _, h6⟩ := h
      have := h6 b hb
      simp only [Bool.false_eq_true, if_false] at this
      exact this x
  | x X n => exact (h.2.2 b hb).2.2 x
  | dead => exact hb.elim
  | new => exact hb.elim

/-! ### publishing -/

theorem Inv.pub {w0 : World} {σ0 : Bs} {ob : List Ob} {w : World} {g : Gh} (I : Inv w0 σ0 ob w g) {k z : Nat} {e : TypeId} {rows : List (List D)} {n : Nat}
    (hk : ob[k]? = some (.gr z e rows n false)) : ∃ g', g.le g' ∧ g'.lim = g.lim ∧ Inv w0 σ0 (ob.set k (.gr z e rows n true)) w g' := by
  have hlt : k < ob.length := (List.getElem?_eq_some_iff.1 hk).1
  obtain ⟨h1, xs, ⟨h2, h2m⟩, h3, h4, h5, h6⟩ := I.obs k _ hk
  let g' : Gh := { g with σ := fun b o => if (g.γ k n).ownBlock = some b then xs[o]? else g.σ b o }
  have hle : g.le g' := ⟨fun b o u hu => by
    by_cases hb : (g.γ k n).ownBlock = some b
    · have h6' := h6 b hb
      simp only [Bool.false_eq_true, if_false] at h6'
      rw [h6' o] at hu
      cases hu
    · simpa [g', hb] using hu, fun k n hn => ⟨hn, rfl⟩⟩
  refine ⟨g', hle, rfl, I.below, fun b o hb hn => ?_, fun b o u hu => ?_, fun j o ho => ?_, fun j hj => I.lim j (by simpa using hj), fun i j o o' b hne ho ho' hb => ?_, I.ext⟩
  · have : ¬ (g.γ k n).ownBlock = some b := fun e => by
      rcases h2m b e with h | h
      · omega
      · exact hn h
    simpa [g', this] using I.old b o hb hn
  · by_cases hb : (g.γ k n).ownBlock = some b
    · simp only [g', hb, if_true] at hu
      have := h2.cells hb o u hu
      rwa [Addr.add_lit, Nat.zero_add] at this
    · simp only [g', hb, if_false] at hu
      exact I.con b o u hu
  · by_cases hj : k = j
    · subst hj
      rw [List.getElem?_set_self hlt] at ho
      simp only [Option.some.injEq] at ho
      subst ho
      refine ⟨h1, xs, ⟨h2, h2m⟩, h3, fun i j r x hr hx => let ⟨u, hu, hd⟩ := h4 i j r x hr hx; ⟨u, hu, hd.mono hle.σ⟩, h5, fun b hb => ?_⟩
      simp only [if_true]
      intro o
      show (if (g.γ k n).ownBlock = some b then xs[o]? else g.σ b o) = xs[o]?
      rw [if_pos hb]
    · rw [List.getElem?_set_ne hj] at ho
      refine (I.obs j o ho).mono hle rfl rfl (fun b hb => ⟨rfl, fun x => ?_⟩) (Nat.le_refl _)
      have : ¬ (g.γ k n).ownBlock = some b := fun e => I.dis k j _ o b hj hk ho (by simpa [Gh.at] using e) hb
      simp [g', this]
  · have same : ∀ (i : Nat) (o : Ob), (ob.set k (.gr z e rows n true))[i]? = some o → ∃ p, ob[i]? = some p ∧ ∀ (b : Nat), g'.at i o b → g.at i p b := by
      intro i o ho
      by_cases hi : k = i
      · subst hi
        rw [List.getElem?_set_self hlt] at ho
        simp only [Option.some.injEq] at ho
        subst ho
        exact ⟨_, hk, fun b hb => hb⟩
      · rw [List.getElem?_set_ne hi] at ho
        exact ⟨o, ho, fun b hb => by rwa [Gh.at_mono hle (I.obs i o ho) rfl] at hb⟩
    obtain ⟨p, hp, hpb⟩ := same i o ho
    obtain ⟨q, hq, hqb⟩ := same j o' ho'
    exact fun e => I.dis i j p q b hne hp hq (hpb b hb) (hqb b e)

theorem W.pub {P : Program} {N : Nm} {c : Code} {Q : Exit → St → Prop} {S : St} (k : Nat) {z : Nat} {e : TypeId} {rows : List (List D)} {n : Nat}
    (hk : S.ob[k]? = some (.gr z e rows n false)) (h : W P N c Q { S with ob := S.ob.set k (.gr z e rows n true) }) : W P N c Q S := fun w0 σ0 a w g r => by
  obtain ⟨g', hle, hlim, I⟩ := r.inv.pub hk
  exact h w0 σ0 a w g' ⟨I, r.defers, r.size, r.hm, by simpa using r.hl, fun i => (r.tm i).mono hle⟩

theorem WL.pub {P : Program} {N : Nm} {ops l : List Oper} {Q : Exit → St → Prop} {S : St} (k : Nat) {z : Nat} {e : TypeId} {rows : List (List D)} {n : Nat}
    (hk : S.ob[k]? = some (.gr z e rows n false)) (h : WL P N ops l Q { S with ob := S.ob.set k (.gr z e rows n true) }) : WL P N ops l Q S := fun w0 σ0 a w g r => by
  obtain ⟨g', hle, hlim, I⟩ := r.inv.pub hk
  exact h w0 σ0 a w g' ⟨I, r.defers, r.size, r.hm, by simpa using r.hl, fun i => (r.tm i).mono hle⟩

/-- What is published reads as a slice. -/
theorem Inv.read {w0 : World} {σ0 : Bs} {ob : List Ob} {w : World} {g : Gh} (I : Inv w0 σ0 ob w g) {k z : Nat} {e : TypeId} {rows : List (List D)} {n : Nat}
    (hk : ob[k]? = some (.gr z e rows n true)) : RD g.σ (.sl z rows) (g.γ k n) := by
  obtain ⟨h1, xs, ⟨h2, h2m⟩, h3, h4, h5, h6⟩ := I.obs k _ hk
  rcases h2.2 with ⟨hv, hn⟩ | ⟨b, cap, cur, hv, hb, hh, hcap, hm, hcs, hxs⟩
  · rw [hv]
    have : rows = [] := List.eq_nil_of_length_eq_zero hn
    subst this
    exact .nil z none
  · rw [hv]
    have h6b := h6 b (by rw [hv]; rfl)
    simp only [if_true] at h6b
    have hlen := h2.1
    have hin : ∀ i j, i < rows.length → j < z → i * z + j < xs.length := fun i j hi hj => by
      rw [hlen]
      calc i * z + j < i * z + z := by omega
        _ = (i + 1) * z := by rw [Nat.add_mul]; omega
        _ ≤ rows.length * z := Nat.mul_le_mul_right _ hi
    refine .sl z rows b 0 cap (fun i j => (xs[i * z + j]?).getD undef) hcap hm h3 (fun i j hi hj => ?_) (fun i j r x hr hx => ?_)
    · have hlt := hin i j hi hj
      rw [Nat.zero_add, h6b, List.getElem?_eq_getElem hlt]
      exact ⟨rfl, h5 _ (List.getElem_mem hlt)⟩
    · obtain ⟨u, hu, hd⟩ := h4 i j r x hr hx
      rw [hu]
      exact hd

/-! ### the normal form of what a slot holds -/

theorem RD.inv_nl {σ : Sto} {z : Nat} {u : Value} (h : RD σ (.nl z) u) : u = .slice none 0 0 := by cases h; rfl

def D.fix1 : D → D
  | .nl z => .sl z []
  | x => x
def D.fix : D → D
  | .agg cs => .agg (cs.map D.fix1)
  | x => x.fix1

theorem RD.fix1 {σ : Sto} {d : D} {u : Value} (h : RD σ d u) : RD σ d.fix1 u := by
  cases d with
  | nl z => have := h.inv_nl; subst this; exact .nil z none
  | _ => exact h
theorem RD.fix {σ : Sto} {d : D} {u : Value} (h : RD σ d u) : RD σ d.fix u := by
  cases d with
  | agg cs =>
    obtain ⟨vs, rfl, hl, hr⟩ := h.inv_agg
    refine .agg _ vs (by simpa using hl) fun i x u hx hu => ?_
    simp only [List.getElem?_map, Option.map_eq_some_iff] at hx
    obtain ⟨y, hy, rfl⟩ := hx
    exact (hr i y u hy hu).fix1
  | _ => exact h.fix1



def allD : List T → Option (List D)
  | [] => some []
  | .d x :: r => match allD r with | some xs => some (x :: xs) | none => none
  | _ :: _ => none

def mkAgg (cs : List T) : T := match allD cs with | some xs => .d (.agg xs) | none => .agg cs

theorem allD_at : ∀ {cs : List T} {xs : List D}, allD cs = some xs → cs = xs.map .d
  | [], xs, h => by simp [allD] at h; subst h; rfl
  | .d x :: r, xs, h => by
    simp only [allD] at h
    cases hr : allD r with
    | none => rw [hr] at h; cases h
    | some ys =>
      rw [hr] at h
      simp only [Option.some.injEq] at h
      subst h
      rw [allD_at hr]; rfl
  | .agg _ :: _, xs, h => by simp [allD] at h
  | .tup _ :: _, xs, h => by simp [allD] at h
  | .lp _ _ :: _, xs, h => by simp [allD] at h
  | .og _ _ :: _, xs, h => by simp [allD] at h
  | .ea _ _ :: _, xs, h => by simp [allD] at h
  | .eg _ _ _ _ _ :: _, xs, h => by simp [allD] at h
  | .clo _ _ :: _, xs, h => by simp [allD] at h
  | .any :: _, xs, h => by simp [allD] at h

theorem RT.mkAgg {g : Gh} {cs : List T} {vs : List Value} (hl : cs.length = vs.length) (h : ∀ (i : Nat) (x : T) (u : Value), cs[i]? = some x → vs[i]? = some u → RT g x u) :
    RT g (mkAgg cs) (.agg vs.toArray) := by
  unfold Go.Proofs.Yteooogngdejdgaa.mkAgg
  cases ha : allD cs with
  | none => exact .agg cs vs hl h
  | some xs =>
    have := allD_at ha
    subst this
    refine .d _ _ (.agg xs vs (by simpa using hl) fun i x u hx hu => ?_)
    exact (h i (.d x) u (by simp [hx]) hu).inv_d

def normC (ob : List Ob) : T → T
  | .og k n => match ob[k]? with
    | some (.gr z _ rows m true) => bif Nat.beq m n then .d (.sl z rows) else .og k n
    | _ => .og k n
  | .d x => .d x.fix1
  | t => t

def norm1 (ob : List Ob) : T → T
  | .agg cs => mkAgg (cs.map (normC ob))
  | .d x => .d x.fix
  | .clo f cs => .clo f (cs.map (normC ob))
  | t => normC ob t

def norm (ob : List Ob) : T → T
  | .tup cs => .tup (cs.map (norm1 ob))
  | t => norm1 ob t

section
variable {w0 : World} {σ0 : Bs} {ob : List Ob} {w : World} {g : Gh}

theorem Inv.normC (I : Inv w0 σ0 ob w g) {t : T} {v : Value} (h : RT g t v) : RT g (normC ob t) v := by
  cases t with
  | og k n =>
    simp only [Go.Proofs.Yteooogngdejdgaa.normC]
    split
    · rename_i z e rows m hk
      by_cases e' : m = n
      · subst e'
        rw [show Nat.beq m m = true by simp]
        simp only [cond_true]
        obtain ⟨_, hv⟩ := h.inv_og
        rw [hv]
        exact .d _ _ (I.read hk)
      · rw [nbeq e']; exact h
    · exact h
  | d x => exact .d _ _ h.inv_d.fix1
  | _ => exact h

theorem RT.inv_clo {f : FuncId} {cs : List T} {u : Value} (h : RT g (.clo f cs) u) : ∃ vs : List Value, u = .func (.func f) #[] vs.toArray ∧ cs.length = vs.length ∧ ∀ (i : Nat) (x : T) (u : Value), cs[i]? = some x → vs[i]? = some u → RT g x u := by
  cases h with
  | clo _ _ vs hl h => exact ⟨vs, rfl, hl, h⟩

theorem Inv.norm1 (I : Inv w0 σ0 ob w g) {t : T} {v : Value} (h : RT g t v) : RT g (norm1 ob t) v := by
  cases t with
  | agg cs =>
    obtain ⟨vs, rfl, hl, hh⟩ := h.inv_agg
    refine RT.mkAgg (by simpa using hl) fun i x u hx hu => ?_
    simp only [List.getElem?_map, Option.map_eq_some_iff] at hx
    obtain ⟨y, hy, rfl⟩ := hx
    exact I.normC (hh i y u hy hu)
  | d x => exact .d _ _ h.inv_d.fix
  | clo f cs =>
    obtain ⟨vs, rfl, hl, hh⟩ := h.inv_clo
    refine .clo f _ vs (by simpa using hl) fun i x u hx hu => ?_
    simp only [List.getElem?_map, Option.map_eq_some_iff] at hx
    obtain ⟨y, hy, rfl⟩ := hx
    exact I.normC (hh i y u hy hu)
  | _ => exact I.normC h

theorem Inv.norm (I : Inv w0 σ0 ob w g) {t : T} {v : Value} (h : RT g t v) : RT g (norm ob t) v := by
  cases t with
  | tup cs =>
    obtain ⟨vs, rfl, hl, hh⟩ := h.inv_tup
    refine .tup _ vs (by simpa using hl) fun i x u hx hu => ?_
    simp only [List.getElem?_map, Option.map_eq_some_iff] at hx
    obtain ⟨y, hy, rfl⟩ := hx
    exact I.norm1 (hh i y u hy hu)
  | _ => exact I.norm1 h

theorem Inv.trim (I : Inv w0 σ0 ob w g) {ob' : List Ob} (h : obsLe ob'.length ob' ob) : Inv w0 σ0 ob' w (g.trim ob'.length) := by
  obtain ⟨hlen, hk⟩ := obsLe_at h
  have hlim : ∀ k o, ob'[k]? = some o → (g.trim ob'.length).lim k = g.lim k := fun k o ho => by
    have : k < ob'.length := (List.getElem?_eq_some_iff.1 ho).1
    simp [Gh.trim, this]
  refine ⟨I.below, I.old, I.con, fun k o ho => ?_, fun k h => by simp [Gh.trim]; omega, fun k k' o o' b hne ho ho' hb => ?_, fun k hk => ?_⟩
  · obtain ⟨hu, ho2⟩ := hk k o ho
    rcases ho2 with ho2 | rfl
    · have := I.obs k o ho2
      cases o with
      | pv cs =>
        obtain ⟨h1, b, vs, e, h2, h3, h4, h5, h6, h7⟩ := this
        exact ⟨(hlim k _ ho).trans h1, b, vs, e, h2, h3, h4, h5, fun i x u hx hv => (h6 i x u hx hv).trim (T.underL_at hu i x hx), h7⟩
      | gr z e rows n pub => exact ⟨(hlim k _ ho).trans this.1, this.2⟩
      | x X n => exact ⟨(hlim k _ ho).trans this.1, this.2⟩
      | dead => trivial
      | new => exact (hlim k _ ho).trans this
    · trivial
  · obtain ⟨_, h1⟩ := hk k o ho
    obtain ⟨_, h2⟩ := hk k' o' ho'
    rcases h1 with h1 | rfl
    · rcases h2 with h2 | rfl
      · have e1 : g.at k o b := by cases o <;> exact hb
        have := I.dis k k' o o' b hne h1 h2 e1
        cases o' <;> exact this
      · simp [Gh.at]
    · simp [Gh.at] at hb
  · by_cases h : k < ob'.length
    · simpa [Gh.trim, h] using I.ext k hk
    · exact .inl (by simp [Gh.trim, h])
end

theorem Fin.pub {ob ob' : List Ob} {tt t : T} (k : Nat) {z : Nat} {e : TypeId} {rows : List (List D)} {n : Nat} (hk : ob[k]? = some (.gr z e rows n false))
    (h : Fin (ob.set k (.gr z e rows n true)) tt ob' t) : Fin ob tt ob' t := fun w0 σ0 w g v I hv => by
  obtain ⟨g', hle, _, I'⟩ := I.pub hk
  exact h w0 σ0 w g' v I' (hv.mono hle)

theorem Fin.norm {ob ob' : List Ob} {tt t : T} (h : Fin ob (norm ob tt) ob' t) : Fin ob tt ob' t := fun w0 σ0 w g v I hv =>
  h w0 σ0 w g v I (I.norm hv)

/-- The objects that the result does not name are let go. -/
theorem Fin.drop {ob ob' : List Ob} {t : T} (h : obsLe ob'.length ob' ob) (hu : t.under ob'.length = true) : Fin ob t ob' t := fun w0 σ0 w g v I hv =>
  ⟨_, I.trim h, hv.trim hu⟩

theorem Fin.data {ob : List Ob} {x : D} : Fin ob (.d x) [] (.d x) := Fin.drop trivial rfl
theorem Fin.tup {ob : List Ob} {cs : List T} (h : T.underL 0 cs = true) : Fin ob (.tup cs) [] (.tup cs) := Fin.drop trivial (by simpa [T.under] using h)

end Go.Proofs.Yteooogngdejdgaa
