/-
  The small logic, sixth part: operations that make or write memory of the call's own: variables, structs, slices, append; a call by its contract. Conditions: none.
-/
import Derived.Test.YteooogngdejdgaaPwE
import Derived.Maps.AppendAt
set_option linter.unusedVariables false
set_option linter.unusedSimpArgs false
namespace Go.Proofs.Yteooogngdejdgaa
open Go.RowKit

section
variable {N : Nm} {S : St} {w0 : World} {σ0 : Bs} {ob : List Ob} {a : Act} {w : World} {g : Gh}

theorem Inv.lt_of_σ (I : Inv w0 σ0 ob w g) {b o : Nat} {u : Value} (h : g.σ b o = some u) : b < w.heap.size :=
  World.block_lt_of_cell? w ⟨b, o, none⟩ (I.con b o u h)

theorem Inv.new_none (I : Inv w0 σ0 ob w g) {b : Nat} (hb : w.heap.size ≤ b) (o : Nat) : g.σ b o = none := by
  cases h : g.σ b o with
  | none => rfl
  | some u => have := I.lt_of_σ h; omega

/-- A new object. -/
theorem Inv.addF (I : Inv w0 σ0 ob w g) {w' : World} (hb : Below w.heap.size w w') (o : Ob) (V : Value) (F : Nat → Prop)
    (hnew : ∀ g' : Gh, g.le g' → g'.σ = g.σ → g'.lim ob.length = 1 → g'.γ ob.length 0 = V → g'.foot ob.length = F → ObOK (mineB w0 σ0) g' w' ob.length o ∧ ∀ b, g'.at ob.length o b → w.heap.size ≤ b) (hm : σ0.m ≤ ob.length) :
    ∃ g', g.le g' ∧ g'.σ = g.σ ∧ g'.lim ob.length = 1 ∧ g'.γ ob.length 0 = V ∧ Inv w0 σ0 (ob ++ [o]) w' g' := by
  let g' : Gh := { σ := g.σ, γ := fun k n => if k = ob.length then V else g.γ k n, lim := fun k => if k = ob.length then 1 else g.lim k, foot := fun k => if k = ob.length then F else g.foot k }
  have hle : g.le g' := ⟨fun _ _ _ h => h, fun k n hn => by
    have : ¬ k = ob.length := fun e => by have := I.lim k (by omega); omega
    simp [g', this, hn]⟩
  have hl1 : g'.lim ob.length = 1 := by simp [g']
  have hγ1 : g'.γ ob.length 0 = V := by simp [g']
  obtain ⟨hok, hblk⟩ := hnew g' hle rfl hl1 hγ1 (by simp [g'])
  have hold : ∀ (k : Nat) (p : Ob), ob[k]? = some p → ∀ b, g.at k p b → b < w.heap.size := fun k p hp b hbk => ((I.obs k p hp).at_lt hbk).2
  have hft : ∀ k, k ≠ ob.length → g'.foot k = g.foot k := fun k hk => by simp [g', hk]
  have hget : ∀ (k : Nat) (p : Ob), (ob ++ [o])[k]? = some p → (ob[k]? = some p ∧ k ≠ ob.length) ∨ (k = ob.length ∧ p = o) := fun k p hp => by
    rcases Nat.lt_trichotomy k ob.length with h | h | h
    · rw [List.getElem?_append_left h] at hp; exact .inl ⟨hp, by omega⟩
    · subst h; simp at hp; exact .inr ⟨rfl, hp.symm⟩
    · rw [List.getElem?_append_right (by omega)] at hp
      rw [List.getElem?_eq_none (by simp; omega)] at hp; cases hp
  refine ⟨g', hle, rfl, hl1, hγ1, I.below.trans hb, fun b o hb hn => I.old b o hb hn, fun b o u hu => ?_, fun k p hp => ?_, fun k hk => ?_, fun k k' p p' b hne hp hp' hbk => ?_, fun k hk => ?_⟩
  · have := I.con b o u hu
    rw [hb.cell (p := ⟨b, o, none⟩) (I.lt_of_σ hu)]
    exact this
  · rcases hget k p hp with ⟨hp, hne⟩ | ⟨rfl, rfl⟩
    · exact (I.obs k p hp).mono hle (by simp [g', hne]) (hft k hne) (fun b hbk => ⟨hb.block b (hold k p hp b hbk), fun _ => rfl⟩) hb.size
    · exact hok
  · have : ob.length + 1 ≤ k := by simpa using hk
    have hne : ¬ k = ob.length := by omega
    simp [g', hne, I.lim k (by omega)]
  · rcases hget k p hp with ⟨q1, hk⟩ | ⟨hk, hp2⟩
    · rw [Gh.at_mono hle (I.obs k p q1) (hft k hk)] at hbk
      rcases hget k' p' hp' with ⟨q2, hk'⟩ | ⟨hk', hp2'⟩
      · rw [Gh.at_mono hle (I.obs k' p' q2) (hft k' hk')]
        exact I.dis k k' p p' b hne q1 q2 hbk
      · subst hk' hp2'
        intro h; have := hblk b h; have := hold k p q1 b hbk; omega
    · subst hk hp2
      rcases hget k' p' hp' with ⟨q2, hk'⟩ | ⟨hk', hp2'⟩
      · rw [Gh.at_mono hle (I.obs k' p' q2) (hft k' hk')]
        intro h; have := hblk b hbk; have := hold k' p' q2 b h; omega
      · exact (hne hk'.symm).elim
  · have hne : ¬ k = ob.length := by omega
    simpa [g', hne] using I.ext k hk

theorem Inv.add (I : Inv w0 σ0 ob w g) {w' : World} (hb : Below w.heap.size w w') (o : Ob) (V : Value) (hm : σ0.m ≤ ob.length)
    (hnew : ∀ g' : Gh, g.le g' → g'.σ = g.σ → g'.lim ob.length = 1 → g'.γ ob.length 0 = V → ObOK (mineB w0 σ0) g' w' ob.length o ∧ ∀ b, g'.at ob.length o b → w.heap.size ≤ b) :
    ∃ g', g.le g' ∧ g'.σ = g.σ ∧ g'.lim ob.length = 1 ∧ g'.γ ob.length 0 = V ∧ Inv w0 σ0 (ob ++ [o]) w' g' :=
  I.addF hb o V (fun _ => False) (fun g' h1 h2 h3 h4 _ => hnew g' h1 h2 h3 h4) hm

/-- One object turns. -/
theorem Inv.turnM (I : Inv w0 σ0 ob w g) {w' : World} {g' : Gh} {k : Nat} {o o' : Ob} (hk : ob[k]? = some o) (hnp : ∀ z e rows n, o ≠ .gr z e rows n true) (h0 : 0 < g.lim k ∨ σ0.m ≤ k) (hle : g.le g') (hσ : g'.σ = g.σ)
    (hoj : ∀ j, j ≠ k → g'.lim j = g.lim j ∧ g'.foot j = g.foot j) (hos : w'.os = w.os) (htape : w'.tape = w.tape) (hout : w'.output = w.output) (hsize : w.heap.size ≤ w'.heap.size)
    (hoth : ∀ b, b < w.heap.size → ¬ g.at k o b → w'.heap[b]? = w.heap[b]?) (hok : ObOK (mineB w0 σ0) g' w' k o') (hat : ∀ b, g'.at k o' b → g.at k o b ∨ w.heap.size ≤ b) :
    Inv w0 σ0 (ob.set k o') w' g' := by
  have hlt : k < ob.length := (List.getElem?_eq_some_iff.1 hk).1
  have hmine := fun b hb => (I.obs k o hk).at_lt (b := b) hb
  refine ⟨I.below.then hos htape hout hsize fun b hb hn => hoth b (Nat.lt_of_lt_of_le hb I.below.size) fun h => ?_, fun b x hb hn => by rw [hσ]; exact I.old b x hb hn, fun b x u hu => ?_, fun j p hp => ?_, fun j hj => ?_, fun i j p p' b hne hp hp' hb => ?_, fun j hj => ?_⟩
  · rcases (hmine b h).1 with h | h
    · omega
    · exact hn h
  · rw [hσ] at hu
    have hn : ¬ g.at k o b := fun h => by rw [(I.obs k o hk).hid hnp h x] at hu; cases hu
    rw [World.cell?_of_block (w := w) (w' := w') (hoth b (I.lt_of_σ hu) hn)]
    exact I.con b x u hu
  · by_cases hj : k = j
    · subst hj
      rw [List.getElem?_set_self hlt] at hp
      simp only [Option.some.injEq] at hp
      subst hp
      exact hok
    · rw [List.getElem?_set_ne hj] at hp
      have hj' : j ≠ k := fun h => hj h.symm
      exact (I.obs j p hp).mono hle (hoj j hj').1 (hoj j hj').2 (fun b hbk => ⟨hoth b ((I.obs j p hp).at_lt hbk).2 fun h => I.dis k j o p b hj hk hp h hbk, fun x => by rw [hσ]⟩) hsize
  · have hj' : j ≠ k := fun h => by subst h; simp at hj; omega
    rw [(hoj j hj').1]
    exact I.lim j (by simpa using hj)
  · have same : ∀ (i : Nat) (p : Ob) (b : Nat), (ob.set k o')[i]? = some p → g'.at i p b → (i = k ∧ p = o' ∧ (g.at k o b ∨ w.heap.size ≤ b)) ∨ (i ≠ k ∧ ob[i]? = some p ∧ g.at i p b) := by
      intro i p b hp hb
      by_cases hi : k = i
      · subst hi
        rw [List.getElem?_set_self hlt] at hp
        simp only [Option.some.injEq] at hp
        subst hp
        exact .inl ⟨rfl, rfl, hat b hb⟩
      · rw [List.getElem?_set_ne hi] at hp
        have hi' : i ≠ k := fun h => hi h.symm
        rw [Gh.at_mono hle (I.obs i p hp) (hoj i hi').2] at hb
        exact .inr ⟨hi', hp, hb⟩
    intro hb'
    rcases same i p b hp hb with ⟨h1, h2, h3⟩ | ⟨h1, h2, h3⟩
    · rcases same j p' b hp' hb' with ⟨h4, h5, h6⟩ | ⟨h4, h5, h6⟩
      · exact hne (h1.trans h4.symm)
      · rcases h3 with h3 | h3
        · exact I.dis k j o p' b (fun e => h4 e.symm) hk h5 h3 h6
        · have := ((I.obs j p' h5).at_lt h6).2; omega
    · rcases same j p' b hp' hb' with ⟨h4, h5, h6⟩ | ⟨h4, h5, h6⟩
      · rcases h6 with h6 | h6
        · exact I.dis k i o p b (fun e => h1 e.symm) hk h2 h6 h3
        · have := ((I.obs i p h2).at_lt h3).2; omega
      · exact I.dis i j p p' b hne h2 h5 h3 h6
  · by_cases hjk : j = k
    · subst hjk
      rcases I.ext j hj with h | h
      · omega
      · exact .inr ((hle.γ j 0 (by omega)).2.trans h)
    · rcases I.ext j hj with h | h
      · exact .inl ((hoj j hjk).1.trans h)
      · by_cases h0 : 0 < g.lim j
        · exact .inr ((hle.γ j 0 h0).2.trans h)
        · exact .inl ((hoj j hjk).1.trans (by omega))

theorem Inv.turn (I : Inv w0 σ0 ob w g) {w' : World} {g' : Gh} {k : Nat} {o o' : Ob} (hk : ob[k]? = some o) (hnp : ∀ z e rows n, o ≠ .gr z e rows n true) (h0 : 0 < g.lim k) (hle : g.le g') (hσ : g'.σ = g.σ)
    (hoj : ∀ j, j ≠ k → g'.lim j = g.lim j ∧ g'.foot j = g.foot j) (hos : w'.os = w.os) (htape : w'.tape = w.tape) (hout : w'.output = w.output) (hsize : w.heap.size ≤ w'.heap.size)
    (hoth : ∀ b, b < w.heap.size → ¬ g.at k o b → w'.heap[b]? = w.heap[b]?) (hok : ObOK (mineB w0 σ0) g' w' k o') (hat : ∀ b, g'.at k o' b → g.at k o b ∨ w.heap.size ≤ b) :
    Inv w0 σ0 (ob.set k o') w' g' := I.turnM hk hnp (.inl h0) hle hσ hoj hos htape hout hsize hoth hok hat

theorem below_alloc (w : World) (o : Obj) : Below w.heap.size w (w.alloc o) := (Below.refl _ _).alloc (Nat.le_refl _) o

/-- A new variable. -/
theorem Inv.addPv (I : Inv w0 σ0 ob w g) (hm : σ0.m ≤ ob.length) (e : TypeId) (cs : List T) (vs : List Value) (hl : cs.length = vs.length)
    (h : ∀ (i : Nat) (x : T) (u : Value), cs[i]? = some x → vs[i]? = some u → RT g x u) (h1 : ∀ u ∈ vs, u.oneCell' = true) :
    ∃ g', g.le g' ∧ Inv w0 σ0 (ob ++ [.pv cs]) (w.alloc (.cells vs.toArray e)) g' ∧ RT g' (.lp ob.length 0) (.pointer (some ⟨w.heap.size, 0, none⟩)) := by
  obtain ⟨g', hle, hσ, hl1, hγ, I'⟩ := I.add (below_alloc w (.cells vs.toArray e)) (.pv cs) (.pointer (some ⟨w.heap.size, 0, none⟩)) hm (fun g' hle hσ hl1 hγ => by
    refine ⟨⟨hl1, w.heap.size, vs, e, hγ, .inl I.below.size, heap_alloc_new w _, hl, fun i x u hx hu => (h i x u hx hu).mono hle, h1, fun o => ?_⟩, fun b hb => ?_⟩
    · rw [hσ]; exact I.new_none (Nat.le_refl _) o
    · simp only [Gh.at, hγ, Value.pointer.injEq, Option.some.injEq, Addr.mk.injEq, and_true] at hb; omega)
  exact ⟨g', hle, I', .lp _ _ _ (by omega) hγ⟩

/-! ### cells -/

def cellsT (ob : List Ob) : T → Option (List T)
  | .d (.agg ds) => some (ds.map .d)
  | .d x => some [.d x]
  | .agg cs => some cs
  | .lp l off => some [.lp l off]
  | .og k n => match ob[k]? with
    | some (.gr _ _ _ m _) => bif Nat.beq m n then some [.og k n] else none
    | _ => none
  | .ea r off => some [.ea r off]
  | .eg k n z i off => some [.eg k n z i off]
  | .clo f cs => some [.clo f cs]
  | _ => none

def oneT : T → Bool
  | .d (.v x) => x.oneCell'
  | .d (.nl _) => true
  | .d (.sl _ _) => true
  | .d (.agg _) => false
  | .lp _ _ => true
  | .og _ _ => true
  | .ea _ _ => true
  | .eg _ _ _ _ _ => true
  | .clo _ _ => true
  | _ => false

def onesT : List T → Bool
  | [] => true
  | t :: r => oneT t && onesT r

/-- The versions that are named are the last ones. -/
def curT (ob : List Ob) : T → Bool
  | .og k n => match ob[k]? with
    | some (.gr _ _ _ m _) => Nat.beq m n
    | _ => false
  | _ => true
def cursT (ob : List Ob) : List T → Bool
  | [] => true
  | t :: r => curT ob t && cursT ob r

theorem Inv.og_slice (I : Inv w0 σ0 ob w g) {k n : Nat} (h : curT ob (.og k n) = true) : (g.γ k n).oneCell' = true := by
  simp only [curT] at h
  split at h
  · rename_i z e rows m pub hk
    have : m = n := Nat.eq_of_beq_eq_true h
    subst this
    obtain ⟨_, xs, ⟨h2, _⟩, _⟩ := I.obs k _ hk
    rcases h2.2 with ⟨hv, _⟩ | ⟨_, _, _, hv, _⟩ <;> rw [hv] <;> rfl
  · cases h

theorem Inv.one (I : Inv w0 σ0 ob w g) {t : T} {u : Value} (h1 : oneT t = true) (hc : curT ob t = true) (h : RT g t u) : u.oneCell' = true := by
  cases h with
  | d x u h =>
    cases h with
    | v x => exact h1
    | nl z => rfl
    | nil z A => rfl
    | sl => rfl
    | agg => cases h1
  | agg => cases h1
  | tup => cases h1
  | lp => rfl
  | og k n h => exact I.og_slice hc
  | ea => rfl
  | eg => rfl
  | clo => rfl
  | any => cases h1

theorem Inv.cells (I : Inv w0 σ0 ob w g) {t : T} {u : Value} {cs : List T} (hc : cellsT ob t = some cs) (h : RT g t u) (h1 : onesT cs = true) (h2 : cursT ob cs = true) :
    cs.length = u.cells.toList.length ∧ (∀ (i : Nat) (x : T) (v : Value), cs[i]? = some x → u.cells.toList[i]? = some v → RT g x v) ∧ ∀ v ∈ u.cells.toList, v.oneCell' = true := by
  have single : ∀ {x : T} {v : Value}, RT g x v → cs = [x] → u = v → (v.oneCell' = true → v.cells = #[v]) →
      cs.length = u.cells.toList.length ∧ (∀ (i : Nat) (x : T) (v : Value), cs[i]? = some x → u.cells.toList[i]? = some v → RT g x v) ∧ ∀ v ∈ u.cells.toList, v.oneCell' = true := by
    intro x v hx hcs hu hcell
    subst hcs; subst hu
    simp only [onesT, cursT, Bool.and_true] at h1 h2
    have ho := I.one h1 h2 hx
    have hce := hcell ho
    rw [hce]
    refine ⟨rfl, fun i y w' hy hw => ?_, fun w' hw' => ?_⟩
    · cases i with
      | zero => simp at hy hw; subst hy; subst hw; exact hx
      | succ i => simp at hy
    · simp at hw'; subst hw'; exact ho
  have hcell : ∀ v : Value, v.oneCell' = true → v.cells = #[v] := fun v hv => by cases v <;> first | rfl | cases hv
  have many : ∀ (vs : List Value), u = .agg vs.toArray → cs.length = vs.length → (∀ (i : Nat) (x : T) (v : Value), cs[i]? = some x → vs[i]? = some v → RT g x v) →
      cs.length = u.cells.toList.length ∧ (∀ (i : Nat) (x : T) (v : Value), cs[i]? = some x → u.cells.toList[i]? = some v → RT g x v) ∧ ∀ v ∈ u.cells.toList, v.oneCell' = true := by
    intro vs hu hl hr
    subst hu
    have key : ∀ (cs : List T) (vs : List Value), cs.length = vs.length → (∀ (i : Nat) (x : T) (v : Value), cs[i]? = some x → vs[i]? = some v → RT g x v) → onesT cs = true → cursT ob cs = true → ∀ v ∈ vs, v.oneCell' = true := by
      intro cs
      induction cs with
      | nil => intro vs hl _ _ _ v hv; cases vs with | nil => cases hv | cons _ _ => simp at hl
      | cons c cs ih =>
        intro vs hl hr h1 h2 v hv
        cases vs with
        | nil => cases hv
        | cons u vs =>
          simp only [onesT, cursT, Bool.and_eq_true] at h1 h2
          rcases List.mem_cons.1 hv with rfl | hv
          · exact I.one h1.1 h2.1 (hr 0 c v rfl rfl)
          · exact ih vs (by simpa using hl) (fun i x v hx hv => hr (i + 1) x v (by simpa using hx) (by simpa using hv)) h1.2 h2.2 v hv
    exact ⟨by simpa [Value.cells] using hl, fun i x v hx hv => hr i x v hx (by simpa [Value.cells] using hv), fun v hv => key cs vs hl hr h1 h2 v (by simpa [Value.cells] using hv)⟩
  cases t with
  | d x =>
    cases x with
    | agg ds =>
      simp only [cellsT, Option.some.injEq] at hc
      subst hc
      obtain ⟨vs, hu, hl, hr⟩ := h.inv_d.inv_agg
      exact many vs hu (by simpa using hl) fun i x v hx hv => by
        simp only [List.getElem?_map, Option.map_eq_some_iff] at hx
        obtain ⟨y, hy, rfl⟩ := hx
        exact .d _ _ (hr i y v hy hv)
    | v x => simp only [cellsT, Option.some.injEq] at hc; exact single h hc.symm rfl (hcell _)
    | nl z => simp only [cellsT, Option.some.injEq] at hc; exact single h hc.symm rfl (hcell _)
    | sl z rows => simp only [cellsT, Option.some.injEq] at hc; exact single h hc.symm rfl (hcell _)
  | agg cs' =>
    simp only [cellsT, Option.some.injEq] at hc
    subst hc
    obtain ⟨vs, hu, hl, hr⟩ := h.inv_agg
    exact many vs hu hl hr
  | tup cs' => cases hc
  | lp l off => simp only [cellsT, Option.some.injEq] at hc; exact single h hc.symm rfl (hcell _)
  | og k n =>
    simp only [cellsT] at hc
    split at hc
    · rename_i m pub hk
      by_cases hm : Nat.beq m n = true
      · rw [hm, cond_true] at hc
        simp only [Option.some.injEq] at hc
        exact single h hc.symm rfl (hcell _)
      · rw [Bool.eq_false_iff.2 hm] at hc; cases hc
    · cases hc
  | ea r off => simp only [cellsT, Option.some.injEq] at hc; exact single h hc.symm rfl (hcell _)
  | eg k n z i off => simp only [cellsT, Option.some.injEq] at hc; exact single h hc.symm rfl (hcell _)
  | clo f cs => simp only [cellsT, Option.some.injEq] at hc; exact single h hc.symm rfl (hcell _)
  | any => cases hc
end

/-! ### new variables -/

section
variable {E : Env} {N : Nm} {Q : Exit → St → Prop} {S : St} {ops l : List Oper} {ty : TypeId} {pos : String} {after : Array Edge} {gd : Option (Nat × Bool)} {d : Nat}

theorem WL.alloc {t : TypeId} (hw : S.want ops ⟨some d, .alloc t, ty, pos, after, gd⟩ = some true) (hd : Nat.blt d N.n = true) (hk : (E.ty t).known = true)
    (k : WL E.P N ops l Q ⟨(S.set d (.lp S.ob.length 0)).tm, S.ob ++ [.pv ((E.ty t).zero.map .d)]⟩) : WL E.P N ops (⟨some d, .alloc t, ty, pos, after, gd⟩ :: l) Q S :=
  WL.eff (by simp) hw hd (fun w0 σ0 a w g r => by
    obtain ⟨inf, z, hinf, hsz, _, hz, hzs, hzc⟩ := E.info hk
    obtain ⟨h1, h2, h3⟩ := zerosAre_ok hzs
    obtain ⟨g', hle, I', ht⟩ := r.inv.addPv (by rw [r.hm]; exact r.hl) t ((E.ty t).zero.map .d) z.cells.toList (by simpa using h1) (fun i x u hx hu => by
      simp only [List.getElem?_map, Option.map_eq_some_iff] at hx
      obtain ⟨y, hy, rfl⟩ := hx
      exact .d _ _ (h3 _ i y u hy hu)) h2
    refine ⟨_, _, g', ?_, hle, I', ht⟩
    simp [execOp, Instr.alloc, zeroValue, typeInfo, hinf, hz, newVar, newRow]) k

theorem WL.box {t : TypeId} {x : Operand} {cs : List T} (hw : S.want ops ⟨some d, .box t x, ty, pos, after, gd⟩ = some true) (hd : Nat.blt d N.n = true)
    (hc : cellsT S.ob (S.ev x) = some cs) (h1 : onesT cs = true) (h2 : cursT S.ob cs = true)
    (k : WL E.P N ops l Q ⟨(S.set d (.lp S.ob.length 0)).tm, S.ob ++ [.pv cs]⟩) : WL E.P N ops (⟨some d, .box t x, ty, pos, after, gd⟩ :: l) Q S :=
  WL.eff (by simp) hw hd (fun w0 σ0 a w g r => by
    obtain ⟨c1, c2, c3⟩ := r.inv.cells hc (r.ev x) h1 h2
    obtain ⟨g', hle, I', ht⟩ := r.inv.addPv (by rw [r.hm]; exact r.hl) t cs (a.eval x).cells.toList c1 c2 c3
    refine ⟨_, _, g', ?_, hle, I', ht⟩
    simp [execOp, Instr.box, newVar, newRow]) k
end

/-! ### stores -/

def setAll {α : Type} : List α → Nat → List α → List α
  | cs, _, [] => cs
  | cs, o, x :: r => setAll (cs.set o x) (o + 1) r

theorem setAll_length {α : Type} : ∀ (r cs : List α) (o : Nat), (setAll cs o r).length = cs.length
  | [], cs, o => rfl
  | x :: r, cs, o => by simp [setAll, setAll_length r]

theorem setAll_at {α : Type} : ∀ (r cs : List α) (o i : Nat), o + r.length ≤ cs.length → (setAll cs o r)[i]? = if o ≤ i ∧ i < o + r.length then r[i - o]? else cs[i]?
  | [], cs, o, i, _ => by simp [setAll]; intro h1 h2; omega
  | x :: r, cs, o, i, h => by
    simp only [List.length_cons] at h
    rw [setAll, setAll_at r (cs.set o x) (o + 1) i (by simp; omega)]
    by_cases e : i = o
    · subst e
      have h1 : ¬ (i + 1 ≤ i ∧ i < i + 1 + r.length) := by omega
      have h2 : i ≤ i ∧ i < i + (x :: r).length := by simp
      rw [if_neg h1, if_pos h2, List.getElem?_set_self (by omega)]
      simp
    · have h3 : ¬ o = i := fun h => e h.symm
      by_cases h1 : o + 1 ≤ i ∧ i < o + 1 + r.length
      · have h2 : o ≤ i ∧ i < o + (x :: r).length := by simp; omega
        rw [if_pos h1, if_pos h2]
        have : i - o = (i - (o + 1)) + 1 := by omega
        rw [this, List.getElem?_cons_succ]
      · have h2 : ¬ (o ≤ i ∧ i < o + (x :: r).length) := by simp; omega
        rw [if_neg h1, if_neg h2, List.getElem?_set_ne h3]

theorem run_storeCells {P : Program} {b : Nat} {e : TypeId} : ∀ (vals vs : List Value) (off i : Nat) (w : World), w.heap[b]? = some (.cells vs.toArray e (0, 0)) → off + i + vals.length ≤ vs.length →
    (∀ u ∈ vals, u.oneCell' = true) → ∃ w', (storeCells ⟨b, off, none⟩ vals i).run P w = .ok () w' ∧ w'.heap[b]? = some (.cells (setAll vs (off + i) vals).toArray e (0, 0)) ∧
      w'.os = w.os ∧ w'.tape = w.tape ∧ w'.output = w.output ∧ w'.heap.size = w.heap.size ∧ ∀ k, k ≠ b → w'.heap[k]? = w.heap[k]?
  | [], vs, off, i, w, hh, _, _ => ⟨w, rfl, by simpa [setAll] using hh, rfl, rfl, rfl, rfl, fun _ _ => rfl⟩
  | u :: r, vs, off, i, w, hh, hl, h1 => by
    simp only [List.length_cons] at hl
    have ho : off + i < vs.length := by omega
    have hcell : w.cell? ⟨b, off + i, none⟩ = some (vs[off + i]) := by rw [cell_of_heap hh]; exact List.getElem?_eq_getElem ho
    have hfz : w.frozen? ⟨b, off + i, none⟩ = false := by simp [World.frozen?, hh]
    have hset : (w.setCell ⟨b, off + i, none⟩ u).heap[b]? = some (.cells (vs.set (off + i) u).toArray e (0, 0)) := by
      simp [World.setCell, Array.getElem?_modify, hh]
    obtain ⟨w', hr, hh', h2, h3, h4, h5, h6⟩ := run_storeCells r (vs.set (off + i) u) off (i + 1) (w.setCell ⟨b, off + i, none⟩ u) hset (by simp; omega) (fun x hx => h1 x (List.mem_cons_of_mem _ hx))
    refine ⟨w', ?_, by simpa [setAll, Nat.add_assoc] using hh', h2, h3, h4, by simpa [World.setCell] using h5, fun k hk => ?_⟩
    · simp only [storeCells, Sem.run_bind, Addr.add_lit]
      rw [run_store P w _ u _ (h1 u (List.mem_cons_self ..)), hcell]
      simp only [hfz, Bool.false_eq_true, if_false, Result.andThen_ok]
      exact hr
    · rw [h6 k hk]
      exact Below.heap_setCell w ⟨b, off + i, none⟩ u k hk

section
variable {N : Nm} {S : St} {w0 : World} {σ0 : Bs} {ob : List Ob} {a : Act} {w : World} {g : Gh}

theorem Inv.setPv (I : Inv w0 σ0 ob w g) {w' : World} {l off : Nat} {cs vals : List T} {b : Nat} {vs us : List Value} {e : TypeId} (hl : ob[l]? = some (.pv cs))
    (hγ : g.γ l 0 = .pointer (some ⟨b, 0, none⟩)) (hh : w.heap[b]? = some (.cells vs.toArray e (0, 0))) (hlen : cs.length = vs.length)
    (hoff : off + vals.length ≤ cs.length) (hul : vals.length = us.length) (hr : ∀ (i : Nat) (x : T) (u : Value), vals[i]? = some x → us[i]? = some u → RT g x u) (h1 : ∀ u ∈ us, u.oneCell' = true)
    (hh' : w'.heap[b]? = some (.cells (setAll vs off us).toArray e (0, 0))) (hos : w'.os = w.os) (htape : w'.tape = w.tape) (hout : w'.output = w.output) (hsize : w'.heap.size = w.heap.size)
    (hother : ∀ k, k ≠ b → w'.heap[k]? = w.heap[k]?) : Inv w0 σ0 (ob.set l (.pv (setAll cs off vals))) w' g := by
  have hlt : l < ob.length := (List.getElem?_eq_some_iff.1 hl).1
  obtain ⟨hlim, b', vs', e', hγ', hb, hhb, hlen', hcs, hone, hσ⟩ := I.obs l _ hl
  rw [hγ] at hγ'
  injection hγ' with e1; injection e1 with e1; injection e1 with e1 _ _
  subst e1
  rw [hh] at hhb
  have evs : vs = vs' := by
    have := Option.some.inj hhb
    injection this with this _ _
    have := congrArg Array.toList this
    simpa using this
  subst evs
  have hat : ∀ (i : Nat) (x : T) (u : Value), (setAll cs off vals)[i]? = some x → (setAll vs off us)[i]? = some u → RT g x u := fun i x u hx hu => by
    rw [setAll_at _ _ _ _ hoff] at hx
    rw [setAll_at _ _ _ _ (by omega)] at hu
    by_cases h : off ≤ i ∧ i < off + vals.length
    · rw [if_pos h] at hx; rw [if_pos (by omega)] at hu; exact hr _ x u hx hu
    · rw [if_neg h] at hx; rw [if_neg (by omega)] at hu; exact hcs i x u hx hu
  have hone' : ∀ u ∈ setAll vs off us, u.oneCell' = true := fun u hu => by
    obtain ⟨i, hi⟩ := List.getElem?_of_mem hu
    rw [setAll_at _ _ _ _ (by omega)] at hi
    split at hi
    · exact h1 u (List.mem_of_getElem? hi)
    · exact hone u (List.mem_of_getElem? hi)
  exact I.turn hl (fun _ _ _ _ h => by cases h) (by omega) (Gh.le_refl g) rfl (fun _ _ => ⟨rfl, rfl⟩) hos htape hout (by omega) (fun b2 _ hb2 => hother b2 fun e => hb2 (by subst e; exact hγ))
    ⟨hlim, b, _, e, hγ, hb, hh', by rw [setAll_length, setAll_length]; exact hlen, hat, hone', hσ⟩ fun b2 hb2 => .inl hb2
end

section
variable {E : Env} {N : Nm} {Q : Exit → St → Prop} {S : St} {ops l : List Oper} {ty : TypeId} {pos : String} {after : Array Edge} {gd : Option (Nat × Bool)}

theorem WL.store {t : TypeId} {x v : Operand} {j off : Nat} {cs vals : List T} (hw : S.want ops ⟨none, .store t x v, ty, pos, after, gd⟩ = some true) (hk : (E.ty t).known = true)
    (hx : S.ev x = .lp j off) (hj : S.ob[j]? = some (.pv cs)) (hv : cellsT S.ob (fixNil E t (S.ev v)) = some vals) (hn : Nat.beq vals.length (E.ty t).size = true) (ho : Nat.ble (off + vals.length) cs.length = true)
    (h1 : onesT vals = true) (h2 : cursT S.ob vals = true)
    (k : WL E.P N ops l Q ⟨S.tm, S.ob.set j (.pv (setAll cs off vals))⟩) : WL E.P N ops (⟨none, .store t x v, ty, pos, after, gd⟩ :: l) Q S :=
  WL.effskip (by simp) hw (fun w0 σ0 a w g r => by
    obtain ⟨inf, z, hinf, hsz, _⟩ := E.info hk
    have hxr := r.ev x
    rw [hx] at hxr
    obtain ⟨b, h0, hγ, hxv⟩ := hxr.inv_lp
    obtain ⟨c1, c2, c3⟩ := r.inv.cells hv ((r.ev v).fixNil E t) h1 h2
    obtain ⟨hlim, b', vs, e, hγ', hb, hh, hlen, hcs, hone, hσ⟩ := r.inv.obs j _ hj
    rw [hγ] at hγ'
    injection hγ' with e1; injection e1 with e1; injection e1 with e1 _ _
    subst e1
    have ho' := Nat.le_of_ble_eq_true ho
    have hn' := Nat.eq_of_beq_eq_true hn
    obtain ⟨w', hrun, hh', g1, g2, g3, g4, g5⟩ := run_storeCells (P := E.P) (a.eval v).cells.toList vs off 0 w hh (by omega) c3
    refine ⟨w', g, ?_, Gh.le_refl g, r.inv.setPv hj hγ hh hlen ho' c1 c2 c3 (by simpa using hh') g1 g2 g3 g4 g5⟩
    have hsize : (a.eval v).cells.size = inf.size := by
      have : (a.eval v).cells.toList.length = (a.eval v).cells.size := Array.length_toList
      omega
    simp [execOp, Instr.storeAt, Instr.sureAddr, hxv, storeVar, sizeOf, typeInfo, hinf, hsize, hrun]) k
end

end Go.Proofs.Yteooogngdejdgaa
