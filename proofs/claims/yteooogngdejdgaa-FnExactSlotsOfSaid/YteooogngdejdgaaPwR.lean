/-
  The small logic, eighteenth part: regions that draw their order, whose operations leave the call's own objects as they are (calls that make memory among them). Conditions: none.
-/
import Derived.Test.YteooogngdejdgaaPwO
import Derived.Test.YteooogngdejdgaaPwQ
set_option linter.unusedVariables false
set_option linter.unusedSimpArgs false
namespace Go.Proofs.Yteooogngdejdgaa
open Go.RowKit

theorem upd_self (tm : Nat → T) (d : Nat) : upd tm d (tm d) = tm := by
  funext j
  by_cases e : j = d
  · subst e; simp [upd]
  · simp [upd, nbeq e]

def updO (tm : Nat → T) : Option Nat → T → Nat → T
  | some d, t => upd tm d t
  | none, _ => tm

/-- One operation, from whatever state that agrees where it looks. -/
def OpSt (P : Program) (N : Nm) (ops : List Oper) (ob : List Ob) (o : Oper) (tm : Nat → T) (t : T) : Prop :=
  ∀ tm' : Nat → T, (∀ s ∈ o.looksAt ops.toArray, tm' s = tm s) → ∀ (l : List Oper) (Q : Exit → St → Prop), WL P N ops l Q ⟨updO tm' o.dst t, ob⟩ → WL P N ops (o :: l) Q ⟨tm', ob⟩

/-- The walk of such a region in the order of the text. -/
inductive WD (P : Program) (N : Nm) (ops : List Oper) (ob : List Ob) (K : St → Prop) : List Oper → (Nat → T) → Prop
  | nil {tm} (h : K ⟨tm, ob⟩) : WD P N ops ob K [] tm
  | cons {o l tm} (t : T) (h : OpSt P N ops ob o tm t) (k : WD P N ops ob K l (updO tm o.dst t)) : WD P N ops ob K (o :: l) tm

inductive Chain (P : Program) (N : Nm) (ops : List Oper) (ob : List Ob) : List Oper → (Nat → T) → (Nat → T) → Prop
  | nil {tm} : Chain P N ops ob [] tm tm
  | cons {o l tm tmF} (t : T) (h : OpSt P N ops ob o tm t) (k : Chain P N ops ob l (updO tm o.dst t) tmF) : Chain P N ops ob (o :: l) tm tmF

theorem WD.chain {P : Program} {N : Nm} {ops : List Oper} {ob : List Ob} {K : St → Prop} {l : List Oper} {tm : Nat → T} (h : WD P N ops ob K l tm) : ∃ tmF, Chain P N ops ob l tm tmF ∧ K ⟨tmF, ob⟩ := by
  induction h with
  | nil h => exact ⟨_, .nil, h⟩
  | cons t h k ih =>
    obtain ⟨tmF, h1, h2⟩ := ih
    exact ⟨tmF, .cons t h h1, h2⟩

/-- What is written once; what is looked at is written ahead of it, and an edge says so. -/
def dstsOf (l : List Oper) : List Nat := l.filterMap (·.dst)

def onceB (ops : List Oper) : Nat → List Oper → Bool
  | _, [] => true
  | i, o :: l =>
    (o.after.toList.all fun e => !Region.binds .any e || Nat.blt e.on i) &&
    (match o.dst with | some d => !(dstsOf l).elem d && !((ops.take i).any fun p => (p.looksAt ops.toArray).elem d) && !(o.looksAt ops.toArray).elem d | none => true) &&
    ((o.looksAt ops.toArray).all fun s => ((List.range i).all fun j => match ops[j]? with | some p => !(p.dst == some s) || o.after.toList.any (fun e => Region.binds .any e && e.on == j) | none => true)) &&
    onceB ops (i + 1) l

theorem onceB_at {ops : List Oper} : ∀ {l : List Oper} {i : Nat}, onceB ops i l = true → ∀ (k : Nat) (o : Oper), l[k]? = some o →
    (∀ e ∈ o.after, Region.binds .any e = true → e.on < i + k) ∧
    (∀ d, o.dst = some d → (∀ (j : Nat) (p : Oper), k < j → l[j]? = some p → p.dst ≠ some d) ∧ (∀ (j : Nat) (p : Oper), j < i + k → ops[j]? = some p → d ∉ p.looksAt ops.toArray) ∧ d ∉ o.looksAt ops.toArray) ∧
    (∀ s ∈ o.looksAt ops.toArray, ∀ (j : Nat) (p : Oper), j < i + k → ops[j]? = some p → p.dst = some s → ∃ e ∈ o.after, Region.binds .any e = true ∧ e.on = j)
  | [], i, _, k, o, hk => by simp at hk
  | q :: l, i, h, k, o, hk => by
    simp only [onceB, Bool.and_eq_true] at h
    obtain ⟨⟨⟨h1, h2⟩, h3⟩, h4⟩ := h
    cases k with
    | zero =>
      simp at hk
      subst hk
      refine ⟨fun e he hb => ?_, fun d hd => ?_, fun s hs j p hj hp hps => ?_⟩
      · have := List.all_eq_true.1 h1 e (by simpa using he)
        rw [hb] at this
        simpa using this
      · rw [hd] at h2
        simp only [Bool.and_eq_true, Bool.not_eq_true', List.elem_eq_mem, decide_eq_false_iff_not] at h2
        obtain ⟨⟨g1, g2⟩, g3⟩ := h2
        refine ⟨fun j p hj hp hpd => g1 ?_, fun j p hj hp hm => ?_, g3⟩
        · cases j with
          | zero => omega
          | succ j => exact List.mem_filterMap.2 ⟨p, List.mem_of_getElem? (by simpa using hp), hpd⟩
        · have : (ops.take i).any (fun p => decide (d ∈ p.looksAt ops.toArray)) = true := List.any_eq_true.2 ⟨p, List.mem_of_getElem? (i := j) (by rw [List.getElem?_take, if_pos (by simpa using hj)]; exact hp), by simpa using hm⟩
          rw [this] at g2; cases g2
      · have := List.all_eq_true.1 h3 s hs
        have := List.all_eq_true.1 this j (by simpa using hj)
        rw [hp] at this
        simp only [hps, beq_self_eq_true, Bool.not_true, Bool.false_or, List.any_eq_true, Bool.and_eq_true, beq_iff_eq] at this
        obtain ⟨e, he, hb, hj⟩ := this
        exact ⟨e, by simpa using he, hb, hj⟩
    | succ k =>
      obtain ⟨g1, g2, g3⟩ := onceB_at h4 k o (by simpa using hk)
      rw [show i + 1 + k = i + (k + 1) by omega] at g1 g2 g3
      refine ⟨g1, fun d hd => ?_, g3⟩
      obtain ⟨p1, p2, p3⟩ := g2 d hd
      refine ⟨fun j p hj hp => ?_, p2, p3⟩
      cases j with
      | zero => omega
      | succ j => exact p1 j p (by omega) (by simpa using hp)

section
variable {P : Program} {N : Nm} {ops : List Oper} {ob : List Ob}

/-- What the chain leaves at a slot. -/
theorem Chain.keeps : ∀ {l : List Oper} {tm tmF : Nat → T}, Chain P N ops ob l tm tmF → ∀ s, s ∉ dstsOf l → tmF s = tm s
  | _, _, _, .nil, s, _ => rfl
  | o :: l, tm, tmF, .cons t h k, s, hs => by
    have hs' : s ∉ dstsOf l := fun hm => hs (by
      obtain ⟨p, hp, hd⟩ := List.mem_filterMap.1 hm
      exact List.mem_filterMap.2 ⟨p, List.mem_cons_of_mem _ hp, hd⟩)
    rw [k.keeps s hs']
    cases hd : o.dst with
    | none => rfl
    | some d =>
      have : s ≠ d := fun e => hs (List.mem_filterMap.2 ⟨o, List.mem_cons_self .., by rw [hd, e]⟩)
      simp [updO, upd, nbeq this]

/-- Each operation, as it stands to what is there at the end. -/
theorem Chain.at : ∀ {l : List Oper} {i : Nat} {tm tmF : Nat → T}, Chain P N ops ob l tm tmF → onceB ops i l = true → (∀ j, l[j]? = ops[i + j]?) → ∀ (k : Nat) (o : Oper), l[k]? = some o →
    OpSt P N ops ob o tmF (match o.dst with | some d => tmF d | none => .any)
  | _, _, _, _, .nil, _, _, k, o, hk => by simp at hk
  | q :: l, i, tm, tmF, .cons t h c, ho, hl, k, o, hk => by
    have ho' := ho
    simp only [onceB, Bool.and_eq_true] at ho'
    cases k with
    | succ k => exact Chain.at c ho'.2 (fun j => by have := hl (j + 1); simp at this; rw [this]; congr 1; omega) k o (by simpa using hk)
    | zero =>
      simp at hk
      subst hk
      obtain ⟨_, g2, _⟩ := onceB_at ho 0 q rfl
      have hlooks : ∀ s ∈ q.looksAt ops.toArray, tmF s = tm s := fun s hs => by
        rw [c.keeps s fun hm => ?_]
        · cases hd : q.dst with
          | none => rfl
          | some d =>
            have : s ≠ d := fun e => (g2 d hd).2.2 (e ▸ hs)
            simp [updO, upd, nbeq this]
        · obtain ⟨p, hp, hd⟩ := List.mem_filterMap.1 hm
          obtain ⟨j, hj⟩ := List.getElem?_of_mem hp
          obtain ⟨_, f2, _⟩ := onceB_at ho (j + 1) p (by simpa using hj)
          have hq := hl 0
          simp at hq
          exact (f2 s hd).2.1 i q (by omega) hq.symm hs
      intro tm' hag l' Q k'
      refine h tm' (fun s hs => (hag s hs).trans (hlooks s hs)) l' Q ?_
      cases hd : q.dst with
      | none => rw [hd] at k'; exact k'
      | some d =>
        rw [hd] at k'
        have : tmF d = t := by
          rw [c.keeps d fun hm => ?_]
          · rw [hd]; simp [updO, upd]
          · obtain ⟨p, hp, hpd⟩ := List.mem_filterMap.1 hm
            obtain ⟨j, hj⟩ := List.getElem?_of_mem hp
            exact (g2 d hd).1 (j + 1) p (by omega) (by simpa using hj) hpd
        simp only [this] at k'
        exact k'

open Classical in
/-- What is known when these operations have been carried out. -/
noncomputable def knownT (ops : List Oper) (listed : Array Bool) (tmF : Nat → T) (s : Nat) : T := if ∃ j p, ops[j]? = some p ∧ listed.getD j true = false ∧ p.dst = some s then .any else tmF s

def unl (n : Nat) (listed : Array Bool) : Nat := ((List.range n).filter fun i => listed.getD i true == false).length

theorem unl_set {n i : Nat} {listed : Array Bool} (hi : i < n) (hs : n ≤ listed.size) (hu : listed.getD i true = false) : unl n (listed.setIfInBounds i true) + 1 = unl n listed := by
  unfold unl
  have key : ∀ (l : List Nat), l.Nodup → (∀ j ∈ l, j < n) → ((l.filter fun j => (listed.setIfInBounds i true).getD j true == false).length + (if i ∈ l then 1 else 0) = (l.filter fun j => listed.getD j true == false).length) := by
    intro l
    induction l with
    | nil => intro _ _; simp
    | cons x l ih =>
      intro hnd hlt
      have hnd' := List.nodup_cons.1 hnd
      have ih' := ih hnd'.2 fun j hj => hlt j (List.mem_cons_of_mem _ hj)
      have hget : (listed.setIfInBounds i true).getD x true = if i = x then true else listed.getD x true := by
        simp only [Array.getD_eq_getD_getElem?, Array.getElem?_setIfInBounds]
        by_cases e : i = x
        · subst e
          have : i < listed.size := by omega
          simp [this]
        · simp [e]
      by_cases e : i = x
      · subst e
        rw [if_neg hnd'.1] at ih'
        simp only [List.filter_cons, hget, if_true, hu]
        simp at ih' ⊢
        omega
      · rw [List.filter_cons, List.filter_cons, hget, if_neg e]
        have hm : (i ∈ x :: l) ↔ i ∈ l := by simp [e]
        simp only [hm]
        by_cases hx : listed.getD x true = false
        · simp only [hx, beq_self_eq_true, if_true, List.length_cons]
          omega
        · have hx' : listed.getD x true = true := by simpa using hx
          simp only [hx']
          simpa using ih'
  have := key (List.range n) List.nodup_range (fun j hj => by simpa using hj)
  rw [if_pos (by simpa using hi)] at this
  exact this

theorem want_of_ev {S : St} {o : Oper} {b : Bool} {w0 : World} {σ0 : Bs} {a : Act} {w : World} {g : Gh} (r : Rel N w0 σ0 S a w g) (h : S.want ops o = some b) : Region.wanted o (yielded ops.toArray a.tmps) = b := r.want h

theorem wpAny_chain {Q : Exit → St → Prop} {tm tmF : Nat → T} (hc : Chain P N ops ob ops tm tmF) (ho : onceB ops 0 ops = true) (hQ : Q .normal ⟨tmF, ob⟩) {w0 : World} {σ0 : Bs} :
    ∀ (fuel : Nat) (listed : Array Bool) (a : Act) (w : World), listed.size = ops.length → unl ops.length listed = fuel → (∃ g, Rel N w0 σ0 ⟨knownT ops listed tmF, ob⟩ a w g) →
      wpAny P .any ops.toArray (lift N w0 σ0 Q) fuel listed a w := by
  intro fuel
  have hready : ∀ (listed : Array Bool) (i : Nat), i ∈ Region.ready .any ops.toArray listed → ∃ o, ops[i]? = some o ∧ listed.getD i true = false ∧ ∀ e ∈ o.after, Region.binds .any e = true → listed.getD e.on false = true := fun listed i hi => by
    simp only [Region.ready, List.mem_filter, List.mem_range, Bool.and_eq_true, Bool.not_eq_true'] at hi
    obtain ⟨h1, h2, h3⟩ := hi
    have hlt : i < ops.length := by simpa using h1
    refine ⟨ops[i], List.getElem?_eq_getElem hlt, h2, fun e he hb => ?_⟩
    rw [show ops.toArray[i]? = some ops[i] by simp [hlt]] at h3
    simp only [Option.map_some, Option.getD_some] at h3
    have := Array.all_eq_true'.1 h3 e he
    rw [hb] at this
    simpa using this
  have hall : ∀ (listed : Array Bool), listed.size = ops.length → Region.ready .any ops.toArray listed = [] → ∀ i, i < ops.length → listed.getD i true = true := fun listed hs hr => by
    intro i
    induction i using Nat.strongRecOn with
    | _ i ih =>
      intro hi
      by_cases hu : listed.getD i true = true
      · exact hu
      · have hu' : listed.getD i true = false := by simpa using hu
        have : i ∈ Region.ready .any ops.toArray listed := by
          simp only [Region.ready, List.mem_filter, List.mem_range, Bool.and_eq_true, Bool.not_eq_true']
          refine ⟨by simpa using hi, hu', ?_⟩
          rw [show ops.toArray[i]? = some ops[i] by simp [hi]]
          simp only [Option.map_some, Option.getD_some]
          refine Array.all_eq_true'.2 fun e he => ?_
          cases hb : Region.binds .any e with
          | false => rfl
          | true =>
            have hlt := (onceB_at ho i ops[i] (List.getElem?_eq_getElem hi)).1 e he hb
            rw [Nat.zero_add] at hlt
            have h2 := ih e.on hlt (by omega)
            have : e.on < listed.size := by omega
            simp [Array.getD_eq_getD_getElem?, this] at h2 ⊢
            exact h2
        rw [hr] at this; cases this
  have hdone : ∀ (listed : Array Bool) (a : Act) (w : World), listed.size = ops.length → Region.ready .any ops.toArray listed = [] → (∃ g, Rel N w0 σ0 ⟨knownT ops listed tmF, ob⟩ a w g) → lift N w0 σ0 Q .normal a w := fun listed a w hs hr ⟨g, r⟩ => by
    have : knownT ops listed tmF = tmF := by
      funext s
      unfold knownT
      rw [if_neg]
      rintro ⟨j, p, hj, hu, _⟩
      rw [hall listed hs hr j (List.getElem?_eq_some_iff.1 hj).1] at hu
      cases hu
    rw [this] at r
    exact ⟨_, g, hQ, r⟩
  induction fuel with
  | zero =>
    intro listed a w hs hu hr
    have hnil : Region.ready .any ops.toArray listed = [] := by
      cases h : Region.ready .any ops.toArray listed with
      | nil => rfl
      | cons i l =>
        obtain ⟨o, ho', hu', _⟩ := hready listed i (by rw [h]; exact List.mem_cons_self ..)
        have hlt := (List.getElem?_eq_some_iff.1 ho').1
        have := unl_set hlt (by omega) hu'
        omega
    exact ⟨hnil, hdone listed a w hs hnil hr⟩
  | succ fuel ih =>
    intro listed a w hs hu hr
    refine ⟨fun hnil => hdone listed a w hs hnil hr, fun i hi => ?_⟩
    obtain ⟨o, hoi, hui, hdep⟩ := hready listed i hi
    have hlt := (List.getElem?_eq_some_iff.1 hoi).1
    obtain ⟨g1, g2, g3⟩ := onceB_at ho i o hoi
    have hst := Chain.at hc ho (fun j => by simp) i o hoi
    have hag : ∀ s ∈ o.looksAt ops.toArray, knownT ops listed tmF s = tmF s := fun s hs' => by
      unfold knownT
      rw [if_neg]
      rintro ⟨j, p, hj, huj, hps⟩
      by_cases hji : j < i
      · obtain ⟨e, he, hb, hej⟩ := g3 s hs' j p (by omega) hj hps
        have h2 := hdep e he hb
        rw [hej] at h2
        have : j < listed.size := by have := (List.getElem?_eq_some_iff.1 hj).1; omega
        simp [Array.getD_eq_getD_getElem?, this] at huj h2
        rw [huj] at h2; cases h2
      · by_cases e : j = i
        · subst e
          rw [hj] at hoi; cases hoi
          exact (g2 s hps).2.2 hs'
        · obtain ⟨_, f2, _⟩ := onceB_at ho j p hj
          exact (f2 s hps).2.1 i o (by omega) hoi hs'
    obtain ⟨g, r⟩ := hr
    let S2 : St := ⟨updO (knownT ops listed tmF) o.dst (match o.dst with | some d => tmF d | none => .any), ob⟩
    have h1 := hst (knownT ops listed tmF) hag [] (fun e S => e = .normal ∧ S = S2) (fun _ _ _ _ g r => ⟨_, g, ⟨rfl, rfl⟩, r⟩)
    have h2 := h1 w0 σ0 a w g r
    unfold wpList at h2
    have next : ∀ a' w', (∃ S g, (Exit.normal = .normal ∧ S = S2) ∧ Rel N w0 σ0 S a' w' g) → wpAny P .any ops.toArray (lift N w0 σ0 Q) fuel (listed.setIfInBounds i true) a' w' := fun a' w' ⟨S, g', ⟨_, hS⟩, r'⟩ => by
      subst hS
      refine ih _ a' w' (by simpa using hs) (by have := unl_set hlt (by omega) hui; omega) ⟨g', ?_⟩
      refine ⟨r'.inv, r'.defers, r'.size, r'.hm, r'.hl, fun s => ?_⟩
      have hset : ∀ j, (listed.setIfInBounds i true).getD j true = if i = j then true else listed.getD j true := fun j => by
        simp only [Array.getD_eq_getD_getElem?, Array.getElem?_setIfInBounds]
        by_cases e : i = j
        · subst e
          have : i < listed.size := by omega
          simp [this]
        · simp [e]
      show RT g' (knownT ops (listed.setIfInBounds i true) tmF s) _
      by_cases hk : ∃ j p, ops[j]? = some p ∧ (listed.setIfInBounds i true).getD j true = false ∧ p.dst = some s
      · unfold knownT; rw [if_pos hk]; exact .any _
      · have e1 : knownT ops (listed.setIfInBounds i true) tmF s = tmF s := by unfold knownT; rw [if_neg hk]
        rw [e1]
        have := r'.tm s
        cases hd : o.dst with
        | none =>
          have e2 : S2.tm s = tmF s := by
            simp only [S2, hd, updO]
            unfold knownT
            rw [if_neg]
            rintro ⟨j, p, hj, huj, hps⟩
            refine hk ⟨j, p, hj, ?_, hps⟩
            rw [hset]
            by_cases e : i = j
            · subst e; rw [hj] at hoi; cases hoi; rw [hd] at hps; cases hps
            · rw [if_neg e]; exact huj
          rwa [e2] at this
        | some d =>
          have e2 : S2.tm s = tmF s := by
            simp only [S2, hd, updO]
            by_cases e : s = d
            · subst e; simp [upd]
            · simp only [upd, nbeq e, cond_false]
              unfold knownT
              rw [if_neg]
              rintro ⟨j, p, hj, huj, hps⟩
              refine hk ⟨j, p, hj, ?_, hps⟩
              rw [hset]
              by_cases e' : i = j
              · subst e'; rw [hj] at hoi; cases hoi; rw [hd] at hps; cases hps; exact (e rfl).elim
              · rw [if_neg e']; exact huj
          rwa [e2] at this
    unfold wpOp
    simp only [show ops.toArray[i]? = some o by simpa using hoi]
    split at h2
    · rename_i hw
      rw [if_pos hw]
      rcases h2 with h2 | ⟨_, a', w', S, g', ⟨he, _⟩, _⟩
      · left
        have h3 := Oper.wp_mono (K' := wpAny P .any ops.toArray (lift N w0 σ0 Q) fuel (listed.setIfInBounds i true)) next h2
        unfold Oper.wp at h3 ⊢
        generalize (execOp a.eval o).run P w = res at h3 ⊢
        cases res with
        | ok n w' =>
          cases n <;> simp only [Oper.upon] at h3 ⊢ <;>
            first
              | exact h3
              | exact Calls.mono h3 (fun e w'' he => by
                  cases e with
                  | returned v => exact he
                  | panicked ch => obtain ⟨S, g, ⟨h, _⟩, _⟩ := he; cases h
                  | outgrown => obtain ⟨_, _, S, g, ⟨h, _⟩, _⟩ := he; cases h)
              | (obtain ⟨S, g, ⟨h, _⟩, _⟩ := h3; cases h; done)
              | (obtain ⟨_, _, S, g, ⟨h, _⟩, _⟩ := h3; cases h; done)
        | halt x w' =>
          cases x <;> simp only [Oper.upon] at h3 ⊢ <;>
            first
              | exact h3
              | (obtain ⟨S, g, ⟨h, _⟩, _⟩ := h3; cases h; done)
              | (obtain ⟨_, _, S, g, ⟨h, _⟩, _⟩ := h3; cases h; done)
      · cases he
    · rename_i hw
      rw [if_neg hw]
      exact next _ _ h2
end

theorem W.dra {P : Program} {N : Nm} {id : Nat} {l : List Oper} {Q : Exit → St → Prop} {tm : Nat → T} {ob : List Ob} (hm : P.follows .mixedOrders = true) (ho : onceB l 0 l = true) (h : WD P N l ob (Q .normal) l tm) : W P N (.region id l.toArray true) Q ⟨tm, ob⟩ := fun w0 σ0 a w g r => by
  obtain ⟨tmF, hc, hQ⟩ := h.chain
  refine wp_region_any hm ?_
  have hsz : (Array.replicate l.toArray.size false).size = l.length := by simp
  have hun : unl l.length (Array.replicate l.toArray.size false) = l.toArray.size := by
    unfold unl
    rw [List.filter_eq_self.2]
    · simp
    · intro i hi
      have : i < l.length := by simpa using hi
      simp [Array.getD_eq_getD_getElem?, this]
  refine wpAny_chain hc ho hQ l.toArray.size _ a _ hsz hun ⟨g, ?_⟩
  have r2 : Rel N w0 σ0 ⟨tm, ob⟩ a { w with drawn := w.drawn + 1 } g := r.later ((Below.refl _ w).drew)
  refine ⟨r2.inv, r2.defers, r2.size, r2.hm, r2.hl, fun s => ?_⟩
  show RT g (knownT l (Array.replicate l.toArray.size false) tmF s) _
  by_cases hk : s ∈ dstsOf l
  · obtain ⟨p, hp, hd⟩ := List.mem_filterMap.1 hk
    obtain ⟨j, hj⟩ := List.getElem?_of_mem hp
    have : j < l.length := (List.getElem?_eq_some_iff.1 hj).1
    unfold knownT
    rw [if_pos ⟨j, p, hj, by simp [Array.getD_eq_getD_getElem?, this], hd⟩]
    exact .any _
  · have e1 : knownT l (Array.replicate l.toArray.size false) tmF s = tm s := by
      unfold knownT
      rw [if_neg, hc.keeps s hk]
      rintro ⟨j, p, hj, _, hps⟩
      exact hk (List.mem_filterMap.2 ⟨p, List.mem_of_getElem? hj, hps⟩)
    rw [e1]
    exact r2.tm s
theorem W.dra' {P : Program} {N : Nm} {id : Nat} {l : List Oper} {Q : Exit → St → Prop} {tm : Nat → T} {ob : List Ob} (h : WD P N l ob (Q .normal) l tm)
    (hm : P.follows .mixedOrders = true := by kernel_rfl) (ho : onceB l 0 l = true := by kernel_rfl) : W P N (.region id l.toArray true) Q ⟨tm, ob⟩ :=
  W.dra hm ho h

end Go.Proofs.Yteooogngdejdgaa
