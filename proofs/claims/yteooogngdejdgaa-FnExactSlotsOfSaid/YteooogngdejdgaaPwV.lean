/-
  The small logic, twenty-second part: regions that draw their order and hold effects (appends, stores, new slices): the list of objects is a function of the effects that are done. Conditions: none.
-/
import Derived.Test.YteooogngdejdgaaPwU
set_option linter.unusedVariables false
set_option linter.unusedSimpArgs false
namespace Go.Proofs.Yteooogngdejdgaa
open Go.RowKit

/-- As onceB, but a slot may be read ahead of the operation that writes it, if that operation waits for the reader. -/
def onceE (ops : List Oper) : Nat → List Oper → Bool
  | _, [] => true
  | i, o :: l =>
    (o.after.toList.all fun e => !Region.binds .any e || Nat.blt e.on i) &&
    (match o.dst with | some d => !(dstsOf l).elem d && ((List.range i).all fun j => match ops[j]? with | some p => !(p.looksAt ops.toArray).elem d || o.after.toList.any (fun e => Region.binds .any e && e.on == j) | none => true) && !(o.looksAt ops.toArray).elem d | none => true) &&
    ((o.looksAt ops.toArray).all fun s => ((List.range i).all fun j => match ops[j]? with | some p => !(p.dst == some s) || o.after.toList.any (fun e => Region.binds .any e && e.on == j) | none => true)) &&
    onceE ops (i + 1) l

theorem onceE_at {ops : List Oper} : ∀ {l : List Oper} {i : Nat}, onceE ops i l = true → ∀ (k : Nat) (o : Oper), l[k]? = some o →
    (∀ e ∈ o.after, Region.binds .any e = true → e.on < i + k) ∧
    (∀ d, o.dst = some d → (∀ (j : Nat) (p : Oper), k < j → l[j]? = some p → p.dst ≠ some d) ∧ (∀ (j : Nat) (p : Oper), j < i + k → ops[j]? = some p → d ∈ p.looksAt ops.toArray → ∃ e ∈ o.after, Region.binds .any e = true ∧ e.on = j) ∧ d ∉ o.looksAt ops.toArray) ∧
    (∀ s ∈ o.looksAt ops.toArray, ∀ (j : Nat) (p : Oper), j < i + k → ops[j]? = some p → p.dst = some s → ∃ e ∈ o.after, Region.binds .any e = true ∧ e.on = j)
  | [], i, _, k, o, hk => by simp at hk
  | q :: l, i, h, k, o, hk => by
    simp only [onceE, Bool.and_eq_true] at h
    obtain ⟨⟨⟨h1, h2⟩, h3⟩, h4⟩ := h
    cases k with
    | zero =>
      simp at hk
      subst hk
      refine ⟨fun e he hb => ?_, fun d hd => ?_, fun s hs j p hj hp hps => ?_⟩
      · have := List.all_eq_true.1 h1 e (by simpa using he)
        rw [hb] at this
        simpa using this
      · rw [hd] at h2
        simp only [Bool.and_eq_true, Bool.not_eq_true', List.elem_eq_mem, decide_eq_false_iff_not] at h2
        obtain ⟨⟨g1, g2⟩, g3⟩ := h2
        refine ⟨fun j p hj hp hpd => g1 ?_, fun j p hj hp hm => ?_, g3⟩
        · cases j with
          | zero => omega
          | succ j => exact List.mem_filterMap.2 ⟨p, List.mem_of_getElem? (by simpa using hp), hpd⟩
        · have := List.all_eq_true.1 g2 j (by simpa using hj)
          rw [hp] at this
          simp only [hm, decide_true, Bool.not_true, Bool.false_or, List.any_eq_true, Bool.and_eq_true, beq_iff_eq] at this
          obtain ⟨e, he, hb, hj⟩ := this
          exact ⟨e, by simpa using he, hb, hj⟩
      · have := List.all_eq_true.1 h3 s hs
        have := List.all_eq_true.1 this j (by simpa using hj)
        rw [hp] at this
        simp only [hps, beq_self_eq_true, Bool.not_true, Bool.false_or, List.any_eq_true, Bool.and_eq_true, beq_iff_eq] at this
        obtain ⟨e, he, hb, hj⟩ := this
        exact ⟨e, by simpa using he, hb, hj⟩
    | succ k =>
      obtain ⟨g1, g2, g3⟩ := onceE_at h4 k o (by simpa using hk)
      rw [show i + 1 + k = i + (k + 1) by omega] at g1 g2 g3
      refine ⟨g1, fun d hd => ?_, g3⟩
      obtain ⟨p1, p2, p3⟩ := g2 d hd
      refine ⟨fun j p hj hp => ?_, p2, p3⟩
      cases j with
      | zero => omega
      | succ j => exact p1 j p (by omega) (by simpa using hp)

open Classical in
/-- What is there while some operations are not done: the slots that they write are as they were. -/
noncomputable def knownE (ops : List Oper) (listed : Array Bool) (tm0 tmF : Nat → T) (s : Nat) : T := if ∃ j p, ops[j]? = some p ∧ listed.getD j true = false ∧ p.dst = some s then tm0 s else tmF s

/-! ### which effects may be done -/

def AllF : List Nat → (Nat → Prop) → Prop
  | [], _ => True
  | f :: r, p => p f ∧ AllF r p

theorem AllF.at {p : Nat → Prop} : ∀ {l : List Nat}, AllF l p → ∀ f ∈ l, p f
  | [], _, f, h => by cases h
  | x :: r, h, f, hf => by
    rcases List.mem_cons.1 hf with rfl | hf
    · exact h.1
    · exact AllF.at h.2 f hf

/-- The number of a set of effects. -/
def flM (done : Nat → Bool) : List Nat → Nat → Nat
  | [], _ => 0
  | e :: r, w => (bif done e then w else 0) + flM done r (2 * w)

def edgeM (ms : List Nat) : List Edge → Nat
  | [] => 0
  | e :: r => (bif Region.binds .any e then (1 <<< e.on) ||| ms.getD e.on 0 else 0) ||| edgeM ms r

def ancs : List Nat → List Oper → List Nat
  | ms, [] => ms
  | ms, o :: l => ancs (ms ++ [edgeM ms o.after.toList]) l

def subs : List Nat → List (List Nat)
  | [] => [[]]
  | e :: r => (subs r).flatMap fun s => [s, e :: s]

/-- Whether, when operation i comes up, these effects may be done and no others. -/
def consB (ms es : List Nat) (i : Nat) (s : List Nat) : Bool :=
  !s.elem i && (s.all fun e => !(ms.getD e 0).testBit i && es.all fun e' => !(ms.getD e 0).testBit e' || s.elem e') && (es.all fun e => !(ms.getD i 0).testBit e || s.elem e)

def masksOK (ops : List Oper) (ms : List Nat) : Bool := (List.range ops.length).all fun i => match ops[i]? with | some o => ms.getD i 0 == edgeM ms o.after.toList | none => false

def possOK (ops : List Oper) (ms es : List Nat) (ps : List (Nat × List Nat)) : Bool :=
  ps.length == ops.length && (es.all fun e => decide (e < ops.length)) && (List.range ops.length).all fun i => match ps[i]? with
    | some (w, p) => w == flM (fun e => e == i) es 1 && (subs es).all fun s => !consB ms es i s || p.elem (flM (fun e => s.elem e) es 1)
    | none => false

def dreOK (ops : List Oper) (es : List Nat) (ps : List (Nat × List Nat)) : Bool :=
  onceE ops 0 ops && masksOK ops (ancs [] ops) && possOK ops (ancs [] ops) es ps

/-- For a writer of such texts: what 'ps' is. -/
def possAll (ops : List Oper) (es : List Nat) : List (Nat × List Nat) :=
  (List.range ops.length).map fun i => (flM (fun e => e == i) es 1, ((subs es).filter (consB (ancs [] ops) es i)).map fun s => flM (fun e => s.elem e) es 1)

theorem flM_congr {d d' : Nat → Bool} : ∀ {es : List Nat} {w : Nat}, (∀ e ∈ es, d e = d' e) → flM d es w = flM d' es w
  | [], _, _ => rfl
  | e :: r, w, h => by
    simp only [flM]
    rw [h e (List.mem_cons_self ..), flM_congr fun x hx => h x (List.mem_cons_of_mem _ hx)]

theorem flM_add {d : Nat → Bool} {i : Nat} (hi : d i = false) : ∀ {es : List Nat} {w : Nat}, flM (fun e => (e == i) || d e) es w = flM d es w + flM (fun e => e == i) es w
  | [], _ => rfl
  | e :: r, w => by
    simp only [flM]
    rw [flM_add hi]
    by_cases h : e = i
    · subst h; simp [hi]; omega
    · have : (e == i) = false := by simpa using h
      simp [this]; omega

theorem subs_filter (d : Nat → Bool) : ∀ es : List Nat, es.filter d ∈ subs es
  | [] => by simp [subs]
  | e :: r => by
    simp only [subs, List.mem_flatMap, List.mem_cons, List.not_mem_nil, or_false]
    refine ⟨r.filter d, subs_filter d r, ?_⟩
    by_cases h : d e = true
    · right; simp [h]
    · left; simp [h]

section
variable {ops : List Oper}

theorem testBit_edgeM {ms : List Nat} {b : Nat} : ∀ {es : List Edge}, (edgeM ms es).testBit b = true → ∃ e ∈ es, Region.binds .any e = true ∧ (e.on = b ∨ (ms.getD e.on 0).testBit b = true)
  | [], h => by simp [edgeM] at h
  | e :: r, h => by
    simp only [edgeM, Nat.testBit_or, Bool.or_eq_true] at h
    rcases h with h | h
    · cases hb : Region.binds .any e with
      | false => rw [hb] at h; simp at h
      | true =>
        rw [hb] at h
        simp only [cond_true, Nat.testBit_or, Bool.or_eq_true] at h
        refine ⟨e, List.mem_cons_self .., hb, ?_⟩
        rcases h with h | h
        · left
          rw [Nat.one_shiftLeft, Nat.testBit_two_pow] at h
          simpa using h
        · exact .inr h
    · obtain ⟨x, hx, h⟩ := testBit_edgeM h
      exact ⟨x, List.mem_cons_of_mem _ hx, h⟩

/-- Among what is done: whatever an operation that is done, or that may come up, leans on. -/
theorem anc_done {ms : List Nat} (hm : masksOK ops ms = true) (ho : onceE ops 0 ops = true) {d : Nat → Bool} (hcl : ∀ (k : Nat) (o : Oper), ops[k]? = some o → d k = true → ∀ e ∈ o.after, Region.binds .any e = true → d e.on = true) :
    ∀ (i : Nat) (o : Oper), ops[i]? = some o → (∀ e ∈ o.after, Region.binds .any e = true → d e.on = true) → ∀ b, (ms.getD i 0).testBit b = true → d b = true := by
  intro i
  induction i using Nat.strongRecOn with
  | _ i ih =>
    intro o hoi hd b hb
    have hlt := (List.getElem?_eq_some_iff.1 hoi).1
    have h1 := List.all_eq_true.1 hm i (by simpa using hlt)
    rw [hoi] at h1
    simp only [beq_iff_eq] at h1
    rw [h1] at hb
    obtain ⟨e, he, hbi, h⟩ := testBit_edgeM hb
    have he' : e ∈ o.after := by simpa using he
    have hde := hd e he' hbi
    rcases h with h | h
    · rw [← h]; exact hde
    · have hlt2 := (onceE_at ho i o hoi).1 e he' hbi
      rw [Nat.zero_add] at hlt2
      obtain ⟨o2, ho2⟩ : ∃ o2, ops[e.on]? = some o2 := ⟨_, List.getElem?_eq_getElem (by omega)⟩
      exact ih e.on hlt2 o2 ho2 (hcl e.on o2 ho2 hde) b h

theorem poss_at {es : List Nat} {ps : List (Nat × List Nat)} (hk : dreOK ops es ps = true) {d : Nat → Bool} (hcl : ∀ (k : Nat) (o : Oper), ops[k]? = some o → d k = true → ∀ e ∈ o.after, Region.binds .any e = true → d e.on = true)
    {i : Nat} {o : Oper} (hoi : ops[i]? = some o) (hdi : d i = false) (hde : ∀ e ∈ o.after, Region.binds .any e = true → d e.on = true) :
    ∃ w p, ps[i]? = some (w, p) ∧ w = flM (fun e => e == i) es 1 ∧ flM d es 1 ∈ p := by
  simp only [dreOK, possOK, Bool.and_eq_true] at hk
  obtain ⟨⟨ho, hm⟩, ⟨hl, hes⟩, hp⟩ := hk
  have hlt := (List.getElem?_eq_some_iff.1 hoi).1
  have h1 := List.all_eq_true.1 hp i (by simpa using hlt)
  have hanc := fun k o h1 h2 => anc_done hm ho hcl k o h1 h2
  cases hps : ps[i]? with
  | none => rw [hps] at h1; cases h1
  | some wp =>
    obtain ⟨w, p⟩ := wp
    rw [hps] at h1
    simp only [Bool.and_eq_true, beq_iff_eq] at h1
    refine ⟨w, p, rfl, h1.1, ?_⟩
    have h2 := List.all_eq_true.1 h1.2 (es.filter d) (subs_filter d es)
    have hmem : ∀ e ∈ es, (es.filter d).elem e = d e := fun e he => by
      rw [Bool.eq_iff_iff, List.elem_eq_mem, decide_eq_true_eq, List.mem_filter]
      exact ⟨fun h => h.2, fun h => ⟨he, h⟩⟩
    have hcons : consB (ancs [] ops) es i (es.filter d) = true := by
      unfold consB
      simp only [Bool.and_eq_true, Bool.not_eq_true']
      refine ⟨⟨?_, ?_⟩, ?_⟩
      · cases h : (es.filter d).elem i with
        | false => rfl
        | true =>
          rw [List.elem_eq_mem, decide_eq_true_eq, List.mem_filter] at h
          rw [hdi] at h; cases h.2
      · refine List.all_eq_true.2 fun e he => ?_
        obtain ⟨he1, he2⟩ := List.mem_filter.1 he
        have helt : e < ops.length := by simpa using List.all_eq_true.1 hes e he1
        have hoe : ops[e]? = some ops[e] := List.getElem?_eq_getElem helt
        have hA := hanc e _ hoe (hcl e _ hoe he2)
        simp only [Bool.and_eq_true, Bool.not_eq_true']
        refine ⟨?_, List.all_eq_true.2 fun e' he' => ?_⟩
        · cases h : ((ancs [] ops).getD e 0).testBit i with
          | false => rfl
          | true => rw [hA i h] at hdi; cases hdi
        · cases h : ((ancs [] ops).getD e 0).testBit e' with
          | false => rfl
          | true => rw [hmem e' he', hA e' h]; rfl
      · refine List.all_eq_true.2 fun e he => ?_
        cases h : ((ancs [] ops).getD i 0).testBit e with
        | false => rfl
        | true => rw [hmem e he, hanc i o hoi hde e h]; rfl
    rw [hcons] at h2
    simp only [Bool.not_true, Bool.false_or] at h2
    have h2 := List.mem_of_elem_eq_true h2
    rw [flM_congr (d := d) (d' := fun e => (es.filter d).elem e) fun e he => (hmem e he).symm]
    exact h2
end


/-! ### the walk of such a region -/

/-- One operation, from whatever state that agrees where it looks, whatever effects are done. -/
def OpSe (P : Program) (N : Nm) (ops : List Oper) (obF : Nat → List Ob) (w : Nat) (p : List Nat) (o : Oper) (tm : Nat → T) (t : T) : Prop :=
  ∀ f ∈ p, ∀ tm' : Nat → T, (∀ s ∈ o.looksAt ops.toArray, tm' s = tm s) → ∀ (l : List Oper) (Q : Exit → St → Prop), WL P N ops l Q ⟨updO tm' o.dst t, obF (f + w)⟩ → WL P N ops (o :: l) Q ⟨tm', obF f⟩

inductive WE (P : Program) (N : Nm) (ops : List Oper) (obF : Nat → List Ob) (K : (Nat → T) → Prop) : List (Nat × List Nat) → List Oper → (Nat → T) → Prop
  | nil {tm} (h : K tm) : WE P N ops obF K [] [] tm
  | cons {w p ps o l tm} (t : T) (h : OpSe P N ops obF w p o tm t) (k : WE P N ops obF K ps l (updO tm o.dst t)) : WE P N ops obF K ((w, p) :: ps) (o :: l) tm

inductive ChainE (P : Program) (N : Nm) (ops : List Oper) (obF : Nat → List Ob) : List (Nat × List Nat) → List Oper → (Nat → T) → (Nat → T) → Prop
  | nil {tm} : ChainE P N ops obF [] [] tm tm
  | cons {w p ps o l tm tmF} (t : T) (h : OpSe P N ops obF w p o tm t) (k : ChainE P N ops obF ps l (updO tm o.dst t) tmF) : ChainE P N ops obF ((w, p) :: ps) (o :: l) tm tmF

section
variable {P : Program} {N : Nm} {ops : List Oper} {obF : Nat → List Ob}

theorem WE.chain {K : (Nat → T) → Prop} {ps : List (Nat × List Nat)} {l : List Oper} {tm : Nat → T} (h : WE P N ops obF K ps l tm) : ∃ tmF, ChainE P N ops obF ps l tm tmF ∧ K tmF := by
  induction h with
  | nil h => exact ⟨_, .nil, h⟩
  | cons t h k ih =>
    obtain ⟨tmF, h1, h2⟩ := ih
    exact ⟨tmF, .cons t h h1, h2⟩

theorem ChainE.keeps {ps : List (Nat × List Nat)} {l : List Oper} {tm tmF : Nat → T} (h : ChainE P N ops obF ps l tm tmF) : ∀ s, s ∉ dstsOf l → tmF s = tm s := by
  induction h with
  | nil => intro s _; rfl
  | cons t h k ih =>
    rename_i w p ps o l tm tmF
    intro s hs
    have hs' : s ∉ dstsOf l := fun hm => hs (by
      obtain ⟨p, hp, hd⟩ := List.mem_filterMap.1 hm
      exact List.mem_filterMap.2 ⟨p, List.mem_cons_of_mem _ hp, hd⟩)
    rw [ih s hs']
    cases hd : o.dst with
    | none => rfl
    | some d =>
      have : s ≠ d := fun e => hs (List.mem_filterMap.2 ⟨o, List.mem_cons_self .., by rw [hd, e]⟩)
      simp [updO, upd, nbeq this]

theorem ChainE.at : ∀ {ps : List (Nat × List Nat)} {l : List Oper} {i : Nat} {tm tmF : Nat → T}, ChainE P N ops obF ps l tm tmF → onceE ops i l = true → ∀ (k : Nat) (o : Oper) (w : Nat) (p : List Nat), l[k]? = some o → ps[k]? = some (w, p) →
    ∃ tmi, OpSe P N ops obF w p o tmi (match o.dst with | some d => tmF d | none => .any) ∧ (∀ s, s ∉ dstsOf (l.drop k) → tmi s = tmF s) ∧ (∀ s, s ∉ dstsOf (l.take k) → tmi s = tm s)
  | _, _, _, _, _, .nil, _, k, o, _, _, hk, _ => by simp at hk
  | (w', p') :: ps, q :: l, i, tm, tmF, .cons t h c, ho, k, o, w, p, hk, hpk => by
    have ho' := ho
    simp only [onceE, Bool.and_eq_true] at ho'
    cases k with
    | succ k =>
      obtain ⟨tmi, h1, h2, h3⟩ := ChainE.at c ho'.2 k o w p (by simpa using hk) (by simpa using hpk)
      refine ⟨tmi, h1, h2, fun s hs => ?_⟩
      have hs1 : s ∉ dstsOf (l.take k) := fun hm => hs (by
        obtain ⟨p, hp, hd⟩ := List.mem_filterMap.1 hm
        exact List.mem_filterMap.2 ⟨p, by rw [List.take_succ_cons]; exact List.mem_cons_of_mem _ hp, hd⟩)
      rw [h3 s hs1]
      cases hd : q.dst with
      | none => rfl
      | some d =>
        have : s ≠ d := fun e => hs (List.mem_filterMap.2 ⟨q, by rw [List.take_succ_cons]; exact List.mem_cons_self .., by rw [hd, e]⟩)
        simp [updO, upd, nbeq this]
    | zero =>
      simp at hk hpk
      obtain ⟨rfl, rfl⟩ := hpk
      subst hk
      obtain ⟨_, g2, _⟩ := onceE_at ho 0 q rfl
      refine ⟨tm, ?_, fun s hs => ?_, fun s _ => rfl⟩
      · intro f hf tm' hag l' Q k'
        refine h f hf tm' hag l' Q ?_
        cases hd : q.dst with
        | none => rw [hd] at k'; exact k'
        | some d =>
          rw [hd] at k'
          have : tmF d = t := by
            rw [c.keeps d fun hm => ?_]
            · rw [hd]; simp [updO, upd]
            · obtain ⟨p, hp, hpd⟩ := List.mem_filterMap.1 hm
              obtain ⟨j, hj⟩ := List.getElem?_of_mem hp
              exact (g2 d hd).1 (j + 1) p (by omega) (by simpa using hj) hpd
          simp only [this] at k'
          exact k'
      · exact ((ChainE.cons t h c).keeps s (by simpa using hs)).symm

/-- What is done. -/
def doneF (listed : Array Bool) (i : Nat) : Bool := listed.getD i false

theorem wpAny_chainE {es : List Nat} {ps : List (Nat × List Nat)} {Q : Exit → St → Prop} {tm tmF : Nat → T} (hc : ChainE P N ops obF ps ops tm tmF) (hk : dreOK ops es ps = true) (hQ : Q .normal ⟨tmF, obF (flM (fun _ => true) es 1)⟩) {w0 : World} {σ0 : Bs} :
    ∀ (fuel : Nat) (listed : Array Bool) (a : Act) (w : World), listed.size = ops.length → unl ops.length listed = fuel → (∀ (k : Nat) (o : Oper), ops[k]? = some o → doneF listed k = true → ∀ e ∈ o.after, Region.binds .any e = true → doneF listed e.on = true) →
      (∃ g, Rel N w0 σ0 ⟨knownE ops listed tm tmF, obF (flM (doneF listed) es 1)⟩ a w g) →
      wpAny P .any ops.toArray (lift N w0 σ0 Q) fuel listed a w := by
  have ho : onceE ops 0 ops = true := by
    simp only [dreOK, Bool.and_eq_true] at hk
    exact hk.1.1
  have hes : ∀ e ∈ es, e < ops.length := by
    simp only [dreOK, possOK, Bool.and_eq_true] at hk
    exact fun e he => by simpa using List.all_eq_true.1 hk.2.1.2 e he
  intro fuel
  have hready : ∀ (listed : Array Bool) (i : Nat), i ∈ Region.ready .any ops.toArray listed → ∃ o, ops[i]? = some o ∧ listed.getD i true = false ∧ ∀ e ∈ o.after, Region.binds .any e = true → listed.getD e.on false = true := fun listed i hi => by
    simp only [Region.ready, List.mem_filter, List.mem_range, Bool.and_eq_true, Bool.not_eq_true'] at hi
    obtain ⟨h1, h2, h3⟩ := hi
    have hlt : i < ops.length := by simpa using h1
    refine ⟨ops[i], List.getElem?_eq_getElem hlt, h2, fun e he hb => ?_⟩
    rw [show ops.toArray[i]? = some ops[i] by simp [hlt]] at h3
    simp only [Option.map_some, Option.getD_some] at h3
    have := Array.all_eq_true'.1 h3 e he
    rw [hb] at this
    simpa using this
  have hall : ∀ (listed : Array Bool), listed.size = ops.length → Region.ready .any ops.toArray listed = [] → ∀ i, i < ops.length → listed.getD i true = true := fun listed hs hr => by
    intro i
    induction i using Nat.strongRecOn with
    | _ i ih =>
      intro hi
      by_cases hu : listed.getD i true = true
      · exact hu
      · have hu' : listed.getD i true = false := by simpa using hu
        have : i ∈ Region.ready .any ops.toArray listed := by
          simp only [Region.ready, List.mem_filter, List.mem_range, Bool.and_eq_true, Bool.not_eq_true']
          refine ⟨by simpa using hi, hu', ?_⟩
          rw [show ops.toArray[i]? = some ops[i] by simp [hi]]
          simp only [Option.map_some, Option.getD_some]
          refine Array.all_eq_true'.2 fun e he => ?_
          cases hb : Region.binds .any e with
          | false => rfl
          | true =>
            have hlt := (onceE_at ho i ops[i] (List.getElem?_eq_getElem hi)).1 e he hb
            rw [Nat.zero_add] at hlt
            have h2 := ih e.on hlt (by omega)
            have : e.on < listed.size := by omega
            simp [Array.getD_eq_getD_getElem?, this] at h2 ⊢
            exact h2
        rw [hr] at this; cases this
  have hdone : ∀ (listed : Array Bool) (a : Act) (w : World), listed.size = ops.length → Region.ready .any ops.toArray listed = [] → (∃ g, Rel N w0 σ0 ⟨knownE ops listed tm tmF, obF (flM (doneF listed) es 1)⟩ a w g) → lift N w0 σ0 Q .normal a w := fun listed a w hs hr ⟨g, r⟩ => by
    have h1 : knownE ops listed tm tmF = tmF := by
      funext s
      unfold knownE
      rw [if_neg]
      rintro ⟨j, p, hj, hu, _⟩
      rw [hall listed hs hr j (List.getElem?_eq_some_iff.1 hj).1] at hu
      cases hu
    have h2 : flM (doneF listed) es 1 = flM (fun _ => true) es 1 := flM_congr fun e he => by
      have hlt := hes e he
      have := hall listed hs hr e hlt
      have h3 : e < listed.size := by omega
      simp [doneF, Array.getD_eq_getD_getElem?, h3] at this ⊢
      exact this
    rw [h1, h2] at r
    exact ⟨_, g, hQ, r⟩
  induction fuel with
  | zero =>
    intro listed a w hs hu hcl hr
    have hnil : Region.ready .any ops.toArray listed = [] := by
      cases h : Region.ready .any ops.toArray listed with
      | nil => rfl
      | cons i l =>
        obtain ⟨o, ho', hu', _⟩ := hready listed i (by rw [h]; exact List.mem_cons_self ..)
        have hlt := (List.getElem?_eq_some_iff.1 ho').1
        have := unl_set hlt (by omega) hu'
        omega
    exact ⟨hnil, hdone listed a w hs hnil hr⟩
  | succ fuel ih =>
    intro listed a w hs hu hcl hr
    refine ⟨fun hnil => hdone listed a w hs hnil hr, fun i hi => ?_⟩
    obtain ⟨o, hoi, hui, hdep⟩ := hready listed i hi
    have hlt := (List.getElem?_eq_some_iff.1 hoi).1
    obtain ⟨g1, g2, g3⟩ := onceE_at ho i o hoi
    have hdi : doneF listed i = false := by
      have : i < listed.size := by omega
      simp [doneF, Array.getD_eq_getD_getElem?, this] at hui ⊢
      exact hui
    obtain ⟨wi, pi, hpi, hwi, hfi⟩ := poss_at hk hcl hoi hdi hdep
    obtain ⟨tmi, hst, hst1, hst2⟩ := ChainE.at hc ho i o wi pi hoi hpi
    have hag : ∀ s ∈ o.looksAt ops.toArray, knownE ops listed tm tmF s = tmi s := fun s hs' => by
      unfold knownE
      by_cases hu : ∃ j p, ops[j]? = some p ∧ listed.getD j true = false ∧ p.dst = some s
      · rw [if_pos hu]
        obtain ⟨j, p, hj, huj, hps⟩ := hu
        refine (hst2 s fun hm => ?_).symm
        obtain ⟨q, hq, hqs⟩ := List.mem_filterMap.1 hm
        obtain ⟨j', hj'⟩ := List.getElem?_of_mem hq
        rw [List.getElem?_take] at hj'
        split at hj'
        · rename_i hlt'
          have hjj : j = j' := by
            rcases Nat.lt_trichotomy j j' with h | h | h
            · exact absurd hqs (((onceE_at ho j p hj).2.1 s hps).1 j' q h hj')
            · exact h
            · exact absurd hps (((onceE_at ho j' q hj').2.1 s hqs).1 j p h hj)
          subst hjj
          obtain ⟨e, he, hb, hej⟩ := g3 s hs' j q (by omega) hj' hqs
          have h2 := hdep e he hb
          rw [hej] at h2
          have : j < listed.size := by have := (List.getElem?_eq_some_iff.1 hj).1; omega
          simp [Array.getD_eq_getD_getElem?, this] at huj h2
          rw [huj] at h2; cases h2
        · cases hj'
      · rw [if_neg hu]
        refine (hst1 s fun hm => ?_).symm
        obtain ⟨q, hq, hqs⟩ := List.mem_filterMap.1 hm
        obtain ⟨j', hj'⟩ := List.getElem?_of_mem hq
        rw [List.getElem?_drop] at hj'
        by_cases e0 : j' = 0
        · subst e0
          rw [Nat.add_zero, hoi] at hj'
          cases hj'
          exact (g2 s hqs).2.2 hs'
        · obtain ⟨e, he, hb, hej⟩ := ((onceE_at ho (i + j') q hj').2.1 s hqs).2.1 i o (by omega) hoi hs'
          have hlt2 := (List.getElem?_eq_some_iff.1 hj').1
          have hd1 : doneF listed (i + j') = true := by
            have hl2 : i + j' < listed.size := by omega
            cases hh : listed.getD (i + j') true with
            | false => exact absurd ⟨i + j', q, hj', hh, hqs⟩ hu
            | true => simp [doneF, Array.getD_eq_getD_getElem?, hl2] at hh ⊢; exact hh
          have := hcl (i + j') q hj' hd1 e he hb
          rw [hej, hdi] at this
          cases this
    obtain ⟨g, r⟩ := hr
    have hset : ∀ j, (listed.setIfInBounds i true).getD j true = if i = j then true else listed.getD j true := fun j => by
      simp only [Array.getD_eq_getD_getElem?, Array.getElem?_setIfInBounds]
      by_cases e : i = j
      · subst e
        have : i < listed.size := by omega
        simp [this]
      · simp [e]
    have hset2 : ∀ j, doneF (listed.setIfInBounds i true) j = ((j == i) || doneF listed j) := fun j => by
      simp only [doneF, Array.getD_eq_getD_getElem?, Array.getElem?_setIfInBounds]
      by_cases e : i = j
      · subst e
        have : i < listed.size := by omega
        simp [this]
      · have e2 : (j == i) = false := by simpa using fun h => e h.symm
        simp [e, e2]
    have hfl : flM (doneF (listed.setIfInBounds i true)) es 1 = flM (doneF listed) es 1 + wi := by
      rw [flM_congr (d' := fun e => (e == i) || doneF listed e) fun e _ => hset2 e, flM_add hdi, ← hwi]
    let S2 : St := ⟨updO (knownE ops listed tm tmF) o.dst (match o.dst with | some d => tmF d | none => .any), obF (flM (doneF listed) es 1 + wi)⟩
    have h1 := hst _ hfi (knownE ops listed tm tmF) hag [] (fun e S => e = .normal ∧ S = S2) (fun _ _ _ _ g r => ⟨_, g, ⟨rfl, rfl⟩, r⟩)
    have h2 := h1 w0 σ0 a w g r
    unfold wpList at h2
    have next : ∀ a' w', (∃ S g, (Exit.normal = .normal ∧ S = S2) ∧ Rel N w0 σ0 S a' w' g) → wpAny P .any ops.toArray (lift N w0 σ0 Q) fuel (listed.setIfInBounds i true) a' w' := fun a' w' ⟨S, g', ⟨_, hS⟩, r'⟩ => by
      subst hS
      refine ih _ a' w' (by simpa using hs) (by have := unl_set hlt (by omega) hui; omega) (fun k o' hk' hd' e he hb => ?_) ⟨g', ?_⟩
      · rw [hset2] at hd' ⊢
        by_cases e1 : k = i
        · subst e1
          rw [hk'] at hoi; cases hoi
          have := hdep e he hb
          simp only [Bool.or_eq_true]
          exact .inr this
        · have e2 : (k == i) = false := by simpa using e1
          rw [e2, Bool.false_or] at hd'
          simp only [Bool.or_eq_true]
          exact .inr (hcl k o' hk' hd' e he hb)
      rw [hfl]
      refine ⟨r'.inv, r'.defers, r'.size, r'.hm, r'.hl, fun s => ?_⟩
      show RT g' (knownE ops (listed.setIfInBounds i true) tm tmF s) _
      by_cases hk : ∃ j p, ops[j]? = some p ∧ (listed.setIfInBounds i true).getD j true = false ∧ p.dst = some s
      · have hk0 := hk
        obtain ⟨j, p, hj, huj, hps⟩ := hk
        have hji : j ≠ i := fun e => by
          subst e
          have hl2 : j < listed.size := by have := (List.getElem?_eq_some_iff.1 hj).1; omega
          simp [Array.getD_eq_getD_getElem?, hl2] at huj
        have e1 : knownE ops (listed.setIfInBounds i true) tm tmF s = tm s := by unfold knownE; rw [if_pos hk0]
        have huj2 : listed.getD j true = false := by
          rw [hset, if_neg fun e => hji e.symm] at huj
          exact huj
        have e2 : S2.tm s = tm s := by
          have e3 : knownE ops listed tm tmF s = tm s := by unfold knownE; rw [if_pos ⟨j, p, hj, huj2, hps⟩]
          cases hd : o.dst with
          | none => simp only [S2, hd, updO]; exact e3
          | some d =>
            have : s ≠ d := fun e => by
              subst e
              rcases Nat.lt_trichotomy j i with h | h | h
              · exact absurd hd (((onceE_at ho j p hj).2.1 s hps).1 i o h hoi)
              · exact hji h
              · exact absurd hps (((onceE_at ho i o hoi).2.1 s hd).1 j p h hj)
            simp only [S2, hd, updO, upd, nbeq this, cond_false]
            exact e3
        have := r'.tm s
        rw [e2] at this
        rw [e1]
        exact this
      · have e1 : knownE ops (listed.setIfInBounds i true) tm tmF s = tmF s := by unfold knownE; rw [if_neg hk]
        rw [e1]
        have := r'.tm s
        cases hd : o.dst with
        | none =>
          have e2 : S2.tm s = tmF s := by
            simp only [S2, hd, updO]
            unfold knownE
            rw [if_neg]
            rintro ⟨j, p, hj, huj, hps⟩
            refine hk ⟨j, p, hj, ?_, hps⟩
            rw [hset]
            by_cases e : i = j
            · subst e; rw [hj] at hoi; cases hoi; rw [hd] at hps; cases hps
            · rw [if_neg e]; exact huj
          rwa [e2] at this
        | some d =>
          have e2 : S2.tm s = tmF s := by
            simp only [S2, hd, updO]
            by_cases e : s = d
            · subst e; simp [upd]
            · simp only [upd, nbeq e, cond_false]
              unfold knownE
              rw [if_neg]
              rintro ⟨j, p, hj, huj, hps⟩
              refine hk ⟨j, p, hj, ?_, hps⟩
              rw [hset]
              by_cases e' : i = j
              · subst e'; rw [hj] at hoi; cases hoi; rw [hd] at hps; cases hps; exact (e rfl).elim
              · rw [if_neg e']; exact huj
          rwa [e2] at this
    unfold wpOp
    simp only [show ops.toArray[i]? = some o by simpa using hoi]
    split at h2
    · rename_i hw
      rw [if_pos hw]
      rcases h2 with h2 | ⟨_, a', w', S, g', ⟨he, _⟩, _⟩
      · left
        have h3 := Oper.wp_mono (K' := wpAny P .any ops.toArray (lift N w0 σ0 Q) fuel (listed.setIfInBounds i true)) next h2
        unfold Oper.wp at h3 ⊢
        generalize (execOp a.eval o).run P w = res at h3 ⊢
        cases res with
        | ok n w' =>
          cases n <;> simp only [Oper.upon] at h3 ⊢ <;>
            first
              | exact h3
              | exact Calls.mono h3 (fun e w'' he => by
                  cases e with
                  | returned v => exact he
                  | panicked ch => obtain ⟨S, g, ⟨h, _⟩, _⟩ := he; cases h
                  | outgrown => obtain ⟨_, _, S, g, ⟨h, _⟩, _⟩ := he; cases h)
              | (obtain ⟨S, g, ⟨h, _⟩, _⟩ := h3; cases h; done)
              | (obtain ⟨_, _, S, g, ⟨h, _⟩, _⟩ := h3; cases h; done)
        | halt x w' =>
          cases x <;> simp only [Oper.upon] at h3 ⊢ <;>
            first
              | exact h3
              | (obtain ⟨S, g, ⟨h, _⟩, _⟩ := h3; cases h; done)
              | (obtain ⟨_, _, S, g, ⟨h, _⟩, _⟩ := h3; cases h; done)
      · cases he
    · rename_i hw
      rw [if_neg hw]
      exact next _ _ h2
end

/-- A region that draws its order: 'es' are its effects, 'obF' what they make of the objects, 'ps' the effects that may be done when an operation comes up. -/
theorem W.dre {P : Program} {N : Nm} {id : Nat} {l : List Oper} {Q : Exit → St → Prop} {tm : Nat → T} {ob : List Ob} (es : List Nat) (obF : Nat → List Ob) (ps : List (Nat × List Nat)) (hm : P.follows .mixedOrders = true) (hk : dreOK l es ps = true) (h0 : obF 0 = ob)
    (h : WE P N l obF (fun tm' => Q .normal ⟨tm', obF (flM (fun _ => true) es 1)⟩) ps l tm) : W P N (.region id l.toArray true) Q ⟨tm, ob⟩ := fun w0 σ0 a w g r => by
  subst h0
  obtain ⟨tmF, hc, hQ⟩ := h.chain
  refine wp_region_any hm ?_
  have hsz : (Array.replicate l.toArray.size false).size = l.length := by simp
  have hun : unl l.length (Array.replicate l.toArray.size false) = l.toArray.size := by
    unfold unl
    rw [List.filter_eq_self.2]
    · simp
    · intro i hi
      have : i < l.length := by simpa using hi
      simp [Array.getD_eq_getD_getElem?, this]
  have hdn : ∀ i, doneF (Array.replicate l.toArray.size false) i = false := fun i => by
    simp only [doneF, Array.getD_eq_getD_getElem?, Array.getElem?_replicate]
    split <;> rfl
  have hf0 : flM (doneF (Array.replicate l.toArray.size false)) es 1 = 0 := by
    have : ∀ (es : List Nat) (w : Nat), flM (doneF (Array.replicate l.toArray.size false)) es w = 0 := by
      intro es
      induction es with
      | nil => intro w; rfl
      | cons e r ih => intro w; simp only [flM, hdn, ih]; rfl
    exact this es 1
  refine wpAny_chainE hc hk hQ l.toArray.size _ a _ hsz hun (fun k o _ hd => by rw [hdn] at hd; cases hd) ⟨g, ?_⟩
  rw [hf0]
  have r2 : Rel N w0 σ0 ⟨tm, obF 0⟩ a { w with drawn := w.drawn + 1 } g := r.later ((Below.refl _ w).drew)
  refine ⟨r2.inv, r2.defers, r2.size, r2.hm, r2.hl, fun s => ?_⟩
  show RT g (knownE l (Array.replicate l.toArray.size false) tm tmF s) _
  by_cases hk : s ∈ dstsOf l
  · obtain ⟨p, hp, hd⟩ := List.mem_filterMap.1 hk
    obtain ⟨j, hj⟩ := List.getElem?_of_mem hp
    have : j < l.length := (List.getElem?_eq_some_iff.1 hj).1
    have e1 : knownE l (Array.replicate l.toArray.size false) tm tmF s = tm s := by
      unfold knownE
      rw [if_pos ⟨j, p, hj, by simp [Array.getD_eq_getD_getElem?, this], hd⟩]
    rw [e1]
    exact r2.tm s
  · have e1 : knownE l (Array.replicate l.toArray.size false) tm tmF s = tm s := by
      unfold knownE
      rw [if_neg, hc.keeps s hk]
      rintro ⟨j, p, hj, _, hps⟩
      exact hk (List.mem_filterMap.2 ⟨p, List.mem_of_getElem? hj, hps⟩)
    rw [e1]
    exact r2.tm s

end Go.Proofs.Yteooogngdejdgaa
