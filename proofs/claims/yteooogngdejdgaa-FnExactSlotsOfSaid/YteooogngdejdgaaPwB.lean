/-
  The small logic, second part: the judgement 'W' on code, its rules of control, the contract 'Fn' of a function. Conditions: none.
-/
import Derived.Test.YteooogngdejdgaaPwA
set_option linter.unusedVariables false
set_option linter.unusedSimpArgs false
namespace Go.Proofs.Yteooogngdejdgaa
open Go.RowKit

theorem nbeq {a b : Nat} (h : ¬ a = b) : Nat.beq a b = false := Bool.eq_false_iff.2 fun e => h (Nat.eq_of_beq_eq_true e)

/-! ### forgetting -/

mutual
def T.under (n : Nat) : T → Bool
  | .d _ => true
  | .agg cs => T.underL n cs
  | .tup cs => T.underL n cs
  | .lp l _ => Nat.blt l n
  | .og k _ => Nat.blt k n
  | .ea _ _ => true
  | .eg k _ _ _ _ => Nat.blt k n
  | .clo _ cs => T.underL n cs
  | .any => true
def T.underL (n : Nat) : List T → Bool
  | [] => true
  | t :: r => T.under n t && T.underL n r
end

theorem T.underL_at {n : Nat} : ∀ {cs : List T}, T.underL n cs = true → ∀ (i : Nat) (x : T), cs[i]? = some x → x.under n = true
  | [], _, i, x, hx => by simp at hx
  | t :: r, h, i, x, hx => by
    simp only [T.underL, Bool.and_eq_true] at h
    cases i with
    | zero => simp at hx; subst hx; exact h.1
    | succ i => exact T.underL_at h.2 i x (by simpa using hx)

def Gh.trim (g : Gh) (n : Nat) : Gh := { g with lim := fun k => if k < n then g.lim k else 0 }

theorem RT.trim {g : Gh} {n : Nat} {t : T} {u : Value} (h : RT g t u) (hu : t.under n = true) : RT (g.trim n) t u := by
  induction h with
  | d x u h => exact .d x u h
  | agg cs vs hl h ih => exact .agg cs vs hl fun i x u hx hv => ih i x u hx hv (T.underL_at (by simpa [T.under] using hu) i x hx)
  | tup cs vs hl h ih => exact .tup cs vs hl fun i x u hx hv => ih i x u hx hv (T.underL_at (by simpa [T.under] using hu) i x hx)
  | lp l off b h0 h =>
    have hl : l < n := by simpa [T.under] using hu
    exact .lp l off b (by simpa [Gh.trim, hl] using h0) h
  | og k m h =>
    have hl : k < n := by simpa [T.under] using hu
    exact .og (g := g.trim n) k m (by simpa [Gh.trim, hl] using h)
  | ea r off b o U hc hr => exact .ea r off b o U hc hr
  | eg k m z i off b len cap h hg =>
    have hl : k < n := by simpa [T.under] using hu
    exact .eg k m z i off b len cap (by simpa [Gh.trim, hl] using h) hg
  | clo f cs vs hl h ih => exact .clo f cs vs hl fun i x u hx hv => ih i x u hx hv (T.underL_at (by simpa [T.under] using hu) i x hx)
  | any u => exact .any u

def Ob.under (n : Nat) : Ob → Bool
  | .pv cs => T.underL n cs
  | _ => true

def obsLe (n : Nat) : List Ob → List Ob → Prop
  | [], _ => True
  | o :: r, S => o.under n = true ∧ (match S with | [] => False | p :: s => (o = p ∨ o = .dead) ∧ obsLe n r s)

theorem obsLe_at {n : Nat} : ∀ {l S : List Ob}, obsLe n l S → l.length ≤ S.length ∧ ∀ (k : Nat) (o : Ob), l[k]? = some o → o.under n = true ∧ (S[k]? = some o ∨ o = .dead)
  | [], S, _ => ⟨Nat.zero_le _, fun k o h => by simp at h⟩
  | o :: r, [], h => h.2.elim
  | o :: r, p :: s, h => by
    obtain ⟨hu, hp, hr⟩ := h
    obtain ⟨hl, hk⟩ := obsLe_at hr
    refine ⟨by simpa using hl, fun k q hq => ?_⟩
    cases k with
    | zero =>
      simp at hq; subst hq
      exact ⟨hu, hp.imp (fun e => by simp [e]) id⟩
    | succ k => exact hk k q (by simpa using hq)

/-- S' says no more than S (what S' holds of objects is at their places in S; none is named that S' does not hold). -/
def St.le (N : Nm) (S S' : St) : Prop :=
  N.m ≤ S'.ob.length ∧ obsLe S'.ob.length S'.ob S.ob ∧ ∀ i, S'.tm i = .any ∨ (S.tm i = S'.tm i ∧ (S'.tm i).under S'.ob.length = true)

theorem Rel.weaken {N : Nm} {w0 : World} {σ0 : Bs} {S S' : St} {a : Act} {w : World} {g : Gh} (h : St.le N S S') (r : Rel N w0 σ0 S a w g) :
    ∃ g', Rel N w0 σ0 S' a w g' := by
  obtain ⟨hlm, hob, htm⟩ := h
  obtain ⟨hlen, hk⟩ := obsLe_at hob
  have I := r.inv
  have hlim : ∀ k o, S'.ob[k]? = some o → (g.trim S'.ob.length).lim k = g.lim k := fun k o ho => by
    have : k < S'.ob.length := (List.getElem?_eq_some_iff.1 ho).1
    simp [Gh.trim, this]
  refine ⟨g.trim S'.ob.length, ⟨⟨I.below, I.old, I.con, fun k o ho => ?_, fun k h => by simp [Gh.trim]; omega, fun k k' o o' b hne ho ho' hb => ?_, fun k hk => ?_⟩, r.defers, r.size, r.hm, hlm, fun i => ?_⟩⟩
  · obtain ⟨hu, ho2⟩ := hk k o ho
    rcases ho2 with ho2 | rfl
    · have := I.obs k o ho2
      cases o with
      | pv cs =>
        obtain ⟨h1, b, vs, e, h2, h3, h4, h5, h6, h7⟩ := this
        exact ⟨(hlim k _ ho).trans h1, b, vs, e, h2, h3, h4, h5, fun i x u hx hv => (h6 i x u hx hv).trim (T.underL_at hu i x hx), h7⟩
      | gr z e rows n pub => exact ⟨(hlim k _ ho).trans this.1, this.2⟩
      | x X n => exact ⟨(hlim k _ ho).trans this.1, this.2⟩
      | dead => trivial
      | new => exact (hlim k _ ho).trans this
    · trivial
  · obtain ⟨_, h1⟩ := hk k o ho
    obtain ⟨_, h2⟩ := hk k' o' ho'
    rcases h1 with h1 | rfl
    · rcases h2 with h2 | rfl
      · have e1 : g.at k o b := by cases o <;> exact hb
        have := I.dis k k' o o' b hne h1 h2 e1
        cases o' <;> exact this
      · simp [Gh.at]
    · simp [Gh.at] at hb
  · by_cases h : k < S'.ob.length
    · simpa [Gh.trim, h] using I.ext k hk
    · exact .inl (by simp [Gh.trim, h])
  · rcases htm i with h | ⟨h, hu⟩
    · rw [h]; exact .any _
    · have := r.tm i
      rw [h] at this
      exact this.trim hu

/-! ### the judgement -/

def lift (N : Nm) (w0 : World) (σ0 : Bs) (Q : Exit → St → Prop) : Exit → Act → World → Prop := fun e a w => ∃ S g, Q e S ∧ Rel N w0 σ0 S a w g

def W (P : Program) (N : Nm) (c : Code) (Q : Exit → St → Prop) (S : St) : Prop :=
  ∀ w0 σ0 a w g, Rel N w0 σ0 S a w g → c.wp P (lift N w0 σ0 Q) a w

def WL (P : Program) (N : Nm) (ops : List Oper) (l : List Oper) (Q : Exit → St → Prop) (S : St) : Prop :=
  ∀ w0 σ0 a w g, Rel N w0 σ0 S a w g → wpList P ops.toArray (lift N w0 σ0 Q) l a w

section
variable {P : Program} {N : Nm} {Q : Exit → St → Prop} {S : St}

theorem W.weaken {c : Code} (S' : St) (h : St.le N S S') (k : W P N c Q S') : W P N c Q S := fun w0 σ0 a w _ r =>
  let ⟨g', r'⟩ := r.weaken h; k w0 σ0 a w g' r'

theorem W.mono {c : Code} {Q' : Exit → St → Prop} (h : W P N c Q S) (hq : ∀ e S, Q e S → Q' e S) : W P N c Q' S := fun w0 σ0 a w g r =>
  wp_mono (h w0 σ0 a w g r) fun _ _ _ ⟨S, g, q, r⟩ => ⟨S, g, hq _ _ q, r⟩

theorem W.skip (h : Q .normal S) : W P N .skip Q S := fun _ _ _ _ g r => wp_skip ⟨S, g, h, r⟩
theorem W.label {l : Nat} (h : Q .normal S) : W P N (.label l) Q S := fun _ _ _ _ g r => wp_label ⟨S, g, h, r⟩
theorem W.ret (h : Q .ret S) : W P N .ret Q S := fun _ _ _ _ g r => wp_ret ⟨S, g, h, r⟩
theorem W.exit {id : Nat} (h : Q (.exit id) S) : W P N (.exit id) Q S := fun _ _ _ _ g r => wp_exit ⟨S, g, h, r⟩

def thenQ (P : Program) (N : Nm) (y : Code) (Q : Exit → St → Prop) : Exit → St → Prop
  | .normal, S => W P N y Q S
  | e, S => Q e S

theorem thenQ.n {y : Code} (h : W P N y Q S) : thenQ P N y Q .normal S := h

theorem W.seq {x y : Code} (h : W P N x (thenQ P N y Q) S) : W P N (.seq x y) Q S := fun w0 σ0 a w g r =>
  wp_seq (wp_mono (h w0 σ0 a w g r) fun e a' w' ⟨S', g', q, r'⟩ => by
    cases e with
    | normal => exact q w0 σ0 a' w' g' r'
    | exit id => exact ⟨S', g', q, r'⟩
    | goto l => exact ⟨S', g', q, r'⟩
    | ret => exact ⟨S', g', q, r'⟩
    | panic ch => exact ⟨S', g', q, r'⟩
    | outgrown => exact ⟨S', g', q, r'⟩)

def inB (id : Nat) (Q : Exit → St → Prop) : Exit → St → Prop
  | .exit k, S => bif Nat.beq k id then Q .normal S else Q (.exit k) S
  | e, S => Q e S

theorem W.block {id : Nat} {c : Code} (h : W P N c (inB id Q) S) : W P N (.block id c) Q S := fun w0 σ0 a w g r =>
  wp_block (wp_mono (h w0 σ0 a w g r) fun e a' w' ⟨S', g', q, r'⟩ => by
    cases e with
    | exit k =>
      simp only [inB] at q
      by_cases hk : k = id
      · subst hk
        have hb : Nat.beq k k = true := by simp
        rw [hb] at q
        simp only [Exit.inBlock, if_true]
        exact ⟨S', g', q, r'⟩
      · have hb : Nat.beq k id = false := nbeq hk
        rw [hb] at q
        simp only [Exit.inBlock, if_neg hk]
        exact ⟨S', g', q, r'⟩
    | normal => exact ⟨S', g', q, r'⟩
    | goto l => exact ⟨S', g', q, r'⟩
    | ret => exact ⟨S', g', q, r'⟩
    | panic ch => exact ⟨S', g', q, r'⟩
    | outgrown => exact ⟨S', g', q, r'⟩)

def St.ev (S : St) : Operand → T
  | .tmp i => S.tm i
  | .const v => .d (.v v)
  | .func f => .d (.v (.func (.func f) #[] #[]))
  | .global k => .d (.v (.pointer (some ⟨k, 0, none⟩)))

theorem Rel.ev {w0 : World} {σ0 : Bs} {a : Act} {w : World} {g : Gh} (r : Rel N w0 σ0 S a w g) (x : Operand) : RT g (S.ev x) (a.eval x) := by
  cases x with
  | tmp i => exact r.tm i
  | const v => exact .d _ _ (.v v)
  | func f => exact .d _ _ (.v _)
  | global k => exact .d _ _ (.v _)

theorem RT.inv_v {g : Gh} {x u : Value} (h : RT g (.d (.v x)) u) : u = x := by
  cases h with
  | d _ _ h => cases h; rfl

theorem W.cond {c : Operand} {x y : Code} {b : Bool} (hc : S.ev c = .d (.v (.bool b)) := by exact rfl) (ht : b = true → W P N x Q S) (hf : b = false → W P N y Q S) :
    W P N (.cond c x y) Q S := fun w0 σ0 a w g r => by
  have h := r.ev c
  rw [hc] at h
  have := h.inv_v
  exact wp_cond_split this (fun e => ht e w0 σ0 a w g r) (fun e => hf e w0 σ0 a w g r)
theorem W.cond' {c : Operand} {x y : Code} {b : Bool} (ht : b = true → W P N x Q S) (hf : b = false → W P N y Q S)
    (hc : S.ev c = .d (.v (.bool b)) := by exact rfl) : W P N (.cond c x y) Q S :=
  W.cond hc ht hf

theorem W.cond_true {c : Operand} {x y : Code} (hc : S.ev c = .d (.v (.bool true)) := by exact rfl) (h : W P N x Q S) : W P N (.cond c x y) Q S :=
  W.cond hc (fun _ => h) (fun e => by cases e)
theorem W.cond_true' {c : Operand} {x y : Code} (h : W P N x Q S)
    (hc : S.ev c = .d (.v (.bool true)) := by exact rfl) : W P N (.cond c x y) Q S :=
  W.cond_true hc h

theorem W.cond_false {c : Operand} {x y : Code} (hc : S.ev c = .d (.v (.bool false)) := by exact rfl) (h : W P N y Q S) : W P N (.cond c x y) Q S :=
  W.cond hc (fun e => by cases e) (fun _ => h)
theorem W.cond_false' {c : Operand} {x y : Code} (h : W P N y Q S)
    (hc : S.ev c = .d (.v (.bool false)) := by exact rfl) : W P N (.cond c x y) Q S :=
  W.cond_false hc h

theorem exists_least {p : Nat → Prop} (h : ∃ n, p n) : ∃ n, p n ∧ ∀ m, p m → n ≤ m := by
  obtain ⟨n, hn⟩ := h
  induction n using Nat.strongRecOn with
  | _ n ih =>
    by_cases hm : ∃ m, m < n ∧ p m
    · obtain ⟨m, hlt, hp⟩ := hm
      exact ih m hlt hp
    · exact ⟨n, hn, fun m hp => by
        by_cases hl : n ≤ m
        · exact hl
        · exact (hm ⟨m, by omega, hp⟩).elim⟩

def loopQ (N : Nm) (I : Nat → St → Prop) (n : Nat) (Q : Exit → St → Prop) : Exit → St → Prop
  | .normal, S => ∃ m S', m < n ∧ I m S' ∧ St.le N S S'
  | e, S => Q e S

open Classical in
theorem W.loop {c : Code} (I : Nat → St → Prop) (n : Nat) (S' : St) (h0 : I n S') (hle : St.le N S S') (round : ∀ n S, I n S → W P N c (loopQ N I n Q) S) :
    W P N (.loop c) Q S := fun w0 σ0 a w g r => by
  let J : Act → World → Nat → Prop := fun a w n => ∃ S g, I n S ∧ Rel N w0 σ0 S a w g
  have hμ : ∀ a w, (∃ n, J a w n) → ∃ n, J a w n ∧ ∀ m, J a w m → n ≤ m := fun a w h => exists_least h
  let μ : Act → World → Nat := fun a w => if h : ∃ n, J a w n then Classical.choose (hμ a w h) else 0
  refine wp_loop (fun a w => ∃ n, J a w n) μ ?_ ?_
  · obtain ⟨g', r'⟩ := r.weaken hle
    exact ⟨n, S', g', h0, r'⟩
  · intro a w hI
    obtain ⟨hJ, hleast⟩ := Classical.choose_spec (hμ a w hI)
    have hμe : μ a w = Classical.choose (hμ a w hI) := by simp only [μ]; rw [dif_pos hI]
    rw [← hμe] at hJ hleast
    obtain ⟨S1, g1, hI1, r1⟩ := hJ
    refine wp_mono (round _ _ hI1 w0 σ0 a w g1 r1) fun e a' w' ⟨S2, g2, q, r2⟩ => ?_
    cases e with
    | normal =>
      obtain ⟨m, S3, hm, hI3, hle3⟩ := q
      obtain ⟨g3, r3⟩ := r2.weaken hle3
      have hex : ∃ n, J a' w' n := ⟨m, S3, g3, hI3, r3⟩
      refine ⟨hex, ?_⟩
      have := (Classical.choose_spec (hμ a' w' hex)).2 m ⟨S3, g3, hI3, r3⟩
      have e2 : μ a' w' = Classical.choose (hμ a' w' hex) := by simp only [μ]; rw [dif_pos hex]
      show μ a' w' < μ a w
      omega
    | exit id => exact ⟨S2, g2, q, r2⟩
    | goto l => exact ⟨S2, g2, q, r2⟩
    | ret => exact ⟨S2, g2, q, r2⟩
    | panic ch => exact ⟨S2, g2, q, r2⟩
    | outgrown => exact ⟨S2, g2, q, r2⟩

theorem W.region {id : Nat} {l : List Oper} (h : WL P N l l Q S) : W P N (.region id l.toArray false) Q S := fun w0 σ0 a w g r =>
  wp_region_lit (h w0 σ0 a w g r)

/-- The ways through a region meet again in one state. -/
theorem W.join {id : Nat} {l : List Oper} (S1 : St) (h : WL P N l l (fun e S' => e = .normal ∧ St.le N S' S1) S) (k : Q .normal S1) : W P N (.region id l.toArray false) Q S := fun w0 σ0 a w g r =>
  wp_mono (wp_region_lit (h w0 σ0 a w g r)) fun e a' w' ⟨S', g', ⟨he, hle⟩, r'⟩ => by
    subst he
    obtain ⟨g2, r2⟩ := r'.weaken hle
    exact ⟨S1, g2, k, r2⟩

theorem WL.nil {ops : List Oper} (h : Q .normal S) : WL P N ops [] Q S := fun _ _ _ _ g r => ⟨S, g, h, r⟩

theorem WL.weaken {ops l : List Oper} (S' : St) (h : St.le N S S') (k : WL P N ops l Q S') : WL P N ops l Q S := fun w0 σ0 a w _ r =>
  let ⟨g', r'⟩ := r.weaken h; k w0 σ0 a w g' r'

/-! ### guards -/

def St.set (S : St) (i : Nat) (t : T) : St := { S with tm := fun j => bif Nat.beq j i then t else S.tm j }

def St.want (S : St) (ops : List Oper) (o : Oper) : Option Bool :=
  match o.guard with
  | none => some true
  | some (j, b) =>
    match ops[j]? with
    | some p => match p.dst with
      | some d => match S.tm d with
        | .d (.v (.bool c)) => some (bif b then c else !c)
        | .d (.v (.tuple _)) => some false
        | _ => none
      | none => none
    | none => none

theorem Rel.want {w0 : World} {σ0 : Bs} {a : Act} {w : World} {g : Gh} (r : Rel N w0 σ0 S a w g) {ops : List Oper} {o : Oper} {b : Bool}
    (h : S.want ops o = some b) : Region.wanted o (yielded ops.toArray a.tmps) = b := by
  unfold St.want at h
  unfold Region.wanted
  split at h
  · rename_i hg
    rw [hg]; simpa using h
  · rename_i j c hg
    rw [hg]
    simp only []
    split at h
    · rename_i p hp
      split at h
      · rename_i d hd
        have hr := r.tm d
        have hget : a.tmps.getD d undef = (a.tmps[d]?).getD undef := by simp [Array.getD_eq_getD_getElem?]
        split at h
        · rename_i x hx
          rw [hx] at hr
          have hv := hr.inv_v
          rw [hget] at hv
          have hs : a.tmps[d]? = some (.bool x) := by
            cases hq : a.tmps[d]? with
            | none => rw [hq] at hv; simp [undef] at hv
            | some y => rw [hq] at hv; simp at hv; rw [hv]
          simp only [yielded, List.getElem?_toArray, hp, Option.bind_some, hd, hs]
          simp only [Option.some.injEq] at h
          subst h
          cases c <;> cases x <;> rfl
        · rename_i vs hx
          rw [hx] at hr
          have hv := hr.inv_v
          rw [hget] at hv
          simp only [Option.some.injEq] at h
          subst h
          simp only [yielded, List.getElem?_toArray, hp, Option.bind_some, hd]
          cases hq : a.tmps[d]? with
          | none => simp
          | some y => rw [hq] at hv; simp at hv; subst hv; simp
        · cases h
      · cases h
    · cases h

theorem Rel.set {w0 : World} {σ0 : Bs} {a : Act} {w : World} {g : Gh} (r : Rel N w0 σ0 S a w g) {d : Nat} (hd : d < N.n) {t : T} {v : Value} (h : RT g t v) :
    Rel N w0 σ0 (S.set d t) (a.put (some d) v) w g := by
  refine ⟨r.inv, r.defers, by simpa [Act.put] using r.size, r.hm, r.hl, fun i => ?_⟩
  simp only [St.set, Act.put, Array.getD_eq_getD_getElem?, Array.getElem?_setIfInBounds]
  by_cases e : i = d
  · subst e
    have : Nat.beq i i = true := by simp
    rw [this]
    have hs : i < a.tmps.size := by rw [r.size]; exact hd
    simpa [hs] using h
  · have hb : Nat.beq i d = false := nbeq e
    rw [hb]
    have e' : ¬ d = i := fun h => e h.symm
    simp only [e', if_false, cond_false]
    have := r.tm i
    rwa [Array.getD_eq_getD_getElem?] at this

theorem Rel.set_none {w0 : World} {σ0 : Bs} {a : Act} {w : World} {g : Gh} (r : Rel N w0 σ0 S a w g) {v : Value} : Rel N w0 σ0 S (a.put none v) w g := r

def St.setO (S : St) (d : Option Nat) (t : T) : St := match d with | some i => S.set i t | none => S

theorem Rel.setO {w0 : World} {σ0 : Bs} {a : Act} {w : World} {g : Gh} (r : Rel N w0 σ0 S a w g) {d : Option Nat} (hd : (match d with | some i => Nat.blt i N.n | none => true) = true) {t : T} {v : Value} (h : RT g t v) :
    Rel N w0 σ0 (S.setO d t) (a.put d v) w g := by
  cases d with
  | none => exact r
  | some i => exact r.set (by simpa using hd) h

abbrev inN (N : Nm) (d : Option Nat) : Bool := match d with | some i => Nat.blt i N.n | none => true

theorem WL.pass {ops l : List Oper} {d : Nat} {op : Op} {ty : TypeId} {pos : String} {after : Array Edge} {gd : Option (Nat × Bool)} (hw : S.want ops ⟨some d, op, ty, pos, after, gd⟩ = some false) (hd : Nat.blt d N.n = true)
    (k : WL P N ops l Q (S.set d (.d (.v undef)))) : WL P N ops (⟨some d, op, ty, pos, after, gd⟩ :: l) Q S := fun w0 σ0 a w g r => by
  unfold wpList
  rw [if_neg (by rw [r.want hw]; simp)]
  exact k w0 σ0 _ w g (r.set (by simpa using hd) (.d _ _ (.v _)))

theorem WL.passx {ops l : List Oper} {op : Op} {ty : TypeId} {pos : String} {after : Array Edge} {gd : Option (Nat × Bool)} (hw : S.want ops ⟨none, op, ty, pos, after, gd⟩ = some false)
    (k : WL P N ops l Q S) : WL P N ops (⟨none, op, ty, pos, after, gd⟩ :: l) Q S := fun w0 σ0 a w g r => by
  unfold wpList
  rw [if_neg (by rw [r.want hw]; simp)]
  exact k w0 σ0 _ w g r

/-- The step of an operation that is carried out: its run, whatever the world. -/
theorem WL.oper {ops l : List Oper} {o : Oper} (hw : S.want ops o = some true)
    (h : ∀ w0 σ0 a w g, Rel N w0 σ0 S a w g → o.wp P a w (wpList P ops.toArray (lift N w0 σ0 Q) l) (lift N w0 σ0 Q)) : WL P N ops (o :: l) Q S := fun w0 σ0 a w g r => by
  unfold wpList
  rw [if_pos (r.want hw)]
  exact .inl (h w0 σ0 a w g r)

theorem WL.split {ops l : List Oper} {o p : Oper} {j d : Nat} {b c : Bool} (hg : o.guard = some (j, b)) (hp : ops[j]? = some p) (hd : p.dst = some d) (hc : S.tm d = .d (.v (.bool c)))
    (ht : c = true → WL P N ops (o :: l) Q (S.set d (.d (.v (.bool true))))) (hf : c = false → WL P N ops (o :: l) Q (S.set d (.d (.v (.bool false))))) :
    WL P N ops (o :: l) Q S := fun w0 σ0 a w g r => by
  have same : ∀ t, S.tm d = t → ∀ a w g, Rel N w0 σ0 S a w g → Rel N w0 σ0 (S.set d t) a w g := fun t e a w g r => ⟨r.inv, r.defers, r.size, r.hm, r.hl, fun i => by
    by_cases hi : i = d
    · subst hi
      have : Nat.beq i i = true := by simp
      simp only [St.set, this, cond_true]
      rw [← e]; exact r.tm i
    · have hb : Nat.beq i d = false := nbeq hi
      simp only [St.set, hb, cond_false]
      exact r.tm i⟩
  cases c with
  | true => exact ht rfl w0 σ0 a w g (same _ hc a w g r)
  | false => exact hf rfl w0 σ0 a w g (same _ hc a w g r)

/-! ### the contract -/

def argT (l : List T) (i : Nat) : T := match l[i]? with | some x => x | none => .any

/-- Where a call begins: what it was lent it may write. -/
def baseOf (ob : List Ob) (g : Gh) : Bs := ⟨g.σ, fun b => ∃ k o, ob[k]? = some o ∧ g.at k o b, fun k => g.γ k 0, ob.length⟩

def FnPostQ (w : World) (B : Bs) (R : T → List Ob → Prop) (e : Ending) (w' : World) : Prop := ∃ v t ob' g', e = .returned v ∧ R t ob' ∧ Inv w B ob' w' g' ∧ RT g' t v

/-- The call, at arguments and objects that read so, comes back with a result and objects that R allows; nothing else has turned. -/
def FnQ (P : Program) (f : FuncId) (args : List T) (ob : List Ob) (R : T → List Ob → Prop) : Prop :=
  ∀ (w : World) (g : Gh) (vals : List Value), Inv w (baseOf ob g) ob w g → vals.length = args.length →
    (∀ (i : Nat) (x : T) (u : Value), args[i]? = some x → vals[i]? = some u → RT g x u) → Calls P f vals.toArray w (FnPostQ w (baseOf ob g) R)

/-- From what the code leaves to what the contract says. -/
def FinQ (m : Nat) (ob : List Ob) (tt : T) (R : T → List Ob → Prop) : Prop :=
  ∀ w0 σ0 w g v, σ0.m = m → Inv w0 σ0 ob w g → RT g tt v → ∃ t ob' g', R t ob' ∧ Inv w0 σ0 ob' w g' ∧ RT g' t v

def Fin (ob : List Ob) (tt : T) (ob' : List Ob) (t : T) : Prop :=
  ∀ w0 σ0 w g v, Inv w0 σ0 ob w g → RT g tt v → ∃ g', Inv w0 σ0 ob' w g' ∧ RT g' t v

theorem Fin.q {m : Nat} {ob ob' : List Ob} {tt t : T} {R : T → List Ob → Prop} (h : Fin ob tt ob' t) (hR : R t ob') : FinQ m ob tt R := fun w0 σ0 w g v _ I hv =>
  let ⟨g', I', h'⟩ := h w0 σ0 w g v I hv; ⟨t, ob', g', hR, I', h'⟩

def resOf (S : St) : ResultVar → Option T
  | .tmp i => some (S.tm i)
  | .cell a _ => match S.tm a with
    | .lp l off => match S.ob[l]? with
      | some (.pv cs) => bif Nat.beq off 0 then some (.agg cs) else none
      | _ => none
    | _ => none

def resL (S : St) : List ResultVar → Option (List T)
  | [] => some []
  | x :: r => match resOf S x, resL S r with
    | some t, some ts => some (t :: ts)
    | _, _ => none

def resT : List T → T
  | [t] => t
  | ts => .tup ts

/-- Every result that lies in memory is a struct that fills its variable. -/
def resOK (P : Program) (S : St) : List ResultVar → Prop
  | [] => True
  | .tmp _ :: r => resOK P S r
  | .cell a t :: r => (∃ fs, P.underlying t = some (.struct fs)) ∧ (match S.tm a with
      | .lp l _ => match S.ob[l]? with | some (.pv cs) => P.cellsOf t = cs.length ∧ (P.info? t).isSome = true | _ => False
      | _ => False) ∧ resOK P S r

def RetR (P : Program) (fn : Func) (m : Nat) (R : T → List Ob → Prop) : Exit → St → Prop := fun e S =>
  (e = .ret ∨ e = .normal) ∧ ∃ ts, resL S fn.results.toList = some ts ∧ resOK P S fn.results.toList ∧ FinQ m S.ob (resT ts) R

/-- One result, one list of objects. -/
def just (t : T) (ob : List Ob) : T → List Ob → Prop := fun t' ob' => t' = t ∧ ob' = ob

def RetQ (P : Program) (fn : Func) (t : T) (ob : List Ob) : Exit → St → Prop := fun e S =>
  (e = .ret ∨ e = .normal) ∧ ∃ ts, resL S fn.results.toList = some ts ∧ resOK P S fn.results.toList ∧ Fin S.ob (resT ts) ob t

theorem RetQ.r {P : Program} {fn : Func} {m : Nat} {t : T} {ob : List Ob} {R : T → List Ob → Prop} (hR : R t ob) {e : Exit} {S : St} (h : RetQ P fn t ob e S) : RetR P fn m R e S :=
  ⟨h.1, let ⟨ts, h1, h2, h3⟩ := h.2; ⟨ts, h1, h2, h3.q hR⟩⟩

end
end Go.Proofs.Yteooogngdejdgaa
