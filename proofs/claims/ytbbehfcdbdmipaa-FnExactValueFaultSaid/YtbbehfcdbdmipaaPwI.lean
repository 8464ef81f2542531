/-
  The small logic, ninth part: a call by its contract; the contract with the callee's entry; forgetting in one step. Conditions: none.
-/
import Derived.Test.YtbbehfcdbdmipaaPwH
set_option linter.unusedVariables false
set_option linter.unusedSimpArgs false
namespace Go.Proofs.Ytbbehfcdbdmipaa
open Go.RowKit

mutual
def T.shift (K : Nat) : T → T
  | .d x => .d x
  | .agg cs => .agg (T.shiftL K cs)
  | .tup cs => .tup (T.shiftL K cs)
  | .lp l off => .lp (l + K) off
  | .og k n => .og (k + K) n
  | .ea r off => .ea r off
  | .eg k n z i off => .eg (k + K) n z i off
  | .any => .any
def T.shiftL (K : Nat) : List T → List T
  | [] => []
  | t :: r => T.shift K t :: T.shiftL K r
end

theorem T.shiftL_map (K : Nat) : ∀ cs, T.shiftL K cs = cs.map (T.shift K)
  | [] => by simp [T.shiftL]
  | t :: r => by simp [T.shiftL, T.shiftL_map K r]

def Ob.shift (K : Nat) : Ob → Ob
  | .pv cs => .pv (T.shiftL K cs)
  | o => o

theorem RT.shift {g g' : Gh} {K : Nat} (hσ : ∀ b o u, g.σ b o = some u → g'.σ b o = some u) (hγ : ∀ k n, g'.γ (k + K) n = g.γ k n) (hl : ∀ k, g'.lim (k + K) = g.lim k) {t : T} {v : Value} (h : RT g t v) :
    RT g' (t.shift K) v := by
  induction h with
  | d x u h => exact .d x u (h.mono hσ)
  | agg cs vs hlen h ih =>
    simp only [T.shift, T.shiftL_map]
    refine .agg _ vs (by simpa using hlen) fun i x u hx hu => ?_
    simp only [List.getElem?_map, Option.map_eq_some_iff] at hx
    obtain ⟨y, hy, rfl⟩ := hx
    exact ih i y u hy hu
  | tup cs vs hlen h ih =>
    simp only [T.shift, T.shiftL_map]
    refine .tup _ vs (by simpa using hlen) fun i x u hx hu => ?_
    simp only [List.getElem?_map, Option.map_eq_some_iff] at hx
    obtain ⟨y, hy, rfl⟩ := hx
    exact ih i y u hy hu
  | lp l off b h0 h => exact .lp (l + K) off b (by rw [hl]; exact h0) ((hγ l 0).trans h)
  | og k n h =>
    have := RT.og (g := g') (k + K) n (by rw [hl]; exact h)
    rwa [hγ] at this
  | ea r off b o U hc hr => exact .ea r off b o U (fun j hj => ⟨hσ _ _ _ (hc j hj).1, (hc j hj).2⟩) fun j x hx => (hr j x hx).mono hσ
  | eg k n z i off b len cap h hg => exact .eg (k + K) n z i off b len cap (by rw [hl]; exact h) ((hγ k n).trans hg)
  | any u => exact .any u

theorem ObOK.shift {base base' : Nat} {g g' : Gh} {w : World} {K k : Nat} {o : Ob} (hb : base' ≤ base) (hσ : ∀ b o, g'.σ b o = g.σ b o) (hγ : ∀ k n, g'.γ (k + K) n = g.γ k n) (hl : ∀ k, g'.lim (k + K) = g.lim k)
    (h : ObOK base g w k o) : ObOK base' g' w (k + K) (o.shift K) ∧ g'.blk (k + K) (o.shift K) = g.blk k o := by
  have hσ' : ∀ b o u, g.σ b o = some u → g'.σ b o = some u := fun b o u h => (hσ b o).trans h
  cases o with
  | pv cs =>
    obtain ⟨h1, b, vs, e, h2, h3, h4, h5, h6, h7, h8⟩ := h
    refine ⟨⟨(hl k).trans h1, b, vs, e, (hγ k 0).trans h2, by omega, h4, ?_, fun i x u hx hu => ?_, h7, fun o => (hσ b o).trans (h8 o)⟩, by simp [Gh.blk, Ob.shift, hγ]⟩
    · rw [T.shiftL_map]; simpa using h5
    · rw [T.shiftL_map] at hx
      simp only [List.getElem?_map, Option.map_eq_some_iff] at hx
      obtain ⟨y, hy, rfl⟩ := hx
      exact (h6 i y u hy hu).shift hσ' hγ hl
  | gr z e rows n pub =>
    obtain ⟨h1, xs, h2, h3, h4, h5, h6⟩ := h
    refine ⟨⟨(hl k).trans h1, xs, ?_, h3, fun i j r x hr hx => let ⟨u, hu, hd⟩ := h4 i j r x hr hx; ⟨u, hu, hd.mono hσ'⟩, h5, fun b hbk => ?_⟩, by simp [Gh.blk, Ob.shift, hγ]⟩
    · rw [hγ]
      refine ⟨h2.1, ?_⟩
      rcases h2.2 with h | ⟨b, cap, cur, hv, hbb, rest⟩
      · exact .inl h
      · exact .inr ⟨b, cap, cur, hv, by omega, rest⟩
    · rw [hγ] at hbk
      have := h6 b hbk
      cases pub with
      | true => simp only [if_true] at this ⊢; exact fun o => (hσ b o).trans (this o)
      | false => simp only [Bool.false_eq_true, if_false] at this ⊢; exact fun o => (hσ b o).trans (this o)
  | dead => exact ⟨trivial, rfl⟩

section
variable {N : Nat} {S : St} {w0 : World} {σ0 : Sto} {ob : List Ob} {a : Act} {w : World} {g : Gh}

/-- Behind a call: what the callee has made lies behind what was there. -/
theorem Inv.call (I : Inv w0 σ0 ob w g) {ob1 : List Ob} {w' : World} {g1 : Gh} (J : Inv w g.σ ob1 w' g1) :
    ∃ g', g.le g' ∧ Inv w0 σ0 (ob ++ ob1.map (Ob.shift ob.length)) w' g' ∧ ∀ (t : T) (v : Value), RT g1 t v → RT g' (t.shift ob.length) v := by
  let K := ob.length
  let g' : Gh := { σ := g1.σ, γ := fun k n => if k < K then g.γ k n else g1.γ (k - K) n, lim := fun k => if k < K then g.lim k else g1.lim (k - K) }
  have hσ : ∀ b o u, g.σ b o = some u → g1.σ b o = some u := fun b o u hu => by
    rw [J.old b o (I.lt_of_σ hu)]; exact hu
  have hle : g.le g' := ⟨hσ, fun k n hn => by
    have : k < K := by
      by_cases h : k < K
      · exact h
      · have := I.lim k (by omega); omega
    simp [g', this, hn]⟩
  have hγK : ∀ k n, g'.γ (k + K) n = g1.γ k n := fun k n => by
    have : ¬ k + K < K := by omega
    simp [g', this]
  have hlK : ∀ k, g'.lim (k + K) = g1.lim k := fun k => by
    have : ¬ k + K < K := by omega
    simp [g', this]
  have hold : ∀ (k : Nat) (p : Ob), ob[k]? = some p → ∀ b, g.blk k p = some b → b < w.heap.size := fun k p hp b hb => ((I.obs k p hp).blk_lt hb).2
  have hget : ∀ (k : Nat) (p : Ob), (ob ++ ob1.map (Ob.shift K))[k]? = some p → (k < K ∧ ob[k]? = some p) ∨ (∃ j q, k = j + K ∧ ob1[j]? = some q ∧ p = q.shift K) := fun k p hp => by
    by_cases h : k < K
    · rw [List.getElem?_append_left h] at hp; exact .inl ⟨h, hp⟩
    · rw [List.getElem?_append_right (by omega)] at hp
      simp only [List.getElem?_map, Option.map_eq_some_iff] at hp
      obtain ⟨q, hq, rfl⟩ := hp
      exact .inr ⟨k - K, q, by omega, hq, rfl⟩
  have hnew : ∀ (j : Nat) (q : Ob), ob1[j]? = some q → ObOK w0.heap.size g' w' (j + K) (q.shift K) ∧ g'.blk (j + K) (q.shift K) = g1.blk j q := fun j q hq =>
    (J.obs j q hq).shift I.below.size (fun _ _ => rfl) hγK hlK
  refine ⟨g', hle, ⟨I.below.trans (J.below.mono I.below.size), fun b o hb => ?_, J.con, fun k p hp => ?_, fun k hk => ?_, fun k k' p p' b hne hp hp' hb => ?_⟩, fun t v h => RT.shift (g := g1) (g' := g') (K := K) (fun _ _ _ h => h) hγK hlK h⟩
  · show g1.σ b o = σ0 b o
    rw [J.old b o (by have := I.below.size; omega)]
    exact I.old b o hb
  · rcases hget k p hp with ⟨hk, hp⟩ | ⟨j, q, rfl, hq, rfl⟩
    · exact (I.obs k p hp).mono hle (by simp [g', hk]) fun b hb => ⟨J.below.block b (hold k p hp b hb), fun x => J.old b x (hold k p hp b hb)⟩
    · exact (hnew j q hq).1
  · simp only [List.length_append, List.length_map] at hk
    have h1 : ¬ k < K := by omega
    simp [g', h1, J.lim (k - K) (by omega)]
  · rcases hget k p hp with ⟨hk, hp⟩ | ⟨j, q, rfl, hq, rfl⟩
    · rw [Gh.blk_mono hle (I.obs k p hp)] at hb
      rcases hget k' p' hp' with ⟨hk', hp'⟩ | ⟨j', q', rfl, hq', rfl⟩
      · rw [Gh.blk_mono hle (I.obs k' p' hp')]
        exact I.dis k k' p p' b hne hp hp' hb
      · rw [(hnew j' q' hq').2]
        intro h
        have := ((J.obs j' q' hq').blk_lt h).1
        have := hold k p hp b hb
        omega
    · rw [(hnew j q hq).2] at hb
      rcases hget k' p' hp' with ⟨hk', hp'⟩ | ⟨j', q', rfl, hq', rfl⟩
      · rw [Gh.blk_mono hle (I.obs k' p' hp')]
        intro h
        have := ((J.obs j q hq).blk_lt hb).1
        have := hold k' p' hp' b h
        omega
      · rw [(hnew j' q' hq').2]
        exact J.dis j j' q q' b (fun e => hne (by omega)) hq hq' hb

/-! ### arguments -/

def argsOf (E : Env) (S : St) : List Operand → List TypeId → Option (List D)
  | [], _ => some []
  | x :: r, ts => match norm S.ob (fixNil E (ts.headD 0) (S.ev x)), argsOf E S r ts.tail with
    | .d d, some ds => some (d.fix :: ds)
    | _, _ => none

theorem Rel.args {E : Env} (r : Rel N w0 σ0 S a w g) : ∀ {xs : List Operand} {ts : List TypeId} {ds : List D}, argsOf E S xs ts = some ds →
    (xs.map a.eval).length = ds.length ∧ ∀ (i : Nat) (x : D) (u : Value), ds[i]? = some x → (xs.map a.eval)[i]? = some u → RD g.σ x u
  | [], ts, ds, h => by
    simp only [argsOf, Option.some.injEq] at h
    subst h
    exact ⟨rfl, fun i x u hx => by simp at hx⟩
  | x :: xs, ts, ds, h => by
    simp only [argsOf] at h
    split at h
    · rename_i d ds' hd hds
      simp only [Option.some.injEq] at h
      subst h
      obtain ⟨h1, h2⟩ := Rel.args r hds
      refine ⟨by simpa using h1, fun i y u hy hu => ?_⟩
      cases i with
      | zero =>
        simp at hy hu
        subst hy; subst hu
        have := r.inv.norm ((r.ev x).fixNil E (ts.headD 0))
        rw [hd] at this
        exact this.inv_d.fix
      | succ i => exact h2 i y u (by simpa using hy) (by simpa using hu)
    · cases h
end

/-- The contract of a function that a call enters. -/
structure Fun (P : Program) (f : FuncId) (args : List D) (t : T) (ob : List Ob) : Prop where
  enter : ∀ (vals : Array Value) (w : World), (callFunc f vals).run P w = .ok (.enter f vals) w
  calls : Fn P f args t ob

theorem Fun.intro {P : Program} {f : FuncId} {fn : Func} {c : Code} {args : List D} {t : T} {ob : List Ob} (hf : P.funcs[f]? = some fn) (hb : fn.body = some c) (hname : (fn.name == "runtime.NumGoroutine") = false)
    (hn : Nat.ble args.length fn.ntmps = true) (h : W P fn.ntmps c (RetQ P fn t ob) ⟨argT args, []⟩) : Fun P f args t ob :=
  ⟨fun vals w => by
    unfold callFunc
    simp only [Sem.run_bind, run_program, Result.andThen_ok, hf, hname, hb, Bool.false_eq_true, if_false, Option.isNone_some, Sem.run_pure], Fn.intro hf hb (Nat.le_of_ble_eq_true hn) h⟩

theorem Fun.cast {P : Program} {f : FuncId} {args args' : List D} {t t' : T} {ob ob' : List Ob} (h : Fun P f args t ob) (ha : args = args') (ht : t = t') (ho : ob = ob') : Fun P f args' t' ob' := by
  subst ha; subst ht; subst ho; exact h

section
variable {E : Env} {N : Nat} {Q : Exit → St → Prop} {S : St} {ops l : List Oper} {ty : TypeId} {pos : String} {after : Array Edge} {gd : Option (Nat × Bool)}

theorem run_call {P : Program} {w : World} {a : Act} {f : FuncId} {xs : List Operand} {tys : Array TypeId} {dst : Option Nat} (h : ∀ (vals : Array Value) (w : World), (callFunc f vals).run P w = .ok (.enter f vals) w) :
    (execOp a.eval ⟨dst, .call ⟨.value (.func f), xs.toArray, tys⟩, ty, pos, after, gd⟩).run P w = .ok (.enter f (xs.map a.eval).toArray) w := by
  simp [execOp, resolve, Deferred.ofValue, Act.eval, invoke, h]

theorem WL.call {d : Nat} {f : FuncId} {xs : List Operand} {tys : List TypeId} {args : List D} {t : T} {ob1 : List Ob} (hw : S.want ops ⟨some d, .call ⟨.value (.func f), xs.toArray, tys.toArray⟩, ty, pos, after, gd⟩ = some true) (hd : Nat.blt d N = true)
    (hc : Fun E.P f args t ob1) (ha : argsOf E S xs tys = some args)
    (k : WL E.P N ops l Q ⟨(S.set d (t.shift S.ob.length)).tm, S.ob ++ ob1.map (Ob.shift S.ob.length)⟩) : WL E.P N ops (⟨some d, .call ⟨.value (.func f), xs.toArray, tys.toArray⟩, ty, pos, after, gd⟩ :: l) Q S :=
  WL.oper hw fun w0 σ0 a w g r => by
    obtain ⟨h1, h2⟩ := r.args ha
    unfold Oper.wp
    rw [run_call hc.enter, Oper.upon_enter]
    refine (hc.calls w g.σ (xs.map a.eval) r.inv.con h1 h2).mono fun e w' ⟨v, g1, he, J, hv⟩ => ?_
    subst he
    obtain ⟨g', hle, I', hmap⟩ := r.inv.call J
    have r' : Rel N w0 σ0 ⟨S.tm, S.ob ++ ob1.map (Ob.shift S.ob.length)⟩ a w' g' := ⟨I', r.defers, r.size, fun i => (r.tm i).mono hle⟩
    exact k w0 σ0 _ w' g' (r'.set (by simpa using hd) (hmap t v hv))

theorem WL.callx {f : FuncId} {xs : List Operand} {tys : List TypeId} {args : List D} {t : T} {ob1 : List Ob} (hw : S.want ops ⟨none, .call ⟨.value (.func f), xs.toArray, tys.toArray⟩, ty, pos, after, gd⟩ = some true)
    (hc : Fun E.P f args t ob1) (ha : argsOf E S xs tys = some args)
    (k : WL E.P N ops l Q ⟨S.tm, S.ob ++ ob1.map (Ob.shift S.ob.length)⟩) : WL E.P N ops (⟨none, .call ⟨.value (.func f), xs.toArray, tys.toArray⟩, ty, pos, after, gd⟩ :: l) Q S :=
  WL.oper hw fun w0 σ0 a w g r => by
    obtain ⟨h1, h2⟩ := r.args ha
    unfold Oper.wp
    rw [run_call hc.enter, Oper.upon_enter]
    refine (hc.calls w g.σ (xs.map a.eval) r.inv.con h1 h2).mono fun e w' ⟨v, g1, he, J, hv⟩ => ?_
    subst he
    obtain ⟨g', hle, I', hmap⟩ := r.inv.call J
    exact k w0 σ0 _ w' g' ⟨I', r.defers, r.size, fun i => (r.tm i).mono hle⟩
end

/-! ### states written out -/

def ofL : List (Nat × T) → Nat → T
  | [], _ => .any
  | (i, t) :: r, j => bif Nat.beq j i then t else ofL r j

def leL (n : Nat) (f : Nat → T) : List (Nat × T) → Prop
  | [] => True
  | (i, t) :: r => (f i = t ∧ t.under n = true) ∧ leL n f r

theorem le_ofL {S : St} {L : List (Nat × T)} {ob : List Ob} (ho : obsLe ob.length ob S.ob) (h : leL ob.length S.tm L) : S.le ⟨ofL L, ob⟩ := by
  refine ⟨ho, fun i => ?_⟩
  show ofL L i = .any ∨ (S.tm i = ofL L i ∧ (ofL L i).under ob.length = true)
  induction L with
  | nil => exact .inl rfl
  | cons p r ih =>
    obtain ⟨j, t⟩ := p
    obtain ⟨h1, h2⟩ := h
    unfold ofL
    by_cases e : i = j
    · subst e
      rw [show Nat.beq i i = true by simp, cond_true]
      exact .inr h1
    · rw [nbeq e, cond_false]
      exact ih h2

theorem obsLe_refl {ob : List Ob} (h : ∀ o ∈ ob, o.under ob.length = true) : obsLe ob.length ob ob := by
  have : ∀ (n : Nat) (l : List Ob), (∀ o ∈ l, o.under n = true) → obsLe n l l := by
    intro n l
    induction l with
    | nil => intro _; trivial
    | cons o r ih => exact fun h => ⟨h o (List.mem_cons_self ..), .inl rfl, ih fun p hp => h p (List.mem_cons_of_mem _ hp)⟩
  exact this _ _ h

end Go.Proofs.Ytbbehfcdbdmipaa
