/-
  The small logic, twelfth part: many plain operations in one step, by reckoning. Conditions: none.
-/
import Derived.Test.YteooogngdejdgaaPwK
set_option linter.unusedVariables false
set_option linter.unusedSimpArgs false
namespace Go.Proofs.Yteooogngdejdgaa
open Go.RowKit

/-! ### forms laid open, so that what is kept is small -/

def forceN {α : Type} (n : Nat) (k : Nat → α) : α :=
  bif Nat.beq n 0 then k 0 else bif Nat.beq n 1 then k 1 else bif Nat.beq n 2 then k 2 else bif Nat.beq n 3 then k 3 else bif Nat.beq n 4 then k 4 else bif Nat.beq n 5 then k 5
  else bif Nat.beq n 6 then k 6 else bif Nat.beq n 7 then k 7 else bif Nat.beq n 8 then k 8 else bif Nat.beq n 9 then k 9 else bif Nat.beq n 10 then k 10 else bif Nat.beq n 11 then k 11
  else bif Nat.beq n 12 then k 12 else bif Nat.beq n 13 then k 13 else bif Nat.beq n 14 then k 14 else bif Nat.beq n 15 then k 15 else bif Nat.beq n 16 then k 16 else bif Nat.beq n 17 then k 17
  else bif Nat.beq n 18 then k 18 else bif Nat.beq n 19 then k 19 else bif Nat.beq n 20 then k 20 else bif Nat.beq n 21 then k 21 else bif Nat.beq n 22 then k 22 else bif Nat.beq n 23 then k 23 else k n

theorem forceN_eq {α : Type} (n : Nat) (k : Nat → α) : forceN n k = k n := by
  unfold forceN
  repeat' (first | rfl | (refine (?_ : ∀ (b : Bool) (x y z : α), (b = true → x = z) → y = z → (bif b then x else y) = z) _ _ _ _ (fun h => ?_) ?_))
  all_goals first
    | (intro b x y z h1 h2; cases b; exact h2; exact h1 rfl)
    | (rw [Nat.eq_of_beq_eq_true h])

def forceV {α : Type} (v : Value) (k : Value → α) : α :=
  match v with
  | .bool true => k (.bool true)
  | .bool false => k (.bool false)
  | .int kd n => k (.int kd n)
  | .string s => k (.string s)
  | .pointer a => k (.pointer a)
  | .slice a n c => k (.slice a n c)
  | .func f a c => k (.func f a c)
  | v => k v

theorem forceV_eq {α : Type} (v : Value) (k : Value → α) : forceV v k = k v := by unfold forceV; split <;> rfl

def forceD {α : Type} (d : D) (k : D → α) : α :=
  match d with
  | .v x => k (.v x)
  | .nl z => k (.nl z)
  | .sl z rows => k (.sl z rows)
  | .agg cs => k (.agg cs)

theorem forceD_eq {α : Type} (d : D) (k : D → α) : forceD d k = k d := by cases d <;> rfl

def forceDs {α : Type} : List D → (List D → α) → α
  | [], k => k []
  | d :: r, k => forceD d fun d' => forceDs r fun r' => k (d' :: r')

theorem forceDs_eq {α : Type} : ∀ (l : List D) (k : List D → α), forceDs l k = k l
  | [], k => rfl
  | d :: r, k => by simp [forceDs, forceD_eq, forceDs_eq r]

def forceT1 {α : Type} (t : T) (k : T → α) : α :=
  match t with
  | .d (.agg cs) => forceDs cs fun cs' => k (.d (.agg cs'))
  | .d x => forceD x fun x' => k (.d x')
  | .agg cs => k (.agg cs)
  | .tup cs => k (.tup cs)
  | .lp l o => forceN o fun o' => k (.lp l o')
  | .og a n => k (.og a n)
  | .ea r o => forceN o fun o' => k (.ea r o')
  | .eg a n z i o => forceN o fun o' => k (.eg a n z i o')
  | .clo f cs => k (.clo f cs)
  | .any => k .any

theorem forceT1_eq {α : Type} (t : T) (k : T → α) : forceT1 t k = k t := by unfold forceT1; split <;> simp [forceDs_eq, forceD_eq, forceN_eq]

def forceTs {α : Type} : List T → (List T → α) → α
  | [], k => k []
  | d :: r, k => forceT1 d fun d' => forceTs r fun r' => k (d' :: r')

theorem forceTs_eq {α : Type} : ∀ (l : List T) (k : List T → α), forceTs l k = k l
  | [], k => rfl
  | d :: r, k => by simp [forceTs, forceT1_eq, forceTs_eq r]

def forceT {α : Type} (t : T) (k : T → α) : α :=
  match t with
  | .agg cs => forceTs cs fun cs' => k (.agg cs')
  | .tup cs => forceTs cs fun cs' => k (.tup cs')
  | t => forceT1 t k

theorem forceT_eq {α : Type} (t : T) (k : T → α) : forceT t k = k t := by unfold forceT; split <;> simp [forceTs_eq, forceT1_eq]

/-! ### one operation -/

structure Out where
  conds : List Prop
  rest : List Oper
  tm : Nat → T
  ob : List Ob

def AllP : List Prop → Prop
  | [] => True
  | p :: r => p ∧ AllP r

def withSet (ob : List Ob) (j : Nat) (cs : List T) : List Ob := ob.set j (.pv cs)

/-- Is the guard's answer laid open? -/
def openG (G : List Nat) (o : Oper) : Bool := match o.guard with | none => true | some (j, _) => G.elem j

def stepOp (E : Env) (N : Nm) (G : List Nat) (ops : List Oper) (o : Oper) (tm : Nat → T) (ob : List Ob) (next : Prop → (Nat → T) → List Ob → Out) (stop : Out) : Out :=
  bif openG G o then
  match St.want ⟨tm, ob⟩ ops o with
  | none => stop
  | some false => match o.dst with
    | some d => bif Nat.blt d N.n then next True (upd tm d (.d (.v undef))) ob else stop
    | none => next True tm ob
  | some true =>
    match o.dst, o.op with
    | some d, .alloc t => bif Nat.blt d N.n && (E.ty t).known then forceN ob.length fun K => forceTs ((E.ty t).zero.map .d) fun cs => next True (upd tm d (.lp K 0)) (ob ++ [.pv cs]) else stop
    | some d, .box t x => match cellsT ob (St.ev ⟨tm, ob⟩ x) with
      | some cs => forceTs cs fun cs => bif Nat.blt d N.n && onesT cs && cursT ob cs then forceN ob.length fun K => next True (upd tm d (.lp K 0)) (ob ++ [.pv cs]) else stop
      | none => stop
    | none, .store t x v => match St.ev ⟨tm, ob⟩ x with
      | .lp j off => match ob[j]? with
        | some (.pv cs) => match cellsT ob (fixNil E t (St.ev ⟨tm, ob⟩ v)) with
          | some vals => bif (E.ty t).known && Nat.beq vals.length (E.ty t).size && Nat.ble (off + vals.length) cs.length && onesT vals && cursT ob vals then forceTs (setAll cs off vals) fun cs' => next True tm (ob.set j (.pv cs')) else stop
          | none => stop
        | _ => stop
      | _ => stop
    | some d, .build t parts => match fillT ob (E.ty t).offs ((E.ty t).zero.map .d) (evParts ⟨tm, ob⟩ parts.toList) with
      | some cs => bif Nat.blt d N.n && (E.ty t).agg then forceT (mkAgg cs) fun r => next True (upd tm d r) ob else stop
      | none => stop
    | some d, .buildSlice t len parts => match (E.ty t).kind with
      | .slice e => match rowsOf ⟨tm, ob⟩ 0 parts.toList with
        | some rows => bif Nat.blt d N.n && (E.ty e).known && Nat.blt 0 (E.ty e).size && Nat.beq len parts.toList.length && Nat.ble (len * (E.ty e).size) 16777216 && widths (E.ty e).size rows then
            forceN ob.length fun K => forceN (E.ty e).size fun z => next True (upd tm d (.og K 0)) (ob ++ [.gr z e rows 0 false]) else stop
        | none => stop
      | _ => stop
    | some d, op => match ev1 E ⟨tm, ob⟩ op o.type with
      | some (p, t) => bif Nat.blt d N.n then forceT t fun t' => next p (upd tm d t') ob else stop
      | none => stop
    | none, _ => stop
  else stop

def runOps (E : Env) (N : Nm) (G : List Nat) (ops : List Oper) : List Oper → (Nat → T) → List Ob → List Prop → Out
  | [], tm, ob, ps => ⟨ps, [], tm, ob⟩
  | o :: l, tm, ob, ps => stepOp E N G ops o tm ob (fun p tm' ob' => runOps E N G ops l tm' ob' (p :: ps)) ⟨ps, o :: l, tm, ob⟩

section
variable {E : Env} {N : Nm} {G : List Nat} {Q : Exit → St → Prop} {ops : List Oper}

theorem stepOp_ok {M : Out → Prop} {o : Oper} {l : List Oper} {tm : Nat → T} {ob : List Ob} {next : Prop → (Nat → T) → List Ob → Out} {stop : Out}
    (hstop : M stop)
    (hnext : ∀ p tm' ob', (p → WG G E.P N ops l Q ⟨tm', ob'⟩ → WG G E.P N ops (o :: l) Q ⟨tm, ob⟩) → M (next p tm' ob')) :
    M (stepOp E N G ops o tm ob next stop) := by
  obtain ⟨dst, op, ty, pos, after, gd⟩ := o
  unfold stepOp
  cases hG : openG G ⟨dst, op, ty, pos, after, gd⟩ with
  | false => exact hstop
  | true =>
  rw [cond_true]
  split
  · exact hstop
  · rename_i hw
    split
    · rename_i d hd
      simp only at hd
      subst hd
      cases hb : Nat.blt d N.n with
      | false => exact hstop
      | true => exact hnext _ _ _ fun _ k => WG.p hw hb k
    · rename_i hd
      simp only at hd
      subst hd
      exact hnext _ _ _ fun _ k => WG.px hw k
  · rename_i hw
    split
    · rename_i d t hd hop
      simp only at hd hop
      subst hd; subst hop
      cases hb : (Nat.blt d N.n && (E.ty t).known) with
      | false => exact hstop
      | true =>
        simp only [Bool.and_eq_true] at hb
        simp only [cond_true, forceN_eq, forceTs_eq]
        exact hnext _ _ _ fun _ k => WG.al hw hb.1 hb.2 rfl rfl k
    · rename_i d t x hd hop
      simp only at hd hop
      subst hd; subst hop
      split
      · rename_i cs hcs
        rw [forceTs_eq]
        cases hb : (Nat.blt d N.n && onesT cs && cursT ob cs) with
        | false => exact hstop
        | true =>
          simp only [Bool.and_eq_true] at hb
          simp only [cond_true, forceN_eq]
          exact hnext _ _ _ fun _ k => WG.bx hw hb.1.1 hcs hb.1.2 hb.2 rfl k
      · exact hstop
    · rename_i t x v hd hop
      simp only at hd hop
      subst hd; subst hop
      split
      · rename_i j off hx
        split
        · rename_i cs hj
          split
          · rename_i vals hv
            cases hb : ((E.ty t).known && Nat.beq vals.length (E.ty t).size && Nat.ble (off + vals.length) cs.length && onesT vals && cursT ob vals) with
            | false => exact hstop
            | true =>
              simp only [Bool.and_eq_true] at hb
              obtain ⟨⟨⟨⟨b1, b2⟩, b3⟩, b4⟩, b5⟩ := hb
              simp only [cond_true, forceTs_eq]
              exact hnext _ _ _ fun _ k => WG.st hw b1 hx hj hv b2 b3 b4 b5 k
          · exact hstop
        · exact hstop
      · exact hstop
    · rename_i d t parts hd hop
      simp only at hd hop
      subst hd; subst hop
      split
      · rename_i cs hcs
        cases hb : (Nat.blt d N.n && (E.ty t).agg) with
        | false => exact hstop
        | true =>
          simp only [Bool.and_eq_true] at hb
          simp only [cond_true, forceT_eq]
          obtain ⟨pl⟩ := parts
          exact hnext _ _ _ fun _ k => WG.bd hw hb.1 hb.2 hcs rfl k
      · exact hstop
    · rename_i d t len parts hd hop
      simp only at hd hop
      subst hd; subst hop
      split
      · rename_i e he
        split
        · rename_i rows hrows
          cases hb : (Nat.blt d N.n && (E.ty e).known && Nat.blt 0 (E.ty e).size && Nat.beq len parts.toList.length && Nat.ble (len * (E.ty e).size) 16777216 && widths (E.ty e).size rows) with
          | false => exact hstop
          | true =>
            simp only [Bool.and_eq_true] at hb
            obtain ⟨⟨⟨⟨⟨b1, b2⟩, b3⟩, b4⟩, b5⟩, b6⟩ := hb
            simp only [cond_true, forceN_eq]
            obtain ⟨pl⟩ := parts
            exact hnext _ _ _ fun _ k => WG.bs hw b1 he b2 rfl b3 b4 b5 hrows b6 rfl k
        · exact hstop
      · exact hstop
    · rename_i op' d hd h2 h3 h4 h5
      simp only at hd
      subst hd
      split
      · rename_i p t hev
        cases hb : Nat.blt d N.n with
        | false => exact hstop
        | true =>
          simp only [cond_true, forceT_eq]
          exact hnext _ _ _ fun hp k => WG.s hw hb hev hp k
      · exact hstop
    · exact hstop

theorem runOps_ok : ∀ (l : List Oper) (tm : Nat → T) (ob : List Ob) (ps : List Prop), AllP (runOps E N G ops l tm ob ps).conds →
    AllP ps ∧ (WG G E.P N ops (runOps E N G ops l tm ob ps).rest Q ⟨(runOps E N G ops l tm ob ps).tm, (runOps E N G ops l tm ob ps).ob⟩ → WG G E.P N ops l Q ⟨tm, ob⟩)
  | [], tm, ob, ps => fun h => ⟨h, fun k => k⟩
  | o :: l, tm, ob, ps => by
    unfold runOps
    refine stepOp_ok (Q := Q) (l := l) (M := fun r => AllP r.conds → AllP ps ∧ (WG G E.P N ops r.rest Q ⟨r.tm, r.ob⟩ → WG G E.P N ops (o :: l) Q ⟨tm, ob⟩)) (fun h => ⟨h, fun k => k⟩) fun p tm' ob' hk h => ?_
    obtain ⟨h1, h2⟩ := runOps_ok l tm' ob' (p :: ps) h
    exact ⟨h1.2, fun k => hk h1.1 (h2 k)⟩

/-- Many operations in one step. -/
theorem WG.run {l l' : List Oper} {tm tm' : Nat → T} {ob ob' : List Ob} {ps : List Prop} (h : runOps E N G ops l tm ob [] = ⟨ps, l', tm', ob'⟩) (hlen : Nat.blt l'.length l.length = true) (hp : AllP ps) (k : WG G E.P N ops l' Q ⟨tm', ob'⟩) : WG G E.P N ops l Q ⟨tm, ob⟩ := by
  have := runOps_ok (E := E) (N := N) (G := G) (ops := ops) (Q := Q) l tm ob []
  rw [h] at this
  exact (this hp).2 k
theorem WG.run' {l l' : List Oper} {tm tm' : Nat → T} {ob ob' : List Ob} {ps : List Prop} (k : WG G E.P N ops l' Q ⟨tm', ob'⟩)
    (h : runOps E N G ops l tm ob [] = ⟨ps, l', tm', ob'⟩ := by exact rfl) (hlen : Nat.blt l'.length l.length = true := by exact rfl) (hp : AllP ps := by repeat (first | exact trivial | refine ⟨trivial, ?_⟩ | refine ⟨by first | exact trivial | (simp only [inRange, List.length_map]; omega) | omega | assumption, ?_⟩)) : WG G E.P N ops l Q ⟨tm, ob⟩ :=
  WG.run h hlen hp k

end
end Go.Proofs.Yteooogngdejdgaa
