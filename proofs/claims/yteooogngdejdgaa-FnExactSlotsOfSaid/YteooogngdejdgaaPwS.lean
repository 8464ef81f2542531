/-
  The small logic, nineteenth part: the rules for regions that draw their order. Conditions: none.
-/
import Derived.Test.YteooogngdejdgaaPwR
set_option linter.unusedVariables false
set_option linter.unusedSimpArgs false
namespace Go.Proofs.Yteooogngdejdgaa
open Go.RowKit

section
variable {P : Program} {E : Env} {N : Nm} {K : St → Prop} {tm tm' : Nat → T} {ob : List Ob} {ops l : List Oper} {o : Oper} {op : Op} {ty : TypeId} {pos : String} {after : Array Edge} {gd : Option (Nat × Bool)} {d : Nat} {dst : Option Nat}

theorem ev_agree (h : ∀ s ∈ o.looksAt ops.toArray, tm' s = tm s) {x : Operand} (hx : x ∈ o.op.operands.toList) : St.ev ⟨tm', ob⟩ x = St.ev ⟨tm, ob⟩ x := by
  cases x with
  | tmp t =>
    refine h t ?_
    unfold Oper.looksAt
    exact List.mem_append_left _ (List.mem_filterMap.2 ⟨.tmp t, hx, rfl⟩)
  | const v => rfl
  | func f => rfl
  | global k => rfl

theorem want_agree (h : ∀ s ∈ o.looksAt ops.toArray, tm' s = tm s) : St.want ⟨tm', ob⟩ ops o = St.want ⟨tm, ob⟩ ops o := by
  unfold St.want
  cases hg : o.guard with
  | none => rfl
  | some p =>
    obtain ⟨j, b⟩ := p
    simp only []
    cases hj : ops[j]? with
    | none => rfl
    | some q =>
      simp only []
      cases hd : q.dst with
      | none => rfl
      | some d =>
        have : tm' d = tm d := by
          refine h d ?_
          unfold Oper.looksAt
          refine List.mem_append_right _ ?_
          rw [hg]
          simp [hj, hd]
        simp only [this]

theorem ev1_agree {S S' : St} (hob : S'.ob = S.ob) (h : ∀ x ∈ op.operands.toList, S'.ev x = S.ev x) : ev1 E S' op ty = ev1 E S op ty := by
  cases op with
  | move x => simp only [ev1]; rw [h x (by simp [Op.operands])]
  | assign x => simp only [ev1]; rw [h x (by simp [Op.operands])]
  | pick c a b => simp only [ev1]; rw [h c (by simp [Op.operands]), h a (by simp [Op.operands]), h b (by simp [Op.operands])]
  | binOp bo t x y yt => simp only [ev1]; rw [h x (by simp [Op.operands]), h y (by simp [Op.operands])]
  | unOp uo t x => simp only [ev1]; rw [h x (by simp [Op.operands])]
  | convert s t x => simp only [ev1]; rw [h x (by simp [Op.operands])]
  | fieldAddr s x f => simp only [ev1]; rw [h x (by simp [Op.operands])]
  | field s x f => simp only [ev1]; rw [h x (by simp [Op.operands])]
  | load t x =>
    simp only [ev1]
    rw [h x (by simp [Op.operands])]
    unfold evLoad
    rw [hob]
  | extract x i => simp only [ev1]; rw [h x (by simp [Op.operands])]
  | index t x i => simp only [ev1]; rw [h x (by simp [Op.operands]), h i (by simp [Op.operands])]
  | makeFunc fn first cap =>
    simp only [ev1]
    have : cap.toList.map S'.ev = cap.toList.map S.ev := List.map_congr_left fun x hx => h x (by simp only [Op.operands, Array.toList_append, List.mem_append]; exact .inr hx)
    rw [this]
  | nilCheck x => simp only [ev1]; rw [h x (by simp [Op.operands])]
  | call c =>
    obtain ⟨callee, args, ts⟩ := c
    cases callee with
    | value f => rfl
    | invoke r m => rfl
    | builtin b =>
      have hx : ∀ x ∈ args.toList, S'.ev x = S.ev x := fun x hx => h x (by simp only [Op.operands, Call.operands, Array.toList_append, List.mem_append]; exact .inr hx)
      cases b <;> simp only [ev1]
      · split
        · rename_i x t hargs _
          rw [hx x (by rw [hargs]; simp)]
          unfold evLen
          rw [hob]
        · rfl
      · split
        · rename_i x y hargs
          rw [hx x (by rw [hargs]; simp), hx y (by rw [hargs]; simp)]
        · rfl
      · split
        · rename_i x y hargs
          rw [hx x (by rw [hargs]; simp), hx y (by rw [hargs]; simp)]
        · rfl
  | _ => rfl

theorem argsOf_agree {S S' : St} (hob : S'.ob = S.ob) : ∀ {xs : List Operand} {ts : List TypeId}, (∀ x ∈ xs, S'.ev x = S.ev x) → argsOf E S' xs ts = argsOf E S xs ts
  | [], _, _ => rfl
  | x :: xs, ts, h => by
    simp only [argsOf]
    rw [h x (List.mem_cons_self ..), argsOf_agree hob fun y hy => h y (List.mem_cons_of_mem _ hy), hob]

theorem argsT_agree {S S' : St} (hob : S'.ob = S.ob) (lend : Bool) : ∀ {xs : List Operand} {ts : List TypeId}, (∀ x ∈ xs, S'.ev x = S.ev x) → argsT E S' lend xs ts = argsT E S lend xs ts
  | [], _, _ => rfl
  | x :: xs, ts, h => by
    simp only [argsT]
    rw [h x (List.mem_cons_self ..), argsT_agree hob lend fun y hy => h y (List.mem_cons_of_mem _ hy), hob]

theorem WD.s {p : Prop} {t : T} (hw : St.want ⟨tm, ob⟩ ops ⟨some d, op, ty, pos, after, gd⟩ = some true) (hd : Nat.blt d N.n = true) (h : ev1 E ⟨tm, ob⟩ op ty = some (p, t)) (hp : p)
    (k : WD E.P N ops ob K l (upd tm d t)) : WD E.P N ops ob K (⟨some d, op, ty, pos, after, gd⟩ :: l) tm :=
  .cons t (fun tm' hag l Q k' => WL.simple (S := ⟨tm', ob⟩) (by rw [want_agree hag]; exact hw) hd (by rw [ev1_agree (S := ⟨tm, ob⟩) (S' := ⟨tm', ob⟩) rfl fun x hx => ev_agree hag hx]; exact h) hp k') k
theorem WD.s' {p : Prop} {t : T} (k : WD E.P N ops ob K l (upd tm d t))
    (hw : St.want ⟨tm, ob⟩ ops ⟨some d, op, ty, pos, after, gd⟩ = some true := by exact rfl) (hd : Nat.blt d N.n = true := by exact rfl) (h : ev1 E ⟨tm, ob⟩ op ty = some (p, t) := by exact rfl) (hp : p := by first | exact trivial | (simp only [inRange, List.length_map]; omega) | omega | assumption) : WD E.P N ops ob K (⟨some d, op, ty, pos, after, gd⟩ :: l) tm :=
  WD.s hw hd h hp k

theorem WD.p (hw : St.want ⟨tm, ob⟩ ops ⟨some d, op, ty, pos, after, gd⟩ = some false) (hd : Nat.blt d N.n = true)
    (k : WD P N ops ob K l (upd tm d (.d (.v undef)))) : WD P N ops ob K (⟨some d, op, ty, pos, after, gd⟩ :: l) tm :=
  .cons (.d (.v undef)) (fun tm' hag l Q k' => WL.pass (S := ⟨tm', ob⟩) (by rw [want_agree hag]; exact hw) hd k') k
theorem WD.p'  (k : WD P N ops ob K l (upd tm d (.d (.v undef))))
    (hw : St.want ⟨tm, ob⟩ ops ⟨some d, op, ty, pos, after, gd⟩ = some false := by exact rfl) (hd : Nat.blt d N.n = true := by exact rfl) : WD P N ops ob K (⟨some d, op, ty, pos, after, gd⟩ :: l) tm :=
  WD.p hw hd k

theorem WD.px (hw : St.want ⟨tm, ob⟩ ops ⟨none, op, ty, pos, after, gd⟩ = some false)
    (k : WD P N ops ob K l tm) : WD P N ops ob K (⟨none, op, ty, pos, after, gd⟩ :: l) tm :=
  .cons .any (fun tm' hag l Q k' => WL.passx (S := ⟨tm', ob⟩) (by rw [want_agree hag]; exact hw) k') k
theorem WD.px'  (k : WD P N ops ob K l tm)
    (hw : St.want ⟨tm, ob⟩ ops ⟨none, op, ty, pos, after, gd⟩ = some false := by exact rfl) : WD P N ops ob K (⟨none, op, ty, pos, after, gd⟩ :: l) tm :=
  WD.px hw k

theorem WD.sp {p : Oper} {j : Nat} {b c : Bool} (hg : o.guard = some (j, b)) (hp : ops[j]? = some p) (hd : p.dst = some d) (hc : tm d = .d (.v (.bool c)))
    (ht : c = true → WD P N ops ob K (o :: l) (upd tm d (.d (.v (.bool true))))) (hf : c = false → WD P N ops ob K (o :: l) (upd tm d (.d (.v (.bool false))))) :
    WD P N ops ob K (o :: l) tm := by
  cases c with
  | true => have := ht rfl; rwa [← hc, upd_self] at this
  | false => have := hf rfl; rwa [← hc, upd_self] at this
theorem WD.sp' {p : Oper} {j : Nat} {b c : Bool} (ht : c = true → WD P N ops ob K (o :: l) (upd tm d (.d (.v (.bool true))))) (hf : c = false → WD P N ops ob K (o :: l) (upd tm d (.d (.v (.bool false)))))
    (hg : o.guard = some (j, b) := by exact rfl) (hp : ops[j]? = some p := by exact rfl) (hd : p.dst = some d := by exact rfl) (hc : tm d = .d (.v (.bool c)) := by exact rfl) : WD P N ops ob K (o :: l) tm :=
  WD.sp hg hp hd hc ht hf

theorem WD.ix {t e : TypeId} {x ix : Operand} {z : Nat} {rows : List (List D)} {k : IntKind} {i : Int} {r : List D} (hw : St.want ⟨tm, ob⟩ ops ⟨some d, .indexAddr t x ix, ty, pos, after, gd⟩ = some true) (hd : Nat.blt d N.n = true)
    (ht : (E.ty t).kind = .slice e) (he : (E.ty e).known = true) (hz : (E.ty e).size = z) (hx : norm ob (St.ev ⟨tm, ob⟩ x) = .d (.sl z rows)) (hi : St.ev ⟨tm, ob⟩ ix = .d (.v (.int k i)))
    (hb : 0 ≤ i ∧ i < rows.length) (hr : rows[i.toNat]? = some r)
    (kk : WD E.P N ops ob K l (upd tm d (.ea r 0))) : WD E.P N ops ob K (⟨some d, .indexAddr t x ix, ty, pos, after, gd⟩ :: l) tm :=
  .cons (.ea r 0) (fun tm' hag l Q k' => WL.index (S := ⟨tm', ob⟩) (by rw [want_agree hag]; exact hw) hd ht he hz (by rw [ev_agree hag (by simp [Op.operands])]; exact hx) (by rw [ev_agree hag (by simp [Op.operands])]; exact hi) hb hr k') kk

theorem WD.ixm {α : Type} [Inhabited α] {f f' : α → List D} {xs : List α} {t e : TypeId} {x ix : Operand} {z : Nat} {k : IntKind} {i : Int} (hw : St.want ⟨tm, ob⟩ ops ⟨some d, .indexAddr t x ix, ty, pos, after, gd⟩ = some true) (hd : Nat.blt d N.n = true)
    (ht : (E.ty t).kind = .slice e) (he : (E.ty e).known = true) (hz : (E.ty e).size = z) (hx : norm ob (St.ev ⟨tm, ob⟩ x) = .d (.sl z (xs.map f))) (hi : St.ev ⟨tm, ob⟩ ix = .d (.v (.int k i)))
    (hf : ∀ x, f x = f' x) (hb : 0 ≤ i ∧ i < xs.length)
    (kk : WD E.P N ops ob K l (upd tm d (.ea (f' (xs.getD i.toNat default)) 0))) : WD E.P N ops ob K (⟨some d, .indexAddr t x ix, ty, pos, after, gd⟩ :: l) tm := by
  have hlt : i.toNat < xs.length := by omega
  exact WD.ix hw hd ht he hz hx hi (by simpa using hb) (by rw [← hf]; simp [hlt]) kk
theorem WD.ixm' {α : Type} [Inhabited α] {f f' : α → List D} {xs : List α} {t e : TypeId} {x ix : Operand} {z : Nat} {k : IntKind} {i : Int} (kk : WD E.P N ops ob K l (upd tm d (.ea (f' (xs.getD i.toNat default)) 0)))
    (hw : St.want ⟨tm, ob⟩ ops ⟨some d, .indexAddr t x ix, ty, pos, after, gd⟩ = some true := by exact rfl) (hd : Nat.blt d N.n = true := by exact rfl) (ht : (E.ty t).kind = .slice e := by exact rfl) (he : (E.ty e).known = true := by exact rfl) (hz : (E.ty e).size = z := by exact rfl) (hx : norm ob (St.ev ⟨tm, ob⟩ x) = .d (.sl z (xs.map f)) := by exact rfl) (hi : St.ev ⟨tm, ob⟩ ix = .d (.v (.int k i)) := by exact rfl) (hf : ∀ x, f x = f' x := by exact fun _ => rfl) (hb : 0 ≤ i ∧ i < xs.length := by first | exact trivial | (simp only [inRange, List.length_map]; omega) | omega | assumption) : WD E.P N ops ob K (⟨some d, .indexAddr t x ix, ty, pos, after, gd⟩ :: l) tm :=
  WD.ixm hw hd ht he hz hx hi hf hb kk

theorem WD.slD {t e : TypeId} {x : Operand} {lo hi : Option Operand} {z : Nat} {rows : List (List D)} {li hh : Int} (hw : St.want ⟨tm, ob⟩ ops ⟨some d, .slice t x lo hi none, ty, pos, after, gd⟩ = some true) (hd : Nat.blt d N.n = true)
    (ht : (E.ty t).kind = .slice e) (he : (E.ty e).known = true) (hz : (E.ty e).size = z) (hx : norm ob (St.ev ⟨tm, ob⟩ x) = .d (.sl z rows)) (hlo : evLow ⟨tm, ob⟩ lo = some li)
    (hhi : evBound ⟨tm, ob⟩ rows.length hi = some hh) (hb : 0 ≤ li ∧ li ≤ hh ∧ hh ≤ rows.length)
    (kk : WD E.P N ops ob K l (upd tm d (.d (.sl z ((rows.drop li.toNat).take (hh.toNat - li.toNat)))))) : WD E.P N ops ob K (⟨some d, .slice t x lo hi none, ty, pos, after, gd⟩ :: l) tm :=
  .cons _ (fun tm' hag l Q k' => by
    refine WL.sliceD (S := ⟨tm', ob⟩) (by rw [want_agree hag]; exact hw) hd ht he hz (by rw [ev_agree hag (by simp [Op.operands])]; exact hx) (li := li) (hh := hh) ?_ ?_ hb k'
    · cases lo with
      | none => exact hlo
      | some y => simp only [evLow, evBound] at hlo ⊢; rw [ev_agree hag (by simp [Op.operands])]; exact hlo
    · cases hi with
      | none => exact hhi
      | some y => simp only [evBound] at hhi ⊢; rw [ev_agree hag (by simp [Op.operands])]; exact hhi) kk
theorem WD.slD' {t e : TypeId} {x : Operand} {lo hi : Option Operand} {z : Nat} {rows : List (List D)} {li hh : Int} (kk : WD E.P N ops ob K l (upd tm d (.d (.sl z ((rows.drop li.toNat).take (hh.toNat - li.toNat))))))
    (hw : St.want ⟨tm, ob⟩ ops ⟨some d, .slice t x lo hi none, ty, pos, after, gd⟩ = some true := by exact rfl) (hd : Nat.blt d N.n = true := by exact rfl) (ht : (E.ty t).kind = .slice e := by exact rfl) (he : (E.ty e).known = true := by exact rfl) (hz : (E.ty e).size = z := by exact rfl) (hx : norm ob (St.ev ⟨tm, ob⟩ x) = .d (.sl z rows) := by exact rfl) (hlo : evLow ⟨tm, ob⟩ lo = some li := by exact rfl) (hhi : evBound ⟨tm, ob⟩ rows.length hi = some hh := by exact rfl) (hb : 0 ≤ li ∧ li ≤ hh ∧ hh ≤ rows.length := by first | omega | (simp only [List.length_map, List.length_append, List.length_cons, List.length_nil] at *; omega)) : WD E.P N ops ob K (⟨some d, .slice t x lo hi none, ty, pos, after, gd⟩ :: l) tm :=
  WD.slD hw hd ht he hz hx hlo hhi hb kk

theorem WD.slS {t : TypeId} {x : Operand} {lo hi : Option Operand} {s : ByteArray} {li hh : Int} (hw : St.want ⟨tm, ob⟩ ops ⟨some d, .slice t x lo hi none, ty, pos, after, gd⟩ = some true) (hd : Nat.blt d N.n = true)
    (ht : (E.ty t).kind = .string) (hx : St.ev ⟨tm, ob⟩ x = .d (.v (.string s))) (hlo : evLow ⟨tm, ob⟩ lo = some li)
    (hhi : evBound ⟨tm, ob⟩ s.size hi = some hh) (hb : 0 ≤ li ∧ li ≤ hh ∧ hh ≤ s.size)
    (kk : WD E.P N ops ob K l (upd tm d (.d (.v (.string (s.extract li.toNat hh.toNat)))))) : WD E.P N ops ob K (⟨some d, .slice t x lo hi none, ty, pos, after, gd⟩ :: l) tm :=
  .cons _ (fun tm' hag l Q k' => by
    refine WL.sliceS (S := ⟨tm', ob⟩) (by rw [want_agree hag]; exact hw) hd ht (by rw [ev_agree hag (by simp [Op.operands])]; exact hx) (li := li) (hh := hh) ?_ ?_ hb k'
    · cases lo with
      | none => exact hlo
      | some y => simp only [evLow, evBound] at hlo ⊢; rw [ev_agree hag (by simp [Op.operands])]; exact hlo
    · cases hi with
      | none => exact hhi
      | some y => simp only [evBound] at hhi ⊢; rw [ev_agree hag (by simp [Op.operands])]; exact hhi) kk
theorem WD.slS' {t : TypeId} {x : Operand} {lo hi : Option Operand} {s : ByteArray} {li hh : Int} (kk : WD E.P N ops ob K l (upd tm d (.d (.v (.string (s.extract li.toNat hh.toNat))))))
    (hw : St.want ⟨tm, ob⟩ ops ⟨some d, .slice t x lo hi none, ty, pos, after, gd⟩ = some true := by exact rfl) (hd : Nat.blt d N.n = true := by exact rfl) (ht : (E.ty t).kind = .string := by exact rfl) (hx : St.ev ⟨tm, ob⟩ x = .d (.v (.string s)) := by exact rfl) (hlo : evLow ⟨tm, ob⟩ lo = some li := by exact rfl) (hhi : evBound ⟨tm, ob⟩ s.size hi = some hh := by exact rfl) (hb : 0 ≤ li ∧ li ≤ hh ∧ hh ≤ s.size := by first | omega | (simp only [List.length_map, List.length_append, List.length_cons, List.length_nil] at *; omega)) : WD E.P N ops ob K (⟨some d, .slice t x lo hi none, ty, pos, after, gd⟩ :: l) tm :=
  WD.slS hw hd ht hx hlo hhi hb kk

theorem WD.ixo {t e : TypeId} {x ix : Operand} {z : Nat} {e' : TypeId} {rows : List (List D)} {n m : Nat} {pub : Bool} {k : IntKind} {i : Int} (hw : St.want ⟨tm, ob⟩ ops ⟨some d, .indexAddr t x ix, ty, pos, after, gd⟩ = some true) (hd : Nat.blt d N.n = true)
    (ht : (E.ty t).kind = .slice e) (he : (E.ty e).known = true) (hz : (E.ty e).size = z) (hx : St.ev ⟨tm, ob⟩ x = .og m n) (hm : ob[m]? = some (.gr z e' rows n pub)) (hi : St.ev ⟨tm, ob⟩ ix = .d (.v (.int k i)))
    (hb : 0 ≤ i ∧ i < rows.length)
    (kk : WD E.P N ops ob K l (upd tm d (.eg m n z i.toNat 0))) : WD E.P N ops ob K (⟨some d, .indexAddr t x ix, ty, pos, after, gd⟩ :: l) tm :=
  .cons _ (fun tm' hag l Q k' => WL.indexOg (S := ⟨tm', ob⟩) (by rw [want_agree hag]; exact hw) hd ht he hz (by rw [ev_agree hag (by simp [Op.operands])]; exact hx) hm (by rw [ev_agree hag (by simp [Op.operands])]; exact hi) hb k') kk
theorem WD.ixo' {t e : TypeId} {x ix : Operand} {z : Nat} {e' : TypeId} {rows : List (List D)} {n m : Nat} {pub : Bool} {k : IntKind} {i : Int} (kk : WD E.P N ops ob K l (upd tm d (.eg m n z i.toNat 0)))
    (hw : St.want ⟨tm, ob⟩ ops ⟨some d, .indexAddr t x ix, ty, pos, after, gd⟩ = some true := by exact rfl) (hd : Nat.blt d N.n = true := by exact rfl) (ht : (E.ty t).kind = .slice e := by exact rfl) (he : (E.ty e).known = true := by exact rfl) (hz : (E.ty e).size = z := by exact rfl) (hx : St.ev ⟨tm, ob⟩ x = .og m n := by exact rfl) (hm : ob[m]? = some (.gr z e' rows n pub) := by exact rfl) (hi : St.ev ⟨tm, ob⟩ ix = .d (.v (.int k i)) := by exact rfl) (hb : 0 ≤ i ∧ i < rows.length := by first | exact trivial | (simp only [inRange, List.length_map]; omega) | omega | assumption) : WD E.P N ops ob K (⟨some d, .indexAddr t x ix, ty, pos, after, gd⟩ :: l) tm :=
  WD.ixo hw hd ht he hz hx hm hi hb kk

theorem WD.leg {t : TypeId} {x : Operand} {z : Nat} {e' : TypeId} {rows : List (List D)} {n m i off : Nat} {pub : Bool} {r : List D} {res : D} (hw : St.want ⟨tm, ob⟩ ops ⟨some d, .load t x, ty, pos, after, gd⟩ = some true) (hd : Nat.blt d N.n = true)
    (hk : (E.ty t).known = true) (hx : St.ev ⟨tm, ob⟩ x = .eg m n z i off) (hm : ob[m]? = some (.gr z e' rows n pub)) (hr : rows[i]? = some r)
    (hres : (bif (E.ty t).agg then (bif Nat.ble (off + (E.ty t).size) r.length then some (.agg ((r.drop off).take (E.ty t).size)) else none) else r[off]?) = some res)
    (kk : WD E.P N ops ob K l (upd tm d (.d res))) : WD E.P N ops ob K (⟨some d, .load t x, ty, pos, after, gd⟩ :: l) tm :=
  .cons _ (fun tm' hag l Q k' => WL.loadEg (S := ⟨tm', ob⟩) (by rw [want_agree hag]; exact hw) hd hk (by rw [ev_agree hag (by simp [Op.operands])]; exact hx) hm hr hres k') kk

theorem WD.legm {α : Type} [Inhabited α] {f f' : α → List D} {xs : List α} {t : TypeId} {x : Operand} {z : Nat} {e' : TypeId} {n m i off : Nat} {pub : Bool} {res : D} (hw : St.want ⟨tm, ob⟩ ops ⟨some d, .load t x, ty, pos, after, gd⟩ = some true) (hd : Nat.blt d N.n = true)
    (hk : (E.ty t).known = true) (hx : St.ev ⟨tm, ob⟩ x = .eg m n z i off) (hm : ob[m]? = some (.gr z e' (xs.map f) n pub)) (hf : ∀ x, f x = f' x) (hi : i < xs.length)
    (hres : (bif (E.ty t).agg then (bif Nat.ble (off + (E.ty t).size) (f' (xs.getD i default)).length then some (.agg (((f' (xs.getD i default)).drop off).take (E.ty t).size)) else none) else (f' (xs.getD i default))[off]?) = some res)
    (kk : WD E.P N ops ob K l (upd tm d (.d res))) : WD E.P N ops ob K (⟨some d, .load t x, ty, pos, after, gd⟩ :: l) tm :=
  WD.leg hw hd hk hx hm (r := f' (xs.getD i default)) (by rw [← hf]; simp [hi]) hres kk
theorem WD.legm' {α : Type} [Inhabited α] {f f' : α → List D} {xs : List α} {t : TypeId} {x : Operand} {z : Nat} {e' : TypeId} {n m i off : Nat} {pub : Bool} {res : D} (kk : WD E.P N ops ob K l (upd tm d (.d res)))
    (hw : St.want ⟨tm, ob⟩ ops ⟨some d, .load t x, ty, pos, after, gd⟩ = some true := by exact rfl) (hd : Nat.blt d N.n = true := by exact rfl) (hk : (E.ty t).known = true := by exact rfl) (hx : St.ev ⟨tm, ob⟩ x = .eg m n z i off := by exact rfl) (hm : ob[m]? = some (.gr z e' (xs.map f) n pub) := by exact rfl) (hf : ∀ x, f x = f' x := by exact fun _ => rfl) (hi : i < xs.length := by first | exact trivial | (simp only [inRange, List.length_map]; omega) | omega | assumption) (hres : (bif (E.ty t).agg then (bif Nat.ble (off + (E.ty t).size) (f' (xs.getD i default)).length then some (.agg (((f' (xs.getD i default)).drop off).take (E.ty t).size)) else none) else (f' (xs.getD i default))[off]?) = some res := by exact rfl) : WD E.P N ops ob K (⟨some d, .load t x, ty, pos, after, gd⟩ :: l) tm :=
  WD.legm hw hd hk hx hm hf hi hres kk

/-- a call whose result is data -/
theorem WD.c {f : FuncId} {xs : List Operand} {tys : List TypeId} {args : List D} {t : T} (hw : St.want ⟨tm, ob⟩ ops ⟨some d, .call ⟨.value (.func f), xs.toArray, tys.toArray⟩, ty, pos, after, gd⟩ = some true) (hd : Nat.blt d N.n = true)
    (hc : Fun E.P f args t []) (hu : t.under 0 = true) (ha : argsOf E ⟨tm, ob⟩ xs tys = some args)
    (k : WD E.P N ops ob K l (upd tm d t)) : WD E.P N ops ob K (⟨some d, .call ⟨.value (.func f), xs.toArray, tys.toArray⟩, ty, pos, after, gd⟩ :: l) tm :=
  .cons t (fun tm' hag l Q k' => WG.c (G := []) (by rw [want_agree hag]; exact hw) hd hc hu (by rw [argsOf_agree (S := ⟨tm, ob⟩) (S' := ⟨tm', ob⟩) rfl fun x hx => ev_agree hag (by simp only [Op.operands, Call.operands, Array.toList_append, List.mem_append]; exact .inr (by simpa using hx))]; exact ha) k') k
theorem WD.c' {f : FuncId} {xs : List Operand} {tys : List TypeId} {args : List D} {t : T} (hc : Fun E.P f args t []) (k : WD E.P N ops ob K l (upd tm d t))
    (hw : St.want ⟨tm, ob⟩ ops ⟨some d, .call ⟨.value (.func f), xs.toArray, tys.toArray⟩, ty, pos, after, gd⟩ = some true := by exact rfl) (hd : Nat.blt d N.n = true := by exact rfl) (hu : t.under 0 = true := by exact rfl) (ha : argsOf E ⟨tm, ob⟩ xs tys = some args := by exact rfl) : WD E.P N ops ob K (⟨some d, .call ⟨.value (.func f), xs.toArray, tys.toArray⟩, ty, pos, after, gd⟩ :: l) tm :=
  WD.c hw hd hc hu ha k

/-- a call by a contract of one outcome that leaves the objects as they are; slices of the call's own are lent to be read -/
theorem WD.cl {f : FuncId} {fop : Operand} {xs : List Operand} {tys : List TypeId} {cap args : List T} {t t' : T} {KK : Nat} (lend : Bool) (hw : St.want ⟨tm, ob⟩ ops ⟨some d, .call ⟨.value fop, xs.toArray, tys.toArray⟩, ty, pos, after, gd⟩ = some true) (hd : Nat.blt d N.n = true)
    (hc : FunQ E.P f args [] (just t [])) (hclo : cloOf (norm ob (St.ev ⟨tm, ob⟩ fop)) = some (f, cap)) (hK : KK = ob.length) (ha : argsT E ⟨tm, ob⟩ lend xs tys ++ cap = T.renL ⟨[], [], KK⟩ args) (hlp : T.lpOKL ⟨[], [], KK⟩ args = true) (hfl : lend = true → t.flat = true)
    (ht : T.ren ⟨[], [], KK⟩ t = t')
    (k : WD E.P N ops ob K l (upd tm d t')) : WD E.P N ops ob K (⟨some d, .call ⟨.value fop, xs.toArray, tys.toArray⟩, ty, pos, after, gd⟩ :: l) tm :=
  .cons t' (fun tm' hag l Q k' => by
    have hfo : St.ev ⟨tm', ob⟩ fop = St.ev ⟨tm, ob⟩ fop := ev_agree hag (by simp only [Op.operands, Call.operands, Array.toList_append, List.mem_append]; exact .inl (by simp))
    refine WG.cq (G := []) (obB := []) (ob2 := ob) [] [] lend (by rw [want_agree hag]; exact hw) hd hc (by rw [hfo]; exact hclo) hK ?_ hlp rfl rfl rfl trivial (.inr rfl) rfl (fun h => ⟨hfl h, fun o ho => by cases ho⟩) ht (by simp [mergeO, renFrom]) k'
    rw [argsT_agree (S := ⟨tm, ob⟩) (S' := ⟨tm', ob⟩) rfl lend fun x hx => ev_agree hag (by simp only [Op.operands, Call.operands, Array.toList_append, List.mem_append]; exact .inr (by simpa using hx))]
    exact ha) k
end
end Go.Proofs.Yteooogngdejdgaa
