/-
  The small logic, texts W X Z Z2 Z3 in one. Conditions: none.
-/
import Derived.Test.YthaakpbdijhgiaaGreatDoorQTokensPgD
import Derived.Lib.LazyBuf
/- The small logic, twenty-third part: the rules for drawn regions with effects. Conditions: none. -/
section
set_option linter.unusedVariables false
set_option linter.unusedSimpArgs false
namespace Go.Proofs.YthaakpbdijhgiaaGreatDoor
open Go.RowKit

/-- One operation, from whatever state that agrees where it looks; the objects before and behind it. -/
def OpS1 (P : Program) (N : Nm) (ops : List Oper) (o : Oper) (tm : Nat → T) (t : T) (ob ob' : List Ob) : Prop :=
  ∀ tm' : Nat → T, (∀ s ∈ o.looksAt ops.toArray, tm' s = tm s) → ∀ (l : List Oper) (Q : Exit → St → Prop), WL P N ops l Q ⟨updO tm' o.dst t, ob'⟩ → WL P N ops (o :: l) Q ⟨tm', ob⟩

/-- Whether a bit is set (k = 1, 2, 4 ..). -/
def bt (f k : Nat) : Bool := f / k % 2 == 1

theorem AllF.n {p : Nat → Prop} : AllF [] p := trivial
theorem AllF.c {p : Nat → Prop} {f : Nat} {r : List Nat} (h : p f) (k : AllF r p) : AllF (f :: r) p := ⟨h, k⟩

section
variable {P : Program} {E : Env} {N : Nm} {K : (Nat → T) → Prop} {tm tm' : Nat → T} {ob ob' : List Ob} {ops l : List Oper} {o : Oper} {op : Op} {ty : TypeId} {pos : String} {after : Array Edge} {gd : Option (Nat × Bool)} {d w : Nat} {dst : Option Nat} {ps : List (Nat × List Nat)} {p : List Nat} {obF : Nat → List Ob}

theorem WE.mk (t : T) (h : AllF p fun f => OpS1 P N ops o tm t (obF f) (obF (f + w))) (k : WE P N ops obF K ps l (updO tm o.dst t)) : WE P N ops obF K ((w, p) :: ps) (o :: l) tm :=
  .cons t (fun f hf => h.at f hf) k
theorem WE.mkd (t : T) (k : WE P N ops obF K ps l (upd tm d t)) (h : AllF p fun f => OpS1 P N ops ⟨some d, op, ty, pos, after, gd⟩ tm t (obF f) (obF (f + w))) : WE P N ops obF K ((w, p) :: ps) (⟨some d, op, ty, pos, after, gd⟩ :: l) tm :=
  .mk t h k
theorem WE.sp {q : Oper} {j : Nat} {b c : Bool} (hg : o.guard = some (j, b)) (hp : ops[j]? = some q) (hd : q.dst = some d) (hc : tm d = .d (.v (.bool c)))
    (ht : c = true → WE P N ops obF K ps (o :: l) (upd tm d (.d (.v (.bool true))))) (hf : c = false → WE P N ops obF K ps (o :: l) (upd tm d (.d (.v (.bool false))))) :
    WE P N ops obF K ps (o :: l) tm := by
  cases c with
  | true => have := ht rfl; rwa [← hc, upd_self] at this
  | false => have := hf rfl; rwa [← hc, upd_self] at this

theorem OpS1.s {p : Prop} {t : T} (hw : St.want ⟨tm, ob⟩ ops ⟨some d, op, ty, pos, after, gd⟩ = some true) (hd : Nat.blt d N.n = true) (h : ev1 E ⟨tm, ob⟩ op ty = some (p, t)) (hp : p) :
    OpS1 E.P N ops ⟨some d, op, ty, pos, after, gd⟩ tm t ob ob := fun tm' hag l Q k' => WL.simple (S := ⟨tm', ob⟩) (by rw [want_agree hag]; exact hw) hd (by rw [ev1_agree (S := ⟨tm, ob⟩) (S' := ⟨tm', ob⟩) rfl fun x hx => ev_agree hag hx]; exact h) hp k'

theorem OpS1.pass (hw : St.want ⟨tm, ob⟩ ops ⟨some d, op, ty, pos, after, gd⟩ = some false) (hd : Nat.blt d N.n = true) :
    OpS1 P N ops ⟨some d, op, ty, pos, after, gd⟩ tm (.d (.v undef)) ob ob := fun tm' hag l Q k' => WL.pass (S := ⟨tm', ob⟩) (by rw [want_agree hag]; exact hw) hd k'

theorem OpS1.px (hw : St.want ⟨tm, ob⟩ ops ⟨none, op, ty, pos, after, gd⟩ = some false) :
    OpS1 P N ops ⟨none, op, ty, pos, after, gd⟩ tm .any ob ob := fun tm' hag l Q k' => WL.passx (S := ⟨tm', ob⟩) (by rw [want_agree hag]; exact hw) k'

theorem OpS1.ix {t e : TypeId} {x ix : Operand} {z : Nat} {rows : List (List D)} {k : IntKind} {i : Int} {r : List D} (hw : St.want ⟨tm, ob⟩ ops ⟨some d, .indexAddr t x ix, ty, pos, after, gd⟩ = some true) (hd : Nat.blt d N.n = true)
    (ht : (E.ty t).kind = .slice e) (he : (E.ty e).known = true) (hz : (E.ty e).size = z) (hx : norm ob (St.ev ⟨tm, ob⟩ x) = .d (.sl z rows)) (hi : St.ev ⟨tm, ob⟩ ix = .d (.v (.int k i)))
    (hb : 0 ≤ i ∧ i < rows.length) (hr : rows[i.toNat]? = some r) :
    OpS1 E.P N ops ⟨some d, .indexAddr t x ix, ty, pos, after, gd⟩ tm (.ea r 0) ob ob := fun tm' hag l Q k' => WL.index (S := ⟨tm', ob⟩) (by rw [want_agree hag]; exact hw) hd ht he hz (by rw [ev_agree hag (by simp [Op.operands])]; exact hx) (by rw [ev_agree hag (by simp [Op.operands])]; exact hi) hb hr k'

theorem OpS1.slD {t e : TypeId} {x : Operand} {lo hi : Option Operand} {z : Nat} {rows : List (List D)} {li hh : Int} (hw : St.want ⟨tm, ob⟩ ops ⟨some d, .slice t x lo hi none, ty, pos, after, gd⟩ = some true) (hd : Nat.blt d N.n = true)
    (ht : (E.ty t).kind = .slice e) (he : (E.ty e).known = true) (hz : (E.ty e).size = z) (hx : norm ob (St.ev ⟨tm, ob⟩ x) = .d (.sl z rows)) (hlo : evLow ⟨tm, ob⟩ lo = some li)
    (hhi : evBound ⟨tm, ob⟩ rows.length hi = some hh) (hb : 0 ≤ li ∧ li ≤ hh ∧ hh ≤ rows.length) :
    OpS1 E.P N ops ⟨some d, .slice t x lo hi none, ty, pos, after, gd⟩ tm (.d (.sl z ((rows.drop li.toNat).take (hh.toNat - li.toNat)))) ob ob := fun tm' hag l Q k' => by
    refine WL.sliceD (S := ⟨tm', ob⟩) (by rw [want_agree hag]; exact hw) hd ht he hz (by rw [ev_agree hag (by simp [Op.operands])]; exact hx) (li := li) (hh := hh) ?_ ?_ hb k'
    · cases lo with
      | none => exact hlo
      | some y => simp only [evLow, evBound] at hlo ⊢; rw [ev_agree hag (by simp [Op.operands])]; exact hlo
    · cases hi with
      | none => exact hhi
      | some y => simp only [evBound] at hhi ⊢; rw [ev_agree hag (by simp [Op.operands])]; exact hhi

theorem OpS1.slS {t : TypeId} {x : Operand} {lo hi : Option Operand} {s : ByteArray} {li hh : Int} (hw : St.want ⟨tm, ob⟩ ops ⟨some d, .slice t x lo hi none, ty, pos, after, gd⟩ = some true) (hd : Nat.blt d N.n = true)
    (ht : (E.ty t).kind = .string) (hx : St.ev ⟨tm, ob⟩ x = .d (.v (.string s))) (hlo : evLow ⟨tm, ob⟩ lo = some li)
    (hhi : evBound ⟨tm, ob⟩ s.size hi = some hh) (hb : 0 ≤ li ∧ li ≤ hh ∧ hh ≤ s.size) :
    OpS1 E.P N ops ⟨some d, .slice t x lo hi none, ty, pos, after, gd⟩ tm (.d (.v (.string (s.extract li.toNat hh.toNat)))) ob ob := fun tm' hag l Q k' => by
    refine WL.sliceS (S := ⟨tm', ob⟩) (by rw [want_agree hag]; exact hw) hd ht (by rw [ev_agree hag (by simp [Op.operands])]; exact hx) (li := li) (hh := hh) ?_ ?_ hb k'
    · cases lo with
      | none => exact hlo
      | some y => simp only [evLow, evBound] at hlo ⊢; rw [ev_agree hag (by simp [Op.operands])]; exact hlo
    · cases hi with
      | none => exact hhi
      | some y => simp only [evBound] at hhi ⊢; rw [ev_agree hag (by simp [Op.operands])]; exact hhi

theorem OpS1.ixo {t e : TypeId} {x ix : Operand} {z : Nat} {e' : TypeId} {rows : List (List D)} {n m : Nat} {pub : Bool} {k : IntKind} {i : Int} (hw : St.want ⟨tm, ob⟩ ops ⟨some d, .indexAddr t x ix, ty, pos, after, gd⟩ = some true) (hd : Nat.blt d N.n = true)
    (ht : (E.ty t).kind = .slice e) (he : (E.ty e).known = true) (hz : (E.ty e).size = z) (hx : St.ev ⟨tm, ob⟩ x = .og m n) (hm : ob[m]? = some (.gr z e' rows n pub)) (hi : St.ev ⟨tm, ob⟩ ix = .d (.v (.int k i)))
    (hb : 0 ≤ i ∧ i < rows.length) :
    OpS1 E.P N ops ⟨some d, .indexAddr t x ix, ty, pos, after, gd⟩ tm (.eg m n z i.toNat 0) ob ob := fun tm' hag l Q k' => WL.indexOg (S := ⟨tm', ob⟩) (by rw [want_agree hag]; exact hw) hd ht he hz (by rw [ev_agree hag (by simp [Op.operands])]; exact hx) hm (by rw [ev_agree hag (by simp [Op.operands])]; exact hi) hb k'

theorem OpS1.leg {t : TypeId} {x : Operand} {z : Nat} {e' : TypeId} {rows : List (List D)} {n m i off : Nat} {pub : Bool} {r : List D} {res : D} (hw : St.want ⟨tm, ob⟩ ops ⟨some d, .load t x, ty, pos, after, gd⟩ = some true) (hd : Nat.blt d N.n = true)
    (hk : (E.ty t).known = true) (hx : St.ev ⟨tm, ob⟩ x = .eg m n z i off) (hm : ob[m]? = some (.gr z e' rows n pub)) (hr : rows[i]? = some r)
    (hres : (bif (E.ty t).agg then (bif Nat.ble (off + (E.ty t).size) r.length then some (.agg ((r.drop off).take (E.ty t).size)) else none) else r[off]?) = some res) :
    OpS1 E.P N ops ⟨some d, .load t x, ty, pos, after, gd⟩ tm (.d res) ob ob := fun tm' hag l Q k' => WL.loadEg (S := ⟨tm', ob⟩) (by rw [want_agree hag]; exact hw) hd hk (by rw [ev_agree hag (by simp [Op.operands])]; exact hx) hm hr hres k'

theorem OpS1.c {f : FuncId} {xs : List Operand} {tys : List TypeId} {args : List D} {t : T} (hw : St.want ⟨tm, ob⟩ ops ⟨some d, .call ⟨.value (.func f), xs.toArray, tys.toArray⟩, ty, pos, after, gd⟩ = some true) (hd : Nat.blt d N.n = true)
    (hc : Fun E.P f args t []) (hu : t.under 0 = true) (ha : argsOf E ⟨tm, ob⟩ xs tys = some args) :
    OpS1 E.P N ops ⟨some d, .call ⟨.value (.func f), xs.toArray, tys.toArray⟩, ty, pos, after, gd⟩ tm t ob ob := fun tm' hag l Q k' => WG.c (G := []) (by rw [want_agree hag]; exact hw) hd hc hu (by rw [argsOf_agree (S := ⟨tm, ob⟩) (S' := ⟨tm', ob⟩) rfl fun x hx => ev_agree hag (by simp only [Op.operands, Call.operands, Array.toList_append, List.mem_append]; exact .inr (by simpa using hx))]; exact ha) k'

theorem OpS1.bs {t e : TypeId} {len : Nat} {parts : List (Nat × Operand)} {z : Nat} {rows : List (List D)} (hw : St.want ⟨tm, ob⟩ ops ⟨some d, .buildSlice t len parts.toArray, ty, pos, after, gd⟩ = some true) (hd : Nat.blt d N.n = true)
    (ht : (E.ty t).kind = .slice e) (he : (E.ty e).known = true) (hz : (E.ty e).size = z) (hz0 : Nat.blt 0 z = true) (hlen : Nat.beq len parts.length = true) (hmax : Nat.ble (len * z) 16777216 = true)
    (hrows : rowsOf ⟨tm, ob⟩ 0 parts = some rows) (hwd : widths z rows = true) :
    OpS1 E.P N ops ⟨some d, .buildSlice t len parts.toArray, ty, pos, after, gd⟩ tm (.d (.sl z rows)) ob ob := fun tm' hag l Q k' => WL.bsD (S := ⟨tm', ob⟩) (by rw [want_agree hag]; exact hw) hd ht he hz hz0 hlen hmax (by
    rw [rowsOf_agree (S := ⟨tm, ob⟩) (S' := ⟨tm', ob⟩) rfl parts 0 fun p hp => ev_agree hag (by simp [Op.operands]; exact ⟨p.1, hp⟩)]
    exact hrows) hwd k'

theorem OpS1.ixm {α : Type} [Inhabited α] {f f' : α → List D} {xs : List α} {t e : TypeId} {x ix : Operand} {z : Nat} {k : IntKind} {i : Int} (hw : St.want ⟨tm, ob⟩ ops ⟨some d, .indexAddr t x ix, ty, pos, after, gd⟩ = some true) (hd : Nat.blt d N.n = true)
    (ht : (E.ty t).kind = .slice e) (he : (E.ty e).known = true) (hz : (E.ty e).size = z) (hx : norm ob (St.ev ⟨tm, ob⟩ x) = .d (.sl z (xs.map f))) (hi : St.ev ⟨tm, ob⟩ ix = .d (.v (.int k i)))
    (hf : ∀ x, f x = f' x) (hb : 0 ≤ i ∧ i < xs.length) :
    OpS1 E.P N ops ⟨some d, .indexAddr t x ix, ty, pos, after, gd⟩ tm (.ea (f' (xs.getD i.toNat default)) 0) ob ob := by
  have hlt : i.toNat < xs.length := by omega
  exact OpS1.ix hw hd ht he hz hx hi (by simpa using hb) (by rw [← hf]; simp [hlt])

/-- an append to a slice of the call's own -/
theorem OpS1.ap {t e e' : TypeId} {s x : Operand} {z j n : Nat} {rows rows' : List (List D)} (hw : St.want ⟨tm, ob⟩ ops ⟨some d, .call ⟨.builtin .append, #[s, x], #[t, t]⟩, ty, pos, after, gd⟩ = some true) (hd : Nat.blt d N.n = true)
    (ht : (E.ty t).kind = .slice e) (he : (E.ty e).known = true) (hz : (E.ty e).size = z) (hz0 : Nat.blt 0 z = true) (hby : Nat.ble 1 (E.ty e).bytes = true) (hs : St.ev ⟨tm, ob⟩ s = .og j n) (hj : ob[j]? = some (.gr z e' rows n false)) (hee : Nat.beq e e' = true)
    (hx : srcRows ob (St.ev ⟨tm, ob⟩ x) = some (z, rows')) (hroom : (rows.length + rows'.length) * (E.ty e).bytes ≤ 140737488355328) (ho : ob.set j (.gr z e' (rows ++ rows') (n + 1) false) = ob') :
    OpS1 E.P N ops ⟨some d, .call ⟨.builtin .append, #[s, x], #[t, t]⟩, ty, pos, after, gd⟩ tm (.og j (n + 1)) ob ob' := fun tm' hag l Q k' => by
  subst ho
  exact WL.append (S := ⟨tm', ob⟩) (by rw [want_agree hag]; exact hw) hd ht he hz hz0 hby (by rw [ev_agree hag (by simp [Op.operands, Call.operands])]; exact hs) hj hee (by rw [ev_agree hag (by simp [Op.operands, Call.operands])]; exact hx) hroom k'

/-- a store to a variable -/
theorem OpS1.st {t : TypeId} {x v : Operand} {j off : Nat} {cs vals : List T} (hw : St.want ⟨tm, ob⟩ ops ⟨none, .store t x v, ty, pos, after, gd⟩ = some true) (hk : (E.ty t).known = true)
    (hx : St.ev ⟨tm, ob⟩ x = .lp j off) (hj : ob[j]? = some (.pv cs)) (hv : cellsT ob (fixNil E t (St.ev ⟨tm, ob⟩ v)) = some vals) (hn : Nat.beq vals.length (E.ty t).size = true) (ho : Nat.ble (off + vals.length) cs.length = true)
    (h1 : onesT vals = true) (h2 : cursT ob vals = true) (hob : ob.set j (.pv (setAll cs off vals)) = ob') :
    OpS1 E.P N ops ⟨none, .store t x v, ty, pos, after, gd⟩ tm .any ob ob' := fun tm' hag l Q k' => by
  subst hob
  exact WL.store (S := ⟨tm', ob⟩) (by rw [want_agree hag]; exact hw) hk (by rw [ev_agree hag (by simp [Op.operands])]; exact hx) hj (by rw [ev_agree hag (by simp [Op.operands])]; exact hv) hn ho h1 h2 k'

/-- a store to a row of a slice of the call's own -/
theorem OpS1.seg {t : TypeId} {x v : Operand} {m z n i off : Nat} {e : TypeId} {rows : List (List D)} {r vals : List D} (hw : St.want ⟨tm, ob⟩ ops ⟨none, .store t x v, ty, pos, after, gd⟩ = some true) (hk : (E.ty t).known = true)
    (hx : St.ev ⟨tm, ob⟩ x = .eg m n z i off) (hm : ob[m]? = some (.gr z e rows n false)) (hr : rows[i]? = some r) (hv : rowOf ob (fixNil E t (St.ev ⟨tm, ob⟩ v)) = some vals) (hn : Nat.beq vals.length (E.ty t).size = true) (ho : Nat.ble (off + vals.length) z = true)
    (h1 : onesD vals = true) (hob : ob.set m (.gr z e (rows.set i (setAll r off vals)) n false) = ob') :
    OpS1 E.P N ops ⟨none, .store t x v, ty, pos, after, gd⟩ tm .any ob ob' := fun tm' hag l Q k' => by
  subst hob
  exact WL.storeEg (S := ⟨tm', ob⟩) (by rw [want_agree hag]; exact hw) hk (by rw [ev_agree hag (by simp [Op.operands])]; exact hx) hm hr (by rw [ev_agree hag (by simp [Op.operands])]; exact hv) hn ho h1 k'
end

section
variable {P : Program} {E : Env} {N : Nm} {K : (Nat → T) → Prop} {tm : Nat → T} {ops l : List Oper} {op : Op} {ty : TypeId} {pos : String} {after : Array Edge} {gd : Option (Nat × Bool)} {d w : Nat} {ps : List (Nat × List Nat)} {p : List Nat} {obF : Nat → List Ob}
theorem WE.s' {t : T} (k : WE E.P N ops obF K ps l (upd tm d t)) (h : AllF p (fun g => OpS1 E.P N ops ⟨some d, op, ty, pos, after, gd⟩ tm t (obF g) (obF (g + w))) := by first | exact .n | (refine .c (OpS1.s (by exact rfl) (by exact rfl) (by exact rfl) (by first | exact trivial | (simp only [inRange, List.length_map, List.length_set]; omega) | omega | assumption)) ?_; first | exact .n | (refine .c (OpS1.s (by exact rfl) (by exact rfl) (by exact rfl) (by first | exact trivial | (simp only [inRange, List.length_map, List.length_set]; omega) | omega | assumption)) ?_; first | exact .n | (refine .c (OpS1.s (by exact rfl) (by exact rfl) (by exact rfl) (by first | exact trivial | (simp only [inRange, List.length_map, List.length_set]; omega) | omega | assumption)) ?_; first | exact .n | (refine .c (OpS1.s (by exact rfl) (by exact rfl) (by exact rfl) (by first | exact trivial | (simp only [inRange, List.length_map, List.length_set]; omega) | omega | assumption)) ?_; first | exact .n | (refine .c (OpS1.s (by exact rfl) (by exact rfl) (by exact rfl) (by first | exact trivial | (simp only [inRange, List.length_map, List.length_set]; omega) | omega | assumption)) ?_; first | exact .n | (refine .c (OpS1.s (by exact rfl) (by exact rfl) (by exact rfl) (by first | exact trivial | (simp only [inRange, List.length_map, List.length_set]; omega) | omega | assumption)) ?_; first | exact .n | (refine .c (OpS1.s (by exact rfl) (by exact rfl) (by exact rfl) (by first | exact trivial | (simp only [inRange, List.length_map, List.length_set]; omega) | omega | assumption)) ?_; first | exact .n | (refine .c (OpS1.s (by exact rfl) (by exact rfl) (by exact rfl) (by first | exact trivial | (simp only [inRange, List.length_map, List.length_set]; omega) | omega | assumption)) ?_; exact .n))))))))) : WE E.P N ops obF K ((w, p) :: ps) (⟨some d, op, ty, pos, after, gd⟩ :: l) tm :=
  .mk t h k

theorem WE.p'  (k : WE P N ops obF K ps l (upd tm d (.d (.v undef)))) (h : AllF p (fun g => OpS1 P N ops ⟨some d, op, ty, pos, after, gd⟩ tm (.d (.v undef)) (obF g) (obF (g + w))) := by first | exact .n | (refine .c (OpS1.pass (by exact rfl) (by exact rfl)) ?_; first | exact .n | (refine .c (OpS1.pass (by exact rfl) (by exact rfl)) ?_; first | exact .n | (refine .c (OpS1.pass (by exact rfl) (by exact rfl)) ?_; first | exact .n | (refine .c (OpS1.pass (by exact rfl) (by exact rfl)) ?_; first | exact .n | (refine .c (OpS1.pass (by exact rfl) (by exact rfl)) ?_; first | exact .n | (refine .c (OpS1.pass (by exact rfl) (by exact rfl)) ?_; first | exact .n | (refine .c (OpS1.pass (by exact rfl) (by exact rfl)) ?_; first | exact .n | (refine .c (OpS1.pass (by exact rfl) (by exact rfl)) ?_; exact .n))))))))) : WE P N ops obF K ((w, p) :: ps) (⟨some d, op, ty, pos, after, gd⟩ :: l) tm :=
  .mk (.d (.v undef)) h k

theorem WE.px'  (k : WE P N ops obF K ps l tm) (h : AllF p (fun g => OpS1 P N ops ⟨none, op, ty, pos, after, gd⟩ tm .any (obF g) (obF (g + w))) := by first | exact .n | (refine .c (OpS1.px (by exact rfl)) ?_; first | exact .n | (refine .c (OpS1.px (by exact rfl)) ?_; first | exact .n | (refine .c (OpS1.px (by exact rfl)) ?_; first | exact .n | (refine .c (OpS1.px (by exact rfl)) ?_; first | exact .n | (refine .c (OpS1.px (by exact rfl)) ?_; first | exact .n | (refine .c (OpS1.px (by exact rfl)) ?_; first | exact .n | (refine .c (OpS1.px (by exact rfl)) ?_; first | exact .n | (refine .c (OpS1.px (by exact rfl)) ?_; exact .n))))))))) : WE P N ops obF K ((w, p) :: ps) (⟨none, op, ty, pos, after, gd⟩ :: l) tm :=
  .mk .any h k

theorem WE.ixm' {α : Type} [Inhabited α] {f : α → List D} {xs : List α} {t : TypeId} {x ix : Operand} {i : Int} (k : WE E.P N ops obF K ps l (upd tm d (.ea (f (xs.getD i.toNat default)) 0))) (h : AllF p (fun g => OpS1 E.P N ops ⟨some d, (.indexAddr t x ix), ty, pos, after, gd⟩ tm (.ea (f (xs.getD i.toNat default)) 0) (obF g) (obF (g + w))) := by first | exact .n | (refine .c (OpS1.ixm (by exact rfl) (by exact rfl) (by exact rfl) (by exact rfl) (by exact rfl) (by exact rfl) (by exact rfl) (by exact fun _ => rfl) (by first | exact trivial | (simp only [inRange, List.length_map, List.length_set]; omega) | omega | assumption)) ?_; first | exact .n | (refine .c (OpS1.ixm (by exact rfl) (by exact rfl) (by exact rfl) (by exact rfl) (by exact rfl) (by exact rfl) (by exact rfl) (by exact fun _ => rfl) (by first | exact trivial | (simp only [inRange, List.length_map, List.length_set]; omega) | omega | assumption)) ?_; first | exact .n | (refine .c (OpS1.ixm (by exact rfl) (by exact rfl) (by exact rfl) (by exact rfl) (by exact rfl) (by exact rfl) (by exact rfl) (by exact fun _ => rfl) (by first | exact trivial | (simp only [inRange, List.length_map, List.length_set]; omega) | omega | assumption)) ?_; first | exact .n | (refine .c (OpS1.ixm (by exact rfl) (by exact rfl) (by exact rfl) (by exact rfl) (by exact rfl) (by exact rfl) (by exact rfl) (by exact fun _ => rfl) (by first | exact trivial | (simp only [inRange, List.length_map, List.length_set]; omega) | omega | assumption)) ?_; first | exact .n | (refine .c (OpS1.ixm (by exact rfl) (by exact rfl) (by exact rfl) (by exact rfl) (by exact rfl) (by exact rfl) (by exact rfl) (by exact fun _ => rfl) (by first | exact trivial | (simp only [inRange, List.length_map, List.length_set]; omega) | omega | assumption)) ?_; first | exact .n | (refine .c (OpS1.ixm (by exact rfl) (by exact rfl) (by exact rfl) (by exact rfl) (by exact rfl) (by exact rfl) (by exact rfl) (by exact fun _ => rfl) (by first | exact trivial | (simp only [inRange, List.length_map, List.length_set]; omega) | omega | assumption)) ?_; first | exact .n | (refine .c (OpS1.ixm (by exact rfl) (by exact rfl) (by exact rfl) (by exact rfl) (by exact rfl) (by exact rfl) (by exact rfl) (by exact fun _ => rfl) (by first | exact trivial | (simp only [inRange, List.length_map, List.length_set]; omega) | omega | assumption)) ?_; first | exact .n | (refine .c (OpS1.ixm (by exact rfl) (by exact rfl) (by exact rfl) (by exact rfl) (by exact rfl) (by exact rfl) (by exact rfl) (by exact fun _ => rfl) (by first | exact trivial | (simp only [inRange, List.length_map, List.length_set]; omega) | omega | assumption)) ?_; exact .n))))))))) : WE E.P N ops obF K ((w, p) :: ps) (⟨some d, (.indexAddr t x ix), ty, pos, after, gd⟩ :: l) tm :=
  .mk (.ea (f (xs.getD i.toNat default)) 0) h k

theorem WE.ixo' {t : TypeId} {x ix : Operand} {m n z : Nat} {i : Int} (k : WE E.P N ops obF K ps l (upd tm d (.eg m n z i.toNat 0))) (h : AllF p (fun g => OpS1 E.P N ops ⟨some d, (.indexAddr t x ix), ty, pos, after, gd⟩ tm (.eg m n z i.toNat 0) (obF g) (obF (g + w))) := by first | exact .n | (refine .c (OpS1.ixo (by exact rfl) (by exact rfl) (by exact rfl) (by exact rfl) (by exact rfl) (by exact rfl) (by exact rfl) (by exact rfl) (by first | exact trivial | (simp only [inRange, List.length_map, List.length_set]; omega) | omega | assumption)) ?_; first | exact .n | (refine .c (OpS1.ixo (by exact rfl) (by exact rfl) (by exact rfl) (by exact rfl) (by exact rfl) (by exact rfl) (by exact rfl) (by exact rfl) (by first | exact trivial | (simp only [inRange, List.length_map, List.length_set]; omega) | omega | assumption)) ?_; first | exact .n | (refine .c (OpS1.ixo (by exact rfl) (by exact rfl) (by exact rfl) (by exact rfl) (by exact rfl) (by exact rfl) (by exact rfl) (by exact rfl) (by first | exact trivial | (simp only [inRange, List.length_map, List.length_set]; omega) | omega | assumption)) ?_; first | exact .n | (refine .c (OpS1.ixo (by exact rfl) (by exact rfl) (by exact rfl) (by exact rfl) (by exact rfl) (by exact rfl) (by exact rfl) (by exact rfl) (by first | exact trivial | (simp only [inRange, List.length_map, List.length_set]; omega) | omega | assumption)) ?_; first | exact .n | (refine .c (OpS1.ixo (by exact rfl) (by exact rfl) (by exact rfl) (by exact rfl) (by exact rfl) (by exact rfl) (by exact rfl) (by exact rfl) (by first | exact trivial | (simp only [inRange, List.length_map, List.length_set]; omega) | omega | assumption)) ?_; first | exact .n | (refine .c (OpS1.ixo (by exact rfl) (by exact rfl) (by exact rfl) (by exact rfl) (by exact rfl) (by exact rfl) (by exact rfl) (by exact rfl) (by first | exact trivial | (simp only [inRange, List.length_map, List.length_set]; omega) | omega | assumption)) ?_; first | exact .n | (refine .c (OpS1.ixo (by exact rfl) (by exact rfl) (by exact rfl) (by exact rfl) (by exact rfl) (by exact rfl) (by exact rfl) (by exact rfl) (by first | exact trivial | (simp only [inRange, List.length_map, List.length_set]; omega) | omega | assumption)) ?_; first | exact .n | (refine .c (OpS1.ixo (by exact rfl) (by exact rfl) (by exact rfl) (by exact rfl) (by exact rfl) (by exact rfl) (by exact rfl) (by exact rfl) (by first | exact trivial | (simp only [inRange, List.length_map, List.length_set]; omega) | omega | assumption)) ?_; exact .n))))))))) : WE E.P N ops obF K ((w, p) :: ps) (⟨some d, (.indexAddr t x ix), ty, pos, after, gd⟩ :: l) tm :=
  .mk (.eg m n z i.toNat 0) h k

theorem WE.leg' {t : TypeId} {x : Operand} {res : D} (k : WE E.P N ops obF K ps l (upd tm d (.d res))) (h : AllF p (fun g => OpS1 E.P N ops ⟨some d, (.load t x), ty, pos, after, gd⟩ tm (.d res) (obF g) (obF (g + w))) := by first | exact .n | (refine .c (OpS1.leg (by exact rfl) (by exact rfl) (by exact rfl) (by exact rfl) (by exact rfl) (by first | exact rfl | assumption) (by exact rfl)) ?_; first | exact .n | (refine .c (OpS1.leg (by exact rfl) (by exact rfl) (by exact rfl) (by exact rfl) (by exact rfl) (by first | exact rfl | assumption) (by exact rfl)) ?_; first | exact .n | (refine .c (OpS1.leg (by exact rfl) (by exact rfl) (by exact rfl) (by exact rfl) (by exact rfl) (by first | exact rfl | assumption) (by exact rfl)) ?_; first | exact .n | (refine .c (OpS1.leg (by exact rfl) (by exact rfl) (by exact rfl) (by exact rfl) (by exact rfl) (by first | exact rfl | assumption) (by exact rfl)) ?_; first | exact .n | (refine .c (OpS1.leg (by exact rfl) (by exact rfl) (by exact rfl) (by exact rfl) (by exact rfl) (by first | exact rfl | assumption) (by exact rfl)) ?_; first | exact .n | (refine .c (OpS1.leg (by exact rfl) (by exact rfl) (by exact rfl) (by exact rfl) (by exact rfl) (by first | exact rfl | assumption) (by exact rfl)) ?_; first | exact .n | (refine .c (OpS1.leg (by exact rfl) (by exact rfl) (by exact rfl) (by exact rfl) (by exact rfl) (by first | exact rfl | assumption) (by exact rfl)) ?_; first | exact .n | (refine .c (OpS1.leg (by exact rfl) (by exact rfl) (by exact rfl) (by exact rfl) (by exact rfl) (by first | exact rfl | assumption) (by exact rfl)) ?_; exact .n))))))))) : WE E.P N ops obF K ((w, p) :: ps) (⟨some d, (.load t x), ty, pos, after, gd⟩ :: l) tm :=
  .mk (.d res) h k

theorem WE.slS' {t : TypeId} {x : Operand} {lo hi : Option Operand} {s : ByteArray} {li hh : Int} (k : WE E.P N ops obF K ps l (upd tm d (.d (.v (.string (s.extract li.toNat hh.toNat)))))) (h : AllF p (fun g => OpS1 E.P N ops ⟨some d, (.slice t x lo hi none), ty, pos, after, gd⟩ tm (.d (.v (.string (s.extract li.toNat hh.toNat)))) (obF g) (obF (g + w))) := by first | exact .n | (refine .c (OpS1.slS (by exact rfl) (by exact rfl) (by exact rfl) (by exact rfl) (by exact rfl) (by exact rfl) (by first | omega | (simp only [List.length_map, List.length_append, List.length_cons, List.length_nil, List.length_set] at *; omega))) ?_; first | exact .n | (refine .c (OpS1.slS (by exact rfl) (by exact rfl) (by exact rfl) (by exact rfl) (by exact rfl) (by exact rfl) (by first | omega | (simp only [List.length_map, List.length_append, List.length_cons, List.length_nil, List.length_set] at *; omega))) ?_; first | exact .n | (refine .c (OpS1.slS (by exact rfl) (by exact rfl) (by exact rfl) (by exact rfl) (by exact rfl) (by exact rfl) (by first | omega | (simp only [List.length_map, List.length_append, List.length_cons, List.length_nil, List.length_set] at *; omega))) ?_; first | exact .n | (refine .c (OpS1.slS (by exact rfl) (by exact rfl) (by exact rfl) (by exact rfl) (by exact rfl) (by exact rfl) (by first | omega | (simp only [List.length_map, List.length_append, List.length_cons, List.length_nil, List.length_set] at *; omega))) ?_; first | exact .n | (refine .c (OpS1.slS (by exact rfl) (by exact rfl) (by exact rfl) (by exact rfl) (by exact rfl) (by exact rfl) (by first | omega | (simp only [List.length_map, List.length_append, List.length_cons, List.length_nil, List.length_set] at *; omega))) ?_; first | exact .n | (refine .c (OpS1.slS (by exact rfl) (by exact rfl) (by exact rfl) (by exact rfl) (by exact rfl) (by exact rfl) (by first | omega | (simp only [List.length_map, List.length_append, List.length_cons, List.length_nil, List.length_set] at *; omega))) ?_; first | exact .n | (refine .c (OpS1.slS (by exact rfl) (by exact rfl) (by exact rfl) (by exact rfl) (by exact rfl) (by exact rfl) (by first | omega | (simp only [List.length_map, List.length_append, List.length_cons, List.length_nil, List.length_set] at *; omega))) ?_; first | exact .n | (refine .c (OpS1.slS (by exact rfl) (by exact rfl) (by exact rfl) (by exact rfl) (by exact rfl) (by exact rfl) (by first | omega | (simp only [List.length_map, List.length_append, List.length_cons, List.length_nil, List.length_set] at *; omega))) ?_; exact .n))))))))) : WE E.P N ops obF K ((w, p) :: ps) (⟨some d, (.slice t x lo hi none), ty, pos, after, gd⟩ :: l) tm :=
  .mk (.d (.v (.string (s.extract li.toNat hh.toNat)))) h k

theorem WE.slD' {t : TypeId} {x : Operand} {lo hi : Option Operand} {z : Nat} {rows : List (List D)} {li hh : Int} (k : WE E.P N ops obF K ps l (upd tm d (.d (.sl z ((rows.drop li.toNat).take (hh.toNat - li.toNat)))))) (h : AllF p (fun g => OpS1 E.P N ops ⟨some d, (.slice t x lo hi none), ty, pos, after, gd⟩ tm (.d (.sl z ((rows.drop li.toNat).take (hh.toNat - li.toNat)))) (obF g) (obF (g + w))) := by first | exact .n | (refine .c (OpS1.slD (by exact rfl) (by exact rfl) (by exact rfl) (by exact rfl) (by exact rfl) (by exact rfl) (by exact rfl) (by exact rfl) (by first | omega | (simp only [List.length_map, List.length_append, List.length_cons, List.length_nil, List.length_set] at *; omega))) ?_; first | exact .n | (refine .c (OpS1.slD (by exact rfl) (by exact rfl) (by exact rfl) (by exact rfl) (by exact rfl) (by exact rfl) (by exact rfl) (by exact rfl) (by first | omega | (simp only [List.length_map, List.length_append, List.length_cons, List.length_nil, List.length_set] at *; omega))) ?_; first | exact .n | (refine .c (OpS1.slD (by exact rfl) (by exact rfl) (by exact rfl) (by exact rfl) (by exact rfl) (by exact rfl) (by exact rfl) (by exact rfl) (by first | omega | (simp only [List.length_map, List.length_append, List.length_cons, List.length_nil, List.length_set] at *; omega))) ?_; first | exact .n | (refine .c (OpS1.slD (by exact rfl) (by exact rfl) (by exact rfl) (by exact rfl) (by exact rfl) (by exact rfl) (by exact rfl) (by exact rfl) (by first | omega | (simp only [List.length_map, List.length_append, List.length_cons, List.length_nil, List.length_set] at *; omega))) ?_; first | exact .n | (refine .c (OpS1.slD (by exact rfl) (by exact rfl) (by exact rfl) (by exact rfl) (by exact rfl) (by exact rfl) (by exact rfl) (by exact rfl) (by first | omega | (simp only [List.length_map, List.length_append, List.length_cons, List.length_nil, List.length_set] at *; omega))) ?_; first | exact .n | (refine .c (OpS1.slD (by exact rfl) (by exact rfl) (by exact rfl) (by exact rfl) (by exact rfl) (by exact rfl) (by exact rfl) (by exact rfl) (by first | omega | (simp only [List.length_map, List.length_append, List.length_cons, List.length_nil, List.length_set] at *; omega))) ?_; first | exact .n | (refine .c (OpS1.slD (by exact rfl) (by exact rfl) (by exact rfl) (by exact rfl) (by exact rfl) (by exact rfl) (by exact rfl) (by exact rfl) (by first | omega | (simp only [List.length_map, List.length_append, List.length_cons, List.length_nil, List.length_set] at *; omega))) ?_; first | exact .n | (refine .c (OpS1.slD (by exact rfl) (by exact rfl) (by exact rfl) (by exact rfl) (by exact rfl) (by exact rfl) (by exact rfl) (by exact rfl) (by first | omega | (simp only [List.length_map, List.length_append, List.length_cons, List.length_nil, List.length_set] at *; omega))) ?_; exact .n))))))))) : WE E.P N ops obF K ((w, p) :: ps) (⟨some d, (.slice t x lo hi none), ty, pos, after, gd⟩ :: l) tm :=
  .mk (.d (.sl z ((rows.drop li.toNat).take (hh.toNat - li.toNat)))) h k

theorem WE.bs' {t : TypeId} {len : Nat} {parts : List (Nat × Operand)} {z : Nat} {rows : List (List D)} (k : WE E.P N ops obF K ps l (upd tm d (.d (.sl z rows)))) (h : AllF p (fun g => OpS1 E.P N ops ⟨some d, (.buildSlice t len parts.toArray), ty, pos, after, gd⟩ tm (.d (.sl z rows)) (obF g) (obF (g + w))) := by first | exact .n | (refine .c (OpS1.bs (by exact rfl) (by exact rfl) (by exact rfl) (by exact rfl) (by exact rfl) (by exact rfl) (by exact rfl) (by exact rfl) (by exact rfl) (by exact rfl)) ?_; first | exact .n | (refine .c (OpS1.bs (by exact rfl) (by exact rfl) (by exact rfl) (by exact rfl) (by exact rfl) (by exact rfl) (by exact rfl) (by exact rfl) (by exact rfl) (by exact rfl)) ?_; first | exact .n | (refine .c (OpS1.bs (by exact rfl) (by exact rfl) (by exact rfl) (by exact rfl) (by exact rfl) (by exact rfl) (by exact rfl) (by exact rfl) (by exact rfl) (by exact rfl)) ?_; first | exact .n | (refine .c (OpS1.bs (by exact rfl) (by exact rfl) (by exact rfl) (by exact rfl) (by exact rfl) (by exact rfl) (by exact rfl) (by exact rfl) (by exact rfl) (by exact rfl)) ?_; first | exact .n | (refine .c (OpS1.bs (by exact rfl) (by exact rfl) (by exact rfl) (by exact rfl) (by exact rfl) (by exact rfl) (by exact rfl) (by exact rfl) (by exact rfl) (by exact rfl)) ?_; first | exact .n | (refine .c (OpS1.bs (by exact rfl) (by exact rfl) (by exact rfl) (by exact rfl) (by exact rfl) (by exact rfl) (by exact rfl) (by exact rfl) (by exact rfl) (by exact rfl)) ?_; first | exact .n | (refine .c (OpS1.bs (by exact rfl) (by exact rfl) (by exact rfl) (by exact rfl) (by exact rfl) (by exact rfl) (by exact rfl) (by exact rfl) (by exact rfl) (by exact rfl)) ?_; first | exact .n | (refine .c (OpS1.bs (by exact rfl) (by exact rfl) (by exact rfl) (by exact rfl) (by exact rfl) (by exact rfl) (by exact rfl) (by exact rfl) (by exact rfl) (by exact rfl)) ?_; exact .n))))))))) : WE E.P N ops obF K ((w, p) :: ps) (⟨some d, (.buildSlice t len parts.toArray), ty, pos, after, gd⟩ :: l) tm :=
  .mk (.d (.sl z rows)) h k

theorem WE.ap' {t : TypeId} {s x : Operand} {j n : Nat} (k : WE E.P N ops obF K ps l (upd tm d (.og j (n + 1)))) (h : AllF p (fun g => OpS1 E.P N ops ⟨some d, (.call ⟨.builtin .append, #[s, x], #[t, t]⟩), ty, pos, after, gd⟩ tm (.og j (n + 1)) (obF g) (obF (g + w))) := by first | exact .n | (refine .c (OpS1.ap (by exact rfl) (by exact rfl) (by exact rfl) (by exact rfl) (by exact rfl) (by exact rfl) (by exact rfl) (by exact rfl) (by exact rfl) (by exact rfl) (by exact rfl) (by (try simp only [bt, Nat.reduceDiv, Nat.reduceMod, Nat.reduceBEq, cond_true, cond_false]); refine Nat.le_trans (Nat.mul_le_mul_right _ (m := 2097152) ?_) (Nat.le_of_ble_eq_true rfl); simp only [List.length_map, List.length_append, List.length_cons, List.length_nil, List.length_take, List.length_drop]; omega) (by exact rfl)) ?_; first | exact .n | (refine .c (OpS1.ap (by exact rfl) (by exact rfl) (by exact rfl) (by exact rfl) (by exact rfl) (by exact rfl) (by exact rfl) (by exact rfl) (by exact rfl) (by exact rfl) (by exact rfl) (by (try simp only [bt, Nat.reduceDiv, Nat.reduceMod, Nat.reduceBEq, cond_true, cond_false]); refine Nat.le_trans (Nat.mul_le_mul_right _ (m := 2097152) ?_) (Nat.le_of_ble_eq_true rfl); simp only [List.length_map, List.length_append, List.length_cons, List.length_nil, List.length_take, List.length_drop]; omega) (by exact rfl)) ?_; first | exact .n | (refine .c (OpS1.ap (by exact rfl) (by exact rfl) (by exact rfl) (by exact rfl) (by exact rfl) (by exact rfl) (by exact rfl) (by exact rfl) (by exact rfl) (by exact rfl) (by exact rfl) (by (try simp only [bt, Nat.reduceDiv, Nat.reduceMod, Nat.reduceBEq, cond_true, cond_false]); refine Nat.le_trans (Nat.mul_le_mul_right _ (m := 2097152) ?_) (Nat.le_of_ble_eq_true rfl); simp only [List.length_map, List.length_append, List.length_cons, List.length_nil, List.length_take, List.length_drop]; omega) (by exact rfl)) ?_; first | exact .n | (refine .c (OpS1.ap (by exact rfl) (by exact rfl) (by exact rfl) (by exact rfl) (by exact rfl) (by exact rfl) (by exact rfl) (by exact rfl) (by exact rfl) (by exact rfl) (by exact rfl) (by (try simp only [bt, Nat.reduceDiv, Nat.reduceMod, Nat.reduceBEq, cond_true, cond_false]); refine Nat.le_trans (Nat.mul_le_mul_right _ (m := 2097152) ?_) (Nat.le_of_ble_eq_true rfl); simp only [List.length_map, List.length_append, List.length_cons, List.length_nil, List.length_take, List.length_drop]; omega) (by exact rfl)) ?_; first | exact .n | (refine .c (OpS1.ap (by exact rfl) (by exact rfl) (by exact rfl) (by exact rfl) (by exact rfl) (by exact rfl) (by exact rfl) (by exact rfl) (by exact rfl) (by exact rfl) (by exact rfl) (by (try simp only [bt, Nat.reduceDiv, Nat.reduceMod, Nat.reduceBEq, cond_true, cond_false]); refine Nat.le_trans (Nat.mul_le_mul_right _ (m := 2097152) ?_) (Nat.le_of_ble_eq_true rfl); simp only [List.length_map, List.length_append, List.length_cons, List.length_nil, List.length_take, List.length_drop]; omega) (by exact rfl)) ?_; first | exact .n | (refine .c (OpS1.ap (by exact rfl) (by exact rfl) (by exact rfl) (by exact rfl) (by exact rfl) (by exact rfl) (by exact rfl) (by exact rfl) (by exact rfl) (by exact rfl) (by exact rfl) (by (try simp only [bt, Nat.reduceDiv, Nat.reduceMod, Nat.reduceBEq, cond_true, cond_false]); refine Nat.le_trans (Nat.mul_le_mul_right _ (m := 2097152) ?_) (Nat.le_of_ble_eq_true rfl); simp only [List.length_map, List.length_append, List.length_cons, List.length_nil, List.length_take, List.length_drop]; omega) (by exact rfl)) ?_; first | exact .n | (refine .c (OpS1.ap (by exact rfl) (by exact rfl) (by exact rfl) (by exact rfl) (by exact rfl) (by exact rfl) (by exact rfl) (by exact rfl) (by exact rfl) (by exact rfl) (by exact rfl) (by (try simp only [bt, Nat.reduceDiv, Nat.reduceMod, Nat.reduceBEq, cond_true, cond_false]); refine Nat.le_trans (Nat.mul_le_mul_right _ (m := 2097152) ?_) (Nat.le_of_ble_eq_true rfl); simp only [List.length_map, List.length_append, List.length_cons, List.length_nil, List.length_take, List.length_drop]; omega) (by exact rfl)) ?_; first | exact .n | (refine .c (OpS1.ap (by exact rfl) (by exact rfl) (by exact rfl) (by exact rfl) (by exact rfl) (by exact rfl) (by exact rfl) (by exact rfl) (by exact rfl) (by exact rfl) (by exact rfl) (by (try simp only [bt, Nat.reduceDiv, Nat.reduceMod, Nat.reduceBEq, cond_true, cond_false]); refine Nat.le_trans (Nat.mul_le_mul_right _ (m := 2097152) ?_) (Nat.le_of_ble_eq_true rfl); simp only [List.length_map, List.length_append, List.length_cons, List.length_nil, List.length_take, List.length_drop]; omega) (by exact rfl)) ?_; exact .n))))))))) : WE E.P N ops obF K ((w, p) :: ps) (⟨some d, (.call ⟨.builtin .append, #[s, x], #[t, t]⟩), ty, pos, after, gd⟩ :: l) tm :=
  .mk (.og j (n + 1)) h k

theorem WE.st' {t : TypeId} {x v : Operand} (k : WE E.P N ops obF K ps l tm) (h : AllF p (fun g => OpS1 E.P N ops ⟨none, (.store t x v), ty, pos, after, gd⟩ tm .any (obF g) (obF (g + w))) := by first | exact .n | (refine .c (OpS1.st (by exact rfl) (by exact rfl) (by exact rfl) (by exact rfl) (by exact rfl) (by exact rfl) (by exact rfl) (by exact rfl) (by exact rfl) (by exact rfl)) ?_; first | exact .n | (refine .c (OpS1.st (by exact rfl) (by exact rfl) (by exact rfl) (by exact rfl) (by exact rfl) (by exact rfl) (by exact rfl) (by exact rfl) (by exact rfl) (by exact rfl)) ?_; first | exact .n | (refine .c (OpS1.st (by exact rfl) (by exact rfl) (by exact rfl) (by exact rfl) (by exact rfl) (by exact rfl) (by exact rfl) (by exact rfl) (by exact rfl) (by exact rfl)) ?_; first | exact .n | (refine .c (OpS1.st (by exact rfl) (by exact rfl) (by exact rfl) (by exact rfl) (by exact rfl) (by exact rfl) (by exact rfl) (by exact rfl) (by exact rfl) (by exact rfl)) ?_; first | exact .n | (refine .c (OpS1.st (by exact rfl) (by exact rfl) (by exact rfl) (by exact rfl) (by exact rfl) (by exact rfl) (by exact rfl) (by exact rfl) (by exact rfl) (by exact rfl)) ?_; first | exact .n | (refine .c (OpS1.st (by exact rfl) (by exact rfl) (by exact rfl) (by exact rfl) (by exact rfl) (by exact rfl) (by exact rfl) (by exact rfl) (by exact rfl) (by exact rfl)) ?_; first | exact .n | (refine .c (OpS1.st (by exact rfl) (by exact rfl) (by exact rfl) (by exact rfl) (by exact rfl) (by exact rfl) (by exact rfl) (by exact rfl) (by exact rfl) (by exact rfl)) ?_; first | exact .n | (refine .c (OpS1.st (by exact rfl) (by exact rfl) (by exact rfl) (by exact rfl) (by exact rfl) (by exact rfl) (by exact rfl) (by exact rfl) (by exact rfl) (by exact rfl)) ?_; exact .n))))))))) : WE E.P N ops obF K ((w, p) :: ps) (⟨none, (.store t x v), ty, pos, after, gd⟩ :: l) tm :=
  .mk .any h k

theorem WE.seg' {t : TypeId} {x v : Operand} (k : WE E.P N ops obF K ps l tm) (h : AllF p (fun g => OpS1 E.P N ops ⟨none, (.store t x v), ty, pos, after, gd⟩ tm .any (obF g) (obF (g + w))) := by first | exact .n | (refine .c (OpS1.seg (by exact rfl) (by exact rfl) (by exact rfl) (by exact rfl) (by first | exact rfl | assumption) (by exact rfl) (by exact rfl) (by exact rfl) (by exact rfl) (by exact rfl)) ?_; first | exact .n | (refine .c (OpS1.seg (by exact rfl) (by exact rfl) (by exact rfl) (by exact rfl) (by first | exact rfl | assumption) (by exact rfl) (by exact rfl) (by exact rfl) (by exact rfl) (by exact rfl)) ?_; first | exact .n | (refine .c (OpS1.seg (by exact rfl) (by exact rfl) (by exact rfl) (by exact rfl) (by first | exact rfl | assumption) (by exact rfl) (by exact rfl) (by exact rfl) (by exact rfl) (by exact rfl)) ?_; first | exact .n | (refine .c (OpS1.seg (by exact rfl) (by exact rfl) (by exact rfl) (by exact rfl) (by first | exact rfl | assumption) (by exact rfl) (by exact rfl) (by exact rfl) (by exact rfl) (by exact rfl)) ?_; first | exact .n | (refine .c (OpS1.seg (by exact rfl) (by exact rfl) (by exact rfl) (by exact rfl) (by first | exact rfl | assumption) (by exact rfl) (by exact rfl) (by exact rfl) (by exact rfl) (by exact rfl)) ?_; first | exact .n | (refine .c (OpS1.seg (by exact rfl) (by exact rfl) (by exact rfl) (by exact rfl) (by first | exact rfl | assumption) (by exact rfl) (by exact rfl) (by exact rfl) (by exact rfl) (by exact rfl)) ?_; first | exact .n | (refine .c (OpS1.seg (by exact rfl) (by exact rfl) (by exact rfl) (by exact rfl) (by first | exact rfl | assumption) (by exact rfl) (by exact rfl) (by exact rfl) (by exact rfl) (by exact rfl)) ?_; first | exact .n | (refine .c (OpS1.seg (by exact rfl) (by exact rfl) (by exact rfl) (by exact rfl) (by first | exact rfl | assumption) (by exact rfl) (by exact rfl) (by exact rfl) (by exact rfl) (by exact rfl)) ?_; exact .n))))))))) : WE E.P N ops obF K ((w, p) :: ps) (⟨none, (.store t x v), ty, pos, after, gd⟩ :: l) tm :=
  .mk .any h k

theorem WE.sp' {l : List Oper} {o : Oper} {q : Oper} {j : Nat} {b c : Bool} (ht : c = true → WE P N ops obF K ps (o :: l) (upd tm d (.d (.v (.bool true))))) (hf : c = false → WE P N ops obF K ps (o :: l) (upd tm d (.d (.v (.bool false)))))
    (hg : o.guard = some (j, b) := by exact rfl) (hp : ops[j]? = some q := by exact rfl) (hd : q.dst = some d := by exact rfl) (hc : tm d = .d (.v (.bool c)) := by exact rfl) : WE P N ops obF K ps (o :: l) tm :=
  WE.sp hg hp hd hc ht hf

theorem W.dre' {P : Program} {N : Nm} {id : Nat} {l : List Oper} {Q : Exit → St → Prop} {tm : Nat → T} {ob : List Ob} (es : List Nat) (obF : Nat → List Ob) (ps : List (Nat × List Nat)) (obE : List Ob)
    (h : WE P N l obF (fun tm' => Q .normal ⟨tm', obE⟩) ps l tm) (hm : P.follows .mixedOrders = true := by kernel_rfl) (hk : dreOK l es ps = true := by kernel_rfl) (h0 : obF 0 = ob := by exact rfl) (hE : obF (flM (fun _ => true) es 1) = obE := by exact rfl) : W P N (.region id l.toArray true) Q ⟨tm, ob⟩ := by
  subst hE
  exact W.dre es obF ps hm hk h0 h
end
end Go.Proofs.YthaakpbdijhgiaaGreatDoor
end

/- The small logic, twenty-fourth part: a new slice in the place of one that is not needed any more; slots that hold what is published. Conditions: none. -/
section
set_option linter.unusedVariables false
set_option linter.unusedSimpArgs false
namespace Go.Proofs.YthaakpbdijhgiaaGreatDoor
open Go.RowKit

section
variable {w0 : World} {σ0 : Bs} {ob : List Ob} {w : World} {g : Gh}

end

section
variable {E : Env} {N : Nm} {Q : Exit → St → Prop} {S : St} {ops l : List Oper} {ty : TypeId} {pos : String} {after : Array Edge} {gd : Option (Nat × Bool)} {d : Nat} {tm : Nat → T} {ob ob' : List Ob} {G : List Nat}

/-- slots that hold a slice that is published hold data -/
def pubd (k n : Nat) (x : D) : T → T
  | .og k' n' => bif Nat.beq k' k && Nat.beq n' n then .d x else .og k' n'
  | t => t

theorem RT.pubd {w0 : World} {σ0 : Bs} {w : World} {g : Gh} {k n z : Nat} {e : TypeId} {rows : List (List D)} (I : Inv w0 σ0 ob w g) (hk : ob[k]? = some (.gr z e rows n true)) {t : T} {u : Value} (h : RT g t u) : RT g (pubd k n (.sl z rows) t) u := by
  unfold Go.Proofs.YthaakpbdijhgiaaGreatDoor.pubd
  split
  · rename_i k' n'
    cases hb : Nat.beq k' k && Nat.beq n' n with
    | false => exact h
    | true =>
      simp only [Bool.and_eq_true] at hb
      obtain rfl := Nat.eq_of_beq_eq_true hb.1
      obtain rfl := Nat.eq_of_beq_eq_true hb.2
      have := I.norm h
      have e1 : norm ob (.og k' n') = .d (.sl z rows) := by
        simp [norm, norm1, normC, hk]
      rw [e1] at this
      exact this
  · exact h

theorem W.pubD {P : Program} {c : Code} (k : Nat) {z n : Nat} {e : TypeId} {rows : List (List D)} (hk : S.ob[k]? = some (.gr z e rows n false))
    (h : W P N c Q ⟨fun i => pubd k n (.sl z rows) (S.tm i), S.ob.set k (.gr z e rows n true)⟩) : W P N c Q S := fun w0 σ0 a w g r => by
  obtain ⟨g', hle, hlim, I⟩ := r.inv.pub hk
  have hlt : k < S.ob.length := (List.getElem?_eq_some_iff.1 hk).1
  exact h w0 σ0 a w g' ⟨I, r.defers, r.size, r.hm, by simpa using r.hl, fun i => ((r.tm i).mono hle).pubd I (List.getElem?_set_self hlt)⟩
end
end Go.Proofs.YthaakpbdijhgiaaGreatDoor
end

/- The small logic, twenty-sixth part: a nil slice handed to a callee that appends to it. Conditions: none. -/
section
set_option linter.unusedVariables false
set_option linter.unusedSimpArgs false
namespace Go.Proofs.YthaakpbdijhgiaaGreatDoor
open Go.RowKit

section
variable {E : Env} {N : Nm} {Q : Exit → St → Prop} {S : St} {ops l : List Oper} {ty : TypeId} {pos : String} {after : Array Edge} {gd : Option (Nat × Bool)} {d : Nat} {tm : Nat → T} {ob : List Ob} {G : List Nat}

end
end Go.Proofs.YthaakpbdijhgiaaGreatDoor
end

/- The small logic, twenty-seventh part: slices made within a region that draws its order. Conditions: none. -/
section
set_option linter.unusedVariables false
set_option linter.unusedSimpArgs false
namespace Go.Proofs.YthaakpbdijhgiaaGreatDoor
open Go.RowKit

section
variable {P : Program} {E : Env} {N : Nm} {K : (Nat → T) → Prop} {tm tm' : Nat → T} {ob ob' : List Ob} {ops l : List Oper} {o : Oper} {op : Op} {ty : TypeId} {pos : String} {after : Array Edge} {gd : Option (Nat × Bool)} {d w : Nat} {dst : Option Nat} {ps : List (Nat × List Nat)} {p : List Nat} {obF : Nat → List Ob}

end
end Go.Proofs.YthaakpbdijhgiaaGreatDoor
end

/- The small logic, twenty-eighth part: places that are kept free for objects to come, so that objects may be made in any order. Conditions: none. -/
section
set_option linter.unusedVariables false
set_option linter.unusedSimpArgs false
namespace Go.Proofs.YthaakpbdijhgiaaGreatDoor
open Go.RowKit

section
variable {w0 : World} {σ0 : Bs} {ob : List Ob} {w : World} {g : Gh}

end

/-- A place is kept free. -/
theorem St.imp.new {N : Nm} {S : St} : St.imp N S ⟨S.tm, S.ob ++ [.new]⟩ := fun w0 σ0 a w g r => by
  have I := r.inv
  have hget : ∀ (k : Nat) (p : Ob), (S.ob ++ [Ob.new])[k]? = some p → S.ob[k]? = some p ∨ (k = S.ob.length ∧ p = .new) := fun k p hp => by
    rcases Nat.lt_trichotomy k S.ob.length with h | h | h
    · rw [List.getElem?_append_left h] at hp; exact .inl hp
    · subst h; simp at hp; exact .inr ⟨rfl, hp.symm⟩
    · rw [List.getElem?_append_right (by omega)] at hp
      rw [List.getElem?_eq_none (by simp; omega)] at hp; cases hp
  refine ⟨g, ⟨I.below, I.old, I.con, fun k p hp => ?_, fun k hk => I.lim k (by simp at hk; omega), fun k k' p p' b hne hp hp' hbk => ?_, I.ext⟩, r.defers, r.size, r.hm, by simp; exact Nat.le_succ_of_le r.hl, r.tm⟩
  · rcases hget k p hp with h | ⟨rfl, rfl⟩
    · exact I.obs k p h
    · exact I.lim _ (Nat.le_refl _)
  · rcases hget k p hp with h | ⟨rfl, rfl⟩
    · rcases hget k' p' hp' with h' | ⟨rfl, rfl⟩
      · exact I.dis k k' p p' b hne h h' hbk
      · exact fun h => h
    · exact hbk.elim

section
variable {E : Env} {N : Nm} {Q : Exit → St → Prop} {S : St} {ops l : List Oper} {ty : TypeId} {pos : String} {after : Array Edge} {gd : Option (Nat × Bool)} {d : Nat}

end

section
variable {P : Program} {E : Env} {N : Nm} {K : (Nat → T) → Prop} {tm tm' : Nat → T} {ob ob' : List Ob} {ops l : List Oper} {o : Oper} {op : Op} {ty : TypeId} {pos : String} {after : Array Edge} {gd : Option (Nat × Bool)} {d w : Nat} {dst : Option Nat} {ps : List (Nat × List Nat)} {p : List Nat} {obF : Nat → List Ob}

/-- A struct that is put together. -/
theorem OpS1.bd {t : TypeId} {parts : List (Nat × Operand)} {cs : List T} {r : T} (hw : St.want ⟨tm, ob⟩ ops ⟨some d, .build t parts.toArray, ty, pos, after, gd⟩ = some true) (hd : Nat.blt d N.n = true)
    (ha : (E.ty t).agg = true) (hf : fillT ob (E.ty t).offs ((E.ty t).zero.map .d) (evParts ⟨tm, ob⟩ parts) = some cs) (hr : mkAgg cs = r) :
    OpS1 E.P N ops ⟨some d, .build t parts.toArray, ty, pos, after, gd⟩ tm r ob ob := fun tm' hag l Q k' => by
  subst hr
  have e : evParts ⟨tm', ob⟩ parts = evParts ⟨tm, ob⟩ parts := List.map_congr_left fun p hp => by
    rw [ev_agree hag (by simp [Op.operands]; exact ⟨p.1, hp⟩)]
  exact WL.build (S := ⟨tm', ob⟩) (by rw [want_agree hag]; exact hw) hd ha (by rw [e]; exact hf) k'

theorem WE.bd' {t : TypeId} {parts : List (Nat × Operand)} {r : T} (k : WE E.P N ops obF K ps l (upd tm d r)) (h : AllF p (fun g => OpS1 E.P N ops ⟨some d, .build t parts.toArray, ty, pos, after, gd⟩ tm r (obF g) (obF (g + w))) := by first | exact .n | (refine .c (OpS1.bd (by exact rfl) (by exact rfl) (by exact rfl) (by exact rfl) (by exact rfl)) ?_; first | exact .n | (refine .c (OpS1.bd (by exact rfl) (by exact rfl) (by exact rfl) (by exact rfl) (by exact rfl)) ?_; first | exact .n | (refine .c (OpS1.bd (by exact rfl) (by exact rfl) (by exact rfl) (by exact rfl) (by exact rfl)) ?_; first | exact .n | (refine .c (OpS1.bd (by exact rfl) (by exact rfl) (by exact rfl) (by exact rfl) (by exact rfl)) ?_; first | exact .n | (refine .c (OpS1.bd (by exact rfl) (by exact rfl) (by exact rfl) (by exact rfl) (by exact rfl)) ?_; first | exact .n | (refine .c (OpS1.bd (by exact rfl) (by exact rfl) (by exact rfl) (by exact rfl) (by exact rfl)) ?_; first | exact .n | (refine .c (OpS1.bd (by exact rfl) (by exact rfl) (by exact rfl) (by exact rfl) (by exact rfl)) ?_; first | exact .n | (refine .c (OpS1.bd (by exact rfl) (by exact rfl) (by exact rfl) (by exact rfl) (by exact rfl)) ?_; exact .n))))))))) : WE E.P N ops obF K ((w, p) :: ps) (⟨some d, .build t parts.toArray, ty, pos, after, gd⟩ :: l) tm :=
  .mk r h k

variable {Q : Exit → St → Prop} {G : List Nat}

/-- A slice written out that is never written to: data. -/
theorem WG.bsD {t e : TypeId} {len : Nat} {parts : List (Nat × Operand)} {z : Nat} {rows : List (List D)}
    (k : WG G E.P N ops l Q ⟨upd tm d (.d (.sl z rows)), ob⟩) (hw : St.want ⟨tm, ob⟩ ops ⟨some d, .buildSlice t len parts.toArray, ty, pos, after, gd⟩ = some true := by exact rfl) (hd : Nat.blt d N.n = true := by exact rfl)
    (ht : (E.ty t).kind = .slice e := by exact rfl) (he : (E.ty e).known = true := by exact rfl) (hz : (E.ty e).size = z := by exact rfl) (hz0 : Nat.blt 0 z = true := by exact rfl) (hlen : Nat.beq len parts.length = true := by exact rfl) (hmax : Nat.ble (len * z) 16777216 = true := by exact rfl)
    (hrows : rowsOf ⟨tm, ob⟩ 0 parts = some rows := by exact rfl) (hwd : widths z rows = true := by exact rfl) : WG G E.P N ops (⟨some d, .buildSlice t len parts.toArray, ty, pos, after, gd⟩ :: l) Q ⟨tm, ob⟩ :=
  WL.bsD (S := ⟨tm, ob⟩) hw hd ht he hz hz0 hlen hmax hrows hwd k
end
end Go.Proofs.YthaakpbdijhgiaaGreatDoor
end
