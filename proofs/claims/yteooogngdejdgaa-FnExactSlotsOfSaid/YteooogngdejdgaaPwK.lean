/-
  The small logic, eleventh part: the rules once more, over states that are written out (slots and objects apart). Conditions: none.
-/
import Derived.Test.YteooogngdejdgaaPwJ
set_option linter.unusedVariables false
set_option linter.unusedSimpArgs false
namespace Go.Proofs.Yteooogngdejdgaa
open Go.RowKit

/-- A contract of data, as the kit speaks of calls. -/
theorem Fun.raw {P : Program} {f : FuncId} {args : List D} {t : T} {ob : List Ob} (h : Fun P f args t ob) (w : World) (σ0 : Sto) (vals : List Value) (hσ : ∀ b o u, σ0 b o = some u → w.cell? ⟨b, o, none⟩ = some u) (hl : vals.length = args.length)
    (hr : ∀ (i : Nat) (x : D) (u : Value), args[i]? = some x → vals[i]? = some u → RD σ0 x u) :
    Calls P f vals.toArray w fun e w' => ∃ v g, e = .returned v ∧ Below w.heap.size w w' ∧ (∀ b o u, g.σ b o = some u → w'.cell? ⟨b, o, none⟩ = some u) ∧ RT g t v := by
  have hI : Inv w (baseOf [] ⟨σ0, fun _ _ => undef, fun _ => 0, fun _ _ => False⟩) [] w ⟨σ0, fun _ _ => undef, fun _ => 0, fun _ _ => False⟩ :=
    ⟨.refl _ _, fun _ _ _ _ => rfl, hσ, fun k o h => by simp at h, fun _ _ => rfl, fun k k' o o' b _ h => by simp at h, fun k h => by simp [baseOf] at h⟩
  refine (h.calls w ⟨σ0, fun _ _ => undef, fun _ => 0, fun _ _ => False⟩ vals hI (by simpa using hl) fun i x u hx hu => ?_).mono fun e w' ⟨v, t', ob', g', he, ⟨h1, h2⟩, J, hv⟩ => ?_
  · simp only [List.getElem?_map, Option.map_eq_some_iff] at hx
    obtain ⟨y, hy, rfl⟩ := hx
    exact .d _ _ (hr i y u hy hu)
  · subst h1
    exact ⟨v, g', he, ⟨J.below.os, J.below.tape, J.below.output, J.below.size, fun b hb => J.below.block b hb fun ⟨k, o, h, _⟩ => by simp at h⟩, J.con, hv⟩

/-- And back: what the kit says of a call whose result is data without memory. -/
theorem Fun.ofRaw {P : Program} {f : FuncId} {args : List D} {t : T} (he : ∀ (vals : Array Value) (w : World), (callFunc f vals).run P w = .ok (.enter f vals) w)
    (h : ∀ (w : World) (σ0 : Sto) (vals : List Value), (∀ b o u, σ0 b o = some u → w.cell? ⟨b, o, none⟩ = some u) → vals.length = args.length → (∀ (i : Nat) (x : D) (u : Value), args[i]? = some x → vals[i]? = some u → RD σ0 x u) →
      Calls P f vals.toArray w fun e w' => ∃ v, e = .returned v ∧ Below w.heap.size w w' ∧ ∀ g, RT g t v) : Fun P f args t [] := by
  refine ⟨he, fun w g vals hI hl hr => ?_⟩
  refine (h w g.σ vals hI.con (by simpa using hl) fun i x u hx hu => (hr i (.d x) u (by simp [hx]) hu).inv_d).mono fun e w' ⟨v, h1, h2, h3⟩ => ?_
  have hc : ∀ b o u, g.σ b o = some u → w'.cell? ⟨b, o, none⟩ = some u := fun b o u hu => by
    rw [World.cell?_of_block (w := w) (w' := w') (h2.block b (World.block_lt_of_cell? w ⟨b, o, none⟩ (hI.con b o u hu)))]
    exact hI.con b o u hu
  exact ⟨v, t, [], g, h1, ⟨rfl, rfl⟩, ⟨hI.below.trans h2, hI.old, hc, fun k o h => by simp at h, hI.lim, fun k k' o o' b _ h => by simp at h, hI.ext⟩, h3 g⟩

def upd (f : Nat → T) (i : Nat) (t : T) : Nat → T := fun j => bif Nat.beq j i then t else f j

/-- g knows all that f knows. -/
def leU (f g : Nat → T) : Prop := ∀ i, f i = .any ∨ g i = f i

theorem leU.refl (f : Nat → T) : leU f f := fun _ => .inr rfl
theorem leU.step {f g : Nat → T} {d : Nat} {t : T} (h : f d = .any) (k : leU f g) : leU f (upd g d t) := fun i => by
  by_cases e : i = d
  · subst e; exact .inl h
  · simp only [upd, nbeq e, cond_false]; exact k i
theorem leU.same {f g : Nat → T} {d : Nat} {t : T} (h : f d = t) (k : leU f g) : leU f (upd g d t) := fun i => by
  by_cases e : i = d
  · subst e
    simp only [upd, show Nat.beq i i = true by simp, cond_true]; exact .inr h.symm
  · simp only [upd, nbeq e, cond_false]; exact k i
theorem leU.forget {f g : Nat → T} {d : Nat} (k : leU f g) : leU (upd f d .any) g := fun i => by
  by_cases e : i = d
  · subst e
    simp only [upd, show Nat.beq i i = true by simp, cond_true]; exact .inl trivial
  · simp only [upd, nbeq e, cond_false]; exact k i

theorem Rel.leU {N : Nm} {w0 : World} {σ0 : Bs} {f g' : Nat → T} {ob : List Ob} {a : Act} {w : World} {g : Gh} (h : leU f g') (r : Rel N w0 σ0 ⟨g', ob⟩ a w g) : Rel N w0 σ0 ⟨f, ob⟩ a w g :=
  ⟨r.inv, r.defers, r.size, r.hm, r.hl, fun i => by
    show RT g (f i) _
    rcases h i with h | h
    · rw [h]; exact .any _
    · rw [← h]; exact r.tm i⟩

section
variable {P : Program} {E : Env} {N : Nm} {Q : Exit → St → Prop} {tm : Nat → T} {ob : List Ob} {ops l : List Oper} {op : Op} {ty : TypeId} {pos : String} {after : Array Edge} {gd : Option (Nat × Bool)} {d : Nat} {G : List Nat}

/-- The judgement on operations, with the numbers of those whose answers are laid open (they guard others). -/
def WG (_ : List Nat) (P : Program) (N : Nm) (ops l : List Oper) (Q : Exit → St → Prop) (S : St) : Prop := WL P N ops l Q S

theorem WG.nil (h : Q .normal ⟨tm, ob⟩) : WG G P N ops [] Q ⟨tm, ob⟩ := WL.nil h
theorem W.rg {id : Nat} (h : WG [] P N l l Q ⟨tm, ob⟩) : W P N (.region id l.toArray false) Q ⟨tm, ob⟩ := W.region h

theorem WG.leU' {g : Nat → T} (h : leU tm g) (k : WG G P N ops l Q ⟨tm, ob⟩) : WG G P N ops l Q ⟨g, ob⟩ := fun w0 σ0 a w gh r => k w0 σ0 a w gh (r.leU h)
theorem W.leU' {c : Code} {g : Nat → T} (h : leU tm g) (k : W P N c Q ⟨tm, ob⟩) : W P N c Q ⟨g, ob⟩ := fun w0 σ0 a w gh r => k w0 σ0 a w gh (r.leU h)

theorem WG.s {p : Prop} {t : T} (hw : St.want ⟨tm, ob⟩ ops ⟨some d, op, ty, pos, after, gd⟩ = some true) (hd : Nat.blt d N.n = true) (h : ev1 E ⟨tm, ob⟩ op ty = some (p, t)) (hp : p)
    (k : WG G E.P N ops l Q ⟨upd tm d t, ob⟩) : WG G E.P N ops (⟨some d, op, ty, pos, after, gd⟩ :: l) Q ⟨tm, ob⟩ := WL.simple hw hd h hp k

theorem WG.p (hw : St.want ⟨tm, ob⟩ ops ⟨some d, op, ty, pos, after, gd⟩ = some false) (hd : Nat.blt d N.n = true)
    (k : WG G P N ops l Q ⟨upd tm d (.d (.v undef)), ob⟩) : WG G P N ops (⟨some d, op, ty, pos, after, gd⟩ :: l) Q ⟨tm, ob⟩ := WL.pass hw hd k
theorem WG.px (hw : St.want ⟨tm, ob⟩ ops ⟨none, op, ty, pos, after, gd⟩ = some false)
    (k : WG G P N ops l Q ⟨tm, ob⟩) : WG G P N ops (⟨none, op, ty, pos, after, gd⟩ :: l) Q ⟨tm, ob⟩ := WL.passx hw k

theorem WG.sp {o p : Oper} {j : Nat} {b c : Bool} (hg : o.guard = some (j, b)) (hG : G.elem j = false) (hp : ops[j]? = some p) (hd : p.dst = some d) (hc : tm d = .d (.v (.bool c)))
    (ht : c = true → WG (j :: G) P N ops (o :: l) Q ⟨upd tm d (.d (.v (.bool true))), ob⟩) (hf : c = false → WG (j :: G) P N ops (o :: l) Q ⟨upd tm d (.d (.v (.bool false))), ob⟩) :
    WG G P N ops (o :: l) Q ⟨tm, ob⟩ := WL.split (S := ⟨tm, ob⟩) hg hp hd hc ht hf
theorem WG.sp' {o p : Oper} {j : Nat} {b c : Bool} (ht : c = true → WG (j :: G) P N ops (o :: l) Q ⟨upd tm d (.d (.v (.bool true))), ob⟩) (hf : c = false → WG (j :: G) P N ops (o :: l) Q ⟨upd tm d (.d (.v (.bool false))), ob⟩)
    (hg : o.guard = some (j, b) := by exact rfl) (hG : G.elem j = false := by exact rfl) (hp : ops[j]? = some p := by exact rfl) (hd : p.dst = some d := by exact rfl) (hc : tm d = .d (.v (.bool c)) := by exact rfl) : WG G P N ops (o :: l) Q ⟨tm, ob⟩ :=
  WG.sp hg hG hp hd hc ht hf

/-- the guard's answer is known already -/
theorem WG.gt {o : Oper} {j : Nat} {b : Bool} (hg : o.guard = some (j, b)) (hG : G.elem j = false) (hw : St.want ⟨tm, ob⟩ ops o = some true) (k : WG (j :: G) P N ops (o :: l) Q ⟨tm, ob⟩) : WG G P N ops (o :: l) Q ⟨tm, ob⟩ := k
theorem WG.gt' {o : Oper} {j : Nat} {b : Bool} (k : WG (j :: G) P N ops (o :: l) Q ⟨tm, ob⟩)
    (hg : o.guard = some (j, b) := by exact rfl) (hG : G.elem j = false := by exact rfl) (hw : St.want ⟨tm, ob⟩ ops o = some true := by exact rfl) : WG G P N ops (o :: l) Q ⟨tm, ob⟩ :=
  WG.gt hg hG hw k

theorem WG.gf {o : Oper} {j : Nat} {b : Bool} (hg : o.guard = some (j, b)) (hG : G.elem j = false) (hw : St.want ⟨tm, ob⟩ ops o = some false) (k : WG (j :: G) P N ops (o :: l) Q ⟨tm, ob⟩) : WG G P N ops (o :: l) Q ⟨tm, ob⟩ := k
theorem WG.gf' {o : Oper} {j : Nat} {b : Bool} (k : WG (j :: G) P N ops (o :: l) Q ⟨tm, ob⟩)
    (hg : o.guard = some (j, b) := by exact rfl) (hG : G.elem j = false := by exact rfl) (hw : St.want ⟨tm, ob⟩ ops o = some false := by exact rfl) : WG G P N ops (o :: l) Q ⟨tm, ob⟩ :=
  WG.gf hg hG hw k

theorem WG.al {t : TypeId} {K : Nat} {zs : List D} (hw : St.want ⟨tm, ob⟩ ops ⟨some d, .alloc t, ty, pos, after, gd⟩ = some true) (hd : Nat.blt d N.n = true) (hk : (E.ty t).known = true) (hz : (E.ty t).zero = zs) (hK : ob.length = K)
    (k : WG G E.P N ops l Q ⟨upd tm d (.lp K 0), ob ++ [.pv (zs.map .d)]⟩) : WG G E.P N ops (⟨some d, .alloc t, ty, pos, after, gd⟩ :: l) Q ⟨tm, ob⟩ := by
  subst hK; subst hz; exact WL.alloc hw hd hk k

theorem WG.bx {t : TypeId} {x : Operand} {cs : List T} {K : Nat} (hw : St.want ⟨tm, ob⟩ ops ⟨some d, .box t x, ty, pos, after, gd⟩ = some true) (hd : Nat.blt d N.n = true)
    (hc : cellsT ob (St.ev ⟨tm, ob⟩ x) = some cs) (h1 : onesT cs = true) (h2 : cursT ob cs = true) (hK : ob.length = K)
    (k : WG G E.P N ops l Q ⟨upd tm d (.lp K 0), ob ++ [.pv cs]⟩) : WG G E.P N ops (⟨some d, .box t x, ty, pos, after, gd⟩ :: l) Q ⟨tm, ob⟩ := by
  subst hK; exact WL.box hw hd hc h1 h2 k

theorem WG.st {t : TypeId} {x v : Operand} {j off : Nat} {cs vals : List T} (hw : St.want ⟨tm, ob⟩ ops ⟨none, .store t x v, ty, pos, after, gd⟩ = some true) (hk : (E.ty t).known = true)
    (hx : St.ev ⟨tm, ob⟩ x = .lp j off) (hj : ob[j]? = some (.pv cs)) (hv : cellsT ob (fixNil E t (St.ev ⟨tm, ob⟩ v)) = some vals) (hn : Nat.beq vals.length (E.ty t).size = true) (ho : Nat.ble (off + vals.length) cs.length = true)
    (h1 : onesT vals = true) (h2 : cursT ob vals = true)
    (k : WG G E.P N ops l Q ⟨tm, ob.set j (.pv (setAll cs off vals))⟩) : WG G E.P N ops (⟨none, .store t x v, ty, pos, after, gd⟩ :: l) Q ⟨tm, ob⟩ := WL.store (S := ⟨tm, ob⟩) hw hk hx hj hv hn ho h1 h2 k

theorem WG.bd {t : TypeId} {parts : List (Nat × Operand)} {cs : List T} {r : T} (hw : St.want ⟨tm, ob⟩ ops ⟨some d, .build t parts.toArray, ty, pos, after, gd⟩ = some true) (hd : Nat.blt d N.n = true)
    (ha : (E.ty t).agg = true) (hf : fillT ob (E.ty t).offs ((E.ty t).zero.map .d) (evParts ⟨tm, ob⟩ parts) = some cs) (hr : mkAgg cs = r)
    (k : WG G E.P N ops l Q ⟨upd tm d r, ob⟩) : WG G E.P N ops (⟨some d, .build t parts.toArray, ty, pos, after, gd⟩ :: l) Q ⟨tm, ob⟩ := by
  subst hr; exact WL.build (S := ⟨tm, ob⟩) hw hd ha hf k

theorem WG.ix {t e : TypeId} {x ix : Operand} {z : Nat} {rows : List (List D)} {k : IntKind} {i : Int} {r : List D} (hw : St.want ⟨tm, ob⟩ ops ⟨some d, .indexAddr t x ix, ty, pos, after, gd⟩ = some true) (hd : Nat.blt d N.n = true)
    (ht : (E.ty t).kind = .slice e) (he : (E.ty e).known = true) (hz : (E.ty e).size = z) (hx : norm ob (St.ev ⟨tm, ob⟩ x) = .d (.sl z rows)) (hi : St.ev ⟨tm, ob⟩ ix = .d (.v (.int k i)))
    (hb : 0 ≤ i ∧ i < rows.length) (hr : rows[i.toNat]? = some r)
    (kk : WG G E.P N ops l Q ⟨upd tm d (.ea r 0), ob⟩) : WG G E.P N ops (⟨some d, .indexAddr t x ix, ty, pos, after, gd⟩ :: l) Q ⟨tm, ob⟩ := WL.index (S := ⟨tm, ob⟩) hw hd ht he hz hx hi hb hr kk

theorem WG.ixm {α : Type} [Inhabited α] {f f' : α → List D} {xs : List α} {t e : TypeId} {x ix : Operand} {z : Nat} {k : IntKind} {i : Int} (hw : St.want ⟨tm, ob⟩ ops ⟨some d, .indexAddr t x ix, ty, pos, after, gd⟩ = some true) (hd : Nat.blt d N.n = true)
    (ht : (E.ty t).kind = .slice e) (he : (E.ty e).known = true) (hz : (E.ty e).size = z) (hx : norm ob (St.ev ⟨tm, ob⟩ x) = .d (.sl z (xs.map f))) (hi : St.ev ⟨tm, ob⟩ ix = .d (.v (.int k i)))
    (hf : ∀ x, f x = f' x) (hb : 0 ≤ i ∧ i < xs.length)
    (kk : WG G E.P N ops l Q ⟨upd tm d (.ea (f' (xs.getD i.toNat default)) 0), ob⟩) : WG G E.P N ops (⟨some d, .indexAddr t x ix, ty, pos, after, gd⟩ :: l) Q ⟨tm, ob⟩ := by
  have hlt : i.toNat < xs.length := by omega
  exact WL.index (S := ⟨tm, ob⟩) hw hd ht he hz hx hi (by simpa using hb) (by rw [← hf]; simp [hlt]) kk
theorem WG.ixm' {α : Type} [Inhabited α] {f f' : α → List D} {xs : List α} {t e : TypeId} {x ix : Operand} {z : Nat} {k : IntKind} {i : Int} (kk : WG G E.P N ops l Q ⟨upd tm d (.ea (f' (xs.getD i.toNat default)) 0), ob⟩)
    (hw : St.want ⟨tm, ob⟩ ops ⟨some d, .indexAddr t x ix, ty, pos, after, gd⟩ = some true := by exact rfl) (hd : Nat.blt d N.n = true := by exact rfl) (ht : (E.ty t).kind = .slice e := by exact rfl) (he : (E.ty e).known = true := by exact rfl) (hz : (E.ty e).size = z := by exact rfl) (hx : norm ob (St.ev ⟨tm, ob⟩ x) = .d (.sl z (xs.map f)) := by exact rfl) (hi : St.ev ⟨tm, ob⟩ ix = .d (.v (.int k i)) := by exact rfl) (hf : ∀ x, f x = f' x := by exact fun _ => rfl) (hb : 0 ≤ i ∧ i < xs.length := by first | exact trivial | (simp only [inRange, List.length_map]; omega) | omega | assumption) : WG G E.P N ops (⟨some d, .indexAddr t x ix, ty, pos, after, gd⟩ :: l) Q ⟨tm, ob⟩ :=
  WG.ixm hw hd ht he hz hx hi hf hb kk

theorem WG.ixo {t e : TypeId} {x ix : Operand} {z : Nat} {e' : TypeId} {rows : List (List D)} {n m : Nat} {pub : Bool} {k : IntKind} {i : Int} (hw : St.want ⟨tm, ob⟩ ops ⟨some d, .indexAddr t x ix, ty, pos, after, gd⟩ = some true) (hd : Nat.blt d N.n = true)
    (ht : (E.ty t).kind = .slice e) (he : (E.ty e).known = true) (hz : (E.ty e).size = z) (hx : St.ev ⟨tm, ob⟩ x = .og m n) (hm : ob[m]? = some (.gr z e' rows n pub)) (hi : St.ev ⟨tm, ob⟩ ix = .d (.v (.int k i)))
    (hb : 0 ≤ i ∧ i < rows.length)
    (kk : WG G E.P N ops l Q ⟨upd tm d (.eg m n z i.toNat 0), ob⟩) : WG G E.P N ops (⟨some d, .indexAddr t x ix, ty, pos, after, gd⟩ :: l) Q ⟨tm, ob⟩ := WL.indexOg (S := ⟨tm, ob⟩) hw hd ht he hz hx hm hi hb kk
theorem WG.ixo' {t e : TypeId} {x ix : Operand} {z : Nat} {e' : TypeId} {rows : List (List D)} {n m : Nat} {pub : Bool} {k : IntKind} {i : Int} (kk : WG G E.P N ops l Q ⟨upd tm d (.eg m n z i.toNat 0), ob⟩)
    (hw : St.want ⟨tm, ob⟩ ops ⟨some d, .indexAddr t x ix, ty, pos, after, gd⟩ = some true := by exact rfl) (hd : Nat.blt d N.n = true := by exact rfl) (ht : (E.ty t).kind = .slice e := by exact rfl) (he : (E.ty e).known = true := by exact rfl) (hz : (E.ty e).size = z := by exact rfl) (hx : St.ev ⟨tm, ob⟩ x = .og m n := by exact rfl) (hm : ob[m]? = some (.gr z e' rows n pub) := by exact rfl) (hi : St.ev ⟨tm, ob⟩ ix = .d (.v (.int k i)) := by exact rfl) (hb : 0 ≤ i ∧ i < rows.length := by first | exact trivial | (simp only [inRange, List.length_map]; omega) | omega | assumption) : WG G E.P N ops (⟨some d, .indexAddr t x ix, ty, pos, after, gd⟩ :: l) Q ⟨tm, ob⟩ :=
  WG.ixo hw hd ht he hz hx hm hi hb kk

theorem WG.leg {t : TypeId} {x : Operand} {z : Nat} {e' : TypeId} {rows : List (List D)} {n m i off : Nat} {pub : Bool} {r : List D} {res : D} (hw : St.want ⟨tm, ob⟩ ops ⟨some d, .load t x, ty, pos, after, gd⟩ = some true) (hd : Nat.blt d N.n = true)
    (hk : (E.ty t).known = true) (hx : St.ev ⟨tm, ob⟩ x = .eg m n z i off) (hm : ob[m]? = some (.gr z e' rows n pub)) (hr : rows[i]? = some r)
    (hres : (bif (E.ty t).agg then (bif Nat.ble (off + (E.ty t).size) r.length then some (.agg ((r.drop off).take (E.ty t).size)) else none) else r[off]?) = some res)
    (kk : WG G E.P N ops l Q ⟨upd tm d (.d res), ob⟩) : WG G E.P N ops (⟨some d, .load t x, ty, pos, after, gd⟩ :: l) Q ⟨tm, ob⟩ := WL.loadEg (S := ⟨tm, ob⟩) hw hd hk hx hm hr hres kk

theorem WG.slD {t e : TypeId} {x : Operand} {lo hi : Option Operand} {z : Nat} {rows : List (List D)} {li hh : Int} (hw : St.want ⟨tm, ob⟩ ops ⟨some d, .slice t x lo hi none, ty, pos, after, gd⟩ = some true) (hd : Nat.blt d N.n = true)
    (ht : (E.ty t).kind = .slice e) (he : (E.ty e).known = true) (hz : (E.ty e).size = z) (hx : norm ob (St.ev ⟨tm, ob⟩ x) = .d (.sl z rows)) (hlo : evLow ⟨tm, ob⟩ lo = some li)
    (hhi : evBound ⟨tm, ob⟩ rows.length hi = some hh) (hb : 0 ≤ li ∧ li ≤ hh ∧ hh ≤ rows.length)
    (kk : WG G E.P N ops l Q ⟨upd tm d (.d (.sl z ((rows.drop li.toNat).take (hh.toNat - li.toNat)))), ob⟩) : WG G E.P N ops (⟨some d, .slice t x lo hi none, ty, pos, after, gd⟩ :: l) Q ⟨tm, ob⟩ :=
  WL.sliceD (S := ⟨tm, ob⟩) hw hd ht he hz hx hlo hhi hb kk
theorem WG.slD' {t e : TypeId} {x : Operand} {lo hi : Option Operand} {z : Nat} {rows : List (List D)} {li hh : Int} (kk : WG G E.P N ops l Q ⟨upd tm d (.d (.sl z ((rows.drop li.toNat).take (hh.toNat - li.toNat)))), ob⟩)
    (hw : St.want ⟨tm, ob⟩ ops ⟨some d, .slice t x lo hi none, ty, pos, after, gd⟩ = some true := by exact rfl) (hd : Nat.blt d N.n = true := by exact rfl) (ht : (E.ty t).kind = .slice e := by exact rfl) (he : (E.ty e).known = true := by exact rfl) (hz : (E.ty e).size = z := by exact rfl) (hx : norm ob (St.ev ⟨tm, ob⟩ x) = .d (.sl z rows) := by exact rfl) (hlo : evLow ⟨tm, ob⟩ lo = some li := by exact rfl) (hhi : evBound ⟨tm, ob⟩ rows.length hi = some hh := by exact rfl) (hb : 0 ≤ li ∧ li ≤ hh ∧ hh ≤ rows.length := by first | omega | (simp only [List.length_map, List.length_append, List.length_cons, List.length_nil] at *; omega)) : WG G E.P N ops (⟨some d, .slice t x lo hi none, ty, pos, after, gd⟩ :: l) Q ⟨tm, ob⟩ :=
  WG.slD hw hd ht he hz hx hlo hhi hb kk

theorem WG.slS {t : TypeId} {x : Operand} {lo hi : Option Operand} {s : ByteArray} {li hh : Int} (hw : St.want ⟨tm, ob⟩ ops ⟨some d, .slice t x lo hi none, ty, pos, after, gd⟩ = some true) (hd : Nat.blt d N.n = true)
    (ht : (E.ty t).kind = .string) (hx : St.ev ⟨tm, ob⟩ x = .d (.v (.string s))) (hlo : evLow ⟨tm, ob⟩ lo = some li)
    (hhi : evBound ⟨tm, ob⟩ s.size hi = some hh) (hb : 0 ≤ li ∧ li ≤ hh ∧ hh ≤ s.size)
    (kk : WG G E.P N ops l Q ⟨upd tm d (.d (.v (.string (s.extract li.toNat hh.toNat)))), ob⟩) : WG G E.P N ops (⟨some d, .slice t x lo hi none, ty, pos, after, gd⟩ :: l) Q ⟨tm, ob⟩ :=
  WL.sliceS (S := ⟨tm, ob⟩) hw hd ht hx hlo hhi hb kk
theorem WG.slS' {t : TypeId} {x : Operand} {lo hi : Option Operand} {s : ByteArray} {li hh : Int} (kk : WG G E.P N ops l Q ⟨upd tm d (.d (.v (.string (s.extract li.toNat hh.toNat)))), ob⟩)
    (hw : St.want ⟨tm, ob⟩ ops ⟨some d, .slice t x lo hi none, ty, pos, after, gd⟩ = some true := by exact rfl) (hd : Nat.blt d N.n = true := by exact rfl) (ht : (E.ty t).kind = .string := by exact rfl) (hx : St.ev ⟨tm, ob⟩ x = .d (.v (.string s)) := by exact rfl) (hlo : evLow ⟨tm, ob⟩ lo = some li := by exact rfl) (hhi : evBound ⟨tm, ob⟩ s.size hi = some hh := by exact rfl) (hb : 0 ≤ li ∧ li ≤ hh ∧ hh ≤ s.size := by first | omega | (simp only [List.length_map, List.length_append, List.length_cons, List.length_nil] at *; omega)) : WG G E.P N ops (⟨some d, .slice t x lo hi none, ty, pos, after, gd⟩ :: l) Q ⟨tm, ob⟩ :=
  WG.slS hw hd ht hx hlo hhi hb kk

theorem WG.bs {t e : TypeId} {len : Nat} {parts : List (Nat × Operand)} {z K : Nat} {rows : List (List D)} (hw : St.want ⟨tm, ob⟩ ops ⟨some d, .buildSlice t len parts.toArray, ty, pos, after, gd⟩ = some true) (hd : Nat.blt d N.n = true)
    (ht : (E.ty t).kind = .slice e) (he : (E.ty e).known = true) (hz : (E.ty e).size = z) (hz0 : Nat.blt 0 z = true) (hlen : Nat.beq len parts.length = true) (hmax : Nat.ble (len * z) 16777216 = true)
    (hrows : rowsOf ⟨tm, ob⟩ 0 parts = some rows) (hwd : widths z rows = true) (hK : ob.length = K)
    (k : WG G E.P N ops l Q ⟨upd tm d (.og K 0), ob ++ [.gr z e rows 0 false]⟩) : WG G E.P N ops (⟨some d, .buildSlice t len parts.toArray, ty, pos, after, gd⟩ :: l) Q ⟨tm, ob⟩ := by
  subst hK; exact WL.buildSlice (S := ⟨tm, ob⟩) hw hd ht he hz hz0 hlen hmax hrows hwd k

theorem WG.apN {t e : TypeId} {s x : Operand} {z K : Nat} {rows : List (List D)} (hw : St.want ⟨tm, ob⟩ ops ⟨some d, .call ⟨.builtin .append, #[s, x], #[t, t]⟩, ty, pos, after, gd⟩ = some true) (hd : Nat.blt d N.n = true)
    (ht : (E.ty t).kind = .slice e) (he : (E.ty e).known = true) (hz : (E.ty e).size = z) (hz0 : Nat.blt 0 z = true) (hby : Nat.ble 1 (E.ty e).bytes = true) (hs : nilT (St.ev ⟨tm, ob⟩ s) = true) (hx : srcRows ob (St.ev ⟨tm, ob⟩ x) = some (z, rows)) (hK : ob.length = K)
    (hroom : (0 + rows.length) * (E.ty e).bytes ≤ 140737488355328)
    (k : WG G E.P N ops l Q ⟨upd tm d (.og K 0), ob ++ [.gr z e rows 0 false]⟩) : WG G E.P N ops (⟨some d, .call ⟨.builtin .append, #[s, x], #[t, t]⟩, ty, pos, after, gd⟩ :: l) Q ⟨tm, ob⟩ := by
  subst hK; exact WL.appendNil (S := ⟨tm, ob⟩) hw hd ht he hz hz0 hby hs hx hroom k

theorem WG.ap {t e e' : TypeId} {s x : Operand} {z j n : Nat} {rows rows' : List (List D)} (hw : St.want ⟨tm, ob⟩ ops ⟨some d, .call ⟨.builtin .append, #[s, x], #[t, t]⟩, ty, pos, after, gd⟩ = some true) (hd : Nat.blt d N.n = true)
    (ht : (E.ty t).kind = .slice e) (he : (E.ty e).known = true) (hz : (E.ty e).size = z) (hz0 : Nat.blt 0 z = true) (hby : Nat.ble 1 (E.ty e).bytes = true) (hs : St.ev ⟨tm, ob⟩ s = .og j n) (hj : ob[j]? = some (.gr z e' rows n false)) (hee : Nat.beq e e' = true)
    (hx : srcRows ob (St.ev ⟨tm, ob⟩ x) = some (z, rows')) (hroom : (rows.length + rows'.length) * (E.ty e).bytes ≤ 140737488355328)
    (k : WG G E.P N ops l Q ⟨upd tm d (.og j (n + 1)), ob.set j (.gr z e' (rows ++ rows') (n + 1) false)⟩) : WG G E.P N ops (⟨some d, .call ⟨.builtin .append, #[s, x], #[t, t]⟩, ty, pos, after, gd⟩ :: l) Q ⟨tm, ob⟩ :=
  WL.append (S := ⟨tm, ob⟩) hw hd ht he hz hz0 hby hs hj hee hx hroom k
theorem WG.ap' {t e e' : TypeId} {s x : Operand} {z j n : Nat} {rows rows' : List (List D)} (k : WG G E.P N ops l Q ⟨upd tm d (.og j (n + 1)), ob.set j (.gr z e' (rows ++ rows') (n + 1) false)⟩)
    (hw : St.want ⟨tm, ob⟩ ops ⟨some d, .call ⟨.builtin .append, #[s, x], #[t, t]⟩, ty, pos, after, gd⟩ = some true := by exact rfl) (hd : Nat.blt d N.n = true := by exact rfl) (ht : (E.ty t).kind = .slice e := by exact rfl) (he : (E.ty e).known = true := by exact rfl) (hz : (E.ty e).size = z := by exact rfl) (hz0 : Nat.blt 0 z = true := by exact rfl) (hby : Nat.ble 1 (E.ty e).bytes = true := by exact rfl) (hs : St.ev ⟨tm, ob⟩ s = .og j n := by exact rfl) (hj : ob[j]? = some (.gr z e' rows n false) := by exact rfl) (hee : Nat.beq e e' = true := by exact rfl) (hx : srcRows ob (St.ev ⟨tm, ob⟩ x) = some (z, rows') := by exact rfl) (hroom : (rows.length + rows'.length) * (E.ty e).bytes ≤ 140737488355328 := by refine Nat.le_trans (Nat.mul_le_mul_right _ (m := 2097152) ?_) (Nat.le_of_ble_eq_true rfl); simp only [List.length_map, List.length_append, List.length_cons, List.length_nil]; omega) : WG G E.P N ops (⟨some d, .call ⟨.builtin .append, #[s, x], #[t, t]⟩, ty, pos, after, gd⟩ :: l) Q ⟨tm, ob⟩ :=
  WG.ap hw hd ht he hz hz0 hby hs hj hee hx hroom k

mutual
theorem T.ren_under {r : Rn} : ∀ t : T, t.under 0 = true → t.ren r = t
  | .d _, _ => by simp [T.ren]
  | .agg cs, h => by simp only [T.ren]; rw [T.renL_under cs (by simpa [T.under] using h)]
  | .tup cs, h => by simp only [T.ren]; rw [T.renL_under cs (by simpa [T.under] using h)]
  | .clo f cs, h => by simp only [T.ren]; rw [T.renL_under cs (by simpa [T.under] using h)]
  | .lp _ _, h => by simp [T.under] at h
  | .og _ _, h => by simp [T.under] at h
  | .ea _ _, _ => by simp [T.ren]
  | .eg _ _ _ _ _, h => by simp [T.under] at h
  | .any, _ => by simp [T.ren]
theorem T.renL_under {r : Rn} : ∀ cs : List T, T.underL 0 cs = true → T.renL r cs = cs
  | [], _ => by simp [T.renL]
  | t :: s, h => by
    simp only [T.underL, Bool.and_eq_true] at h
    simp only [T.renL]
    rw [T.ren_under t h.1, T.renL_under s h.2]
end

/-- a call whose result is data -/
theorem WG.c {f : FuncId} {xs : List Operand} {tys : List TypeId} {args : List D} {t : T} (hw : St.want ⟨tm, ob⟩ ops ⟨some d, .call ⟨.value (.func f), xs.toArray, tys.toArray⟩, ty, pos, after, gd⟩ = some true) (hd : Nat.blt d N.n = true)
    (hc : Fun E.P f args t []) (hu : t.under 0 = true) (ha : argsOf E ⟨tm, ob⟩ xs tys = some args)
    (k : WG G E.P N ops l Q ⟨upd tm d t, ob⟩) : WG G E.P N ops (⟨some d, .call ⟨.value (.func f), xs.toArray, tys.toArray⟩, ty, pos, after, gd⟩ :: l) Q ⟨tm, ob⟩ := by
  refine WL.call (S := ⟨tm, ob⟩) hw hd hc ha ?_
  rw [pushT, T.ren_under t hu]
  show WG G E.P N ops l Q ⟨upd tm d t, ob ++ []⟩
  rw [List.append_nil]
  exact k
theorem WG.c' {f : FuncId} {xs : List Operand} {tys : List TypeId} {args : List D} {t : T} (hc : Fun E.P f args t []) (k : WG G E.P N ops l Q ⟨upd tm d t, ob⟩)
    (hw : St.want ⟨tm, ob⟩ ops ⟨some d, .call ⟨.value (.func f), xs.toArray, tys.toArray⟩, ty, pos, after, gd⟩ = some true := by exact rfl) (hd : Nat.blt d N.n = true := by exact rfl) (hu : t.under 0 = true := by exact rfl) (ha : argsOf E ⟨tm, ob⟩ xs tys = some args := by exact rfl) : WG G E.P N ops (⟨some d, .call ⟨.value (.func f), xs.toArray, tys.toArray⟩, ty, pos, after, gd⟩ :: l) Q ⟨tm, ob⟩ :=
  WG.c hw hd hc hu ha k

/-- a call without a result that is kept -/
theorem WG.cx {f : FuncId} {xs : List Operand} {tys : List TypeId} {args : List D} {t : T} (hw : St.want ⟨tm, ob⟩ ops ⟨none, .call ⟨.value (.func f), xs.toArray, tys.toArray⟩, ty, pos, after, gd⟩ = some true)
    (hc : Fun E.P f args t []) (ha : argsOf E ⟨tm, ob⟩ xs tys = some args)
    (k : WG G E.P N ops l Q ⟨tm, ob⟩) : WG G E.P N ops (⟨none, .call ⟨.value (.func f), xs.toArray, tys.toArray⟩, ty, pos, after, gd⟩ :: l) Q ⟨tm, ob⟩ := by
  refine WL.callx (S := ⟨tm, ob⟩) hw hc ha ?_
  show WG G E.P N ops l Q ⟨tm, ob ++ []⟩
  rw [List.append_nil]
  exact k
theorem WG.cx' {f : FuncId} {xs : List Operand} {tys : List TypeId} {args : List D} {t : T} (hc : Fun E.P f args t []) (k : WG G E.P N ops l Q ⟨tm, ob⟩)
    (hw : St.want ⟨tm, ob⟩ ops ⟨none, .call ⟨.value (.func f), xs.toArray, tys.toArray⟩, ty, pos, after, gd⟩ = some true := by exact rfl) (ha : argsOf E ⟨tm, ob⟩ xs tys = some args := by exact rfl) : WG G E.P N ops (⟨none, .call ⟨.value (.func f), xs.toArray, tys.toArray⟩, ty, pos, after, gd⟩ :: l) Q ⟨tm, ob⟩ :=
  WG.cx hw hc ha k

/-- a call whose results are of the callee's making -/
theorem WG.co {f : FuncId} {xs : List Operand} {tys : List TypeId} {args : List D} {t t' : T} {K : Nat} {ob1 ob2 : List Ob} (hw : St.want ⟨tm, ob⟩ ops ⟨some d, .call ⟨.value (.func f), xs.toArray, tys.toArray⟩, ty, pos, after, gd⟩ = some true) (hd : Nat.blt d N.n = true)
    (hc : Fun E.P f args t ob1) (ha : argsOf E ⟨tm, ob⟩ xs tys = some args) (hK : ob.length = K) (ht : pushT K t = t') (ho : pushO K ob1 = ob2)
    (k : WG G E.P N ops l Q ⟨upd tm d t', ob ++ ob2⟩) : WG G E.P N ops (⟨some d, .call ⟨.value (.func f), xs.toArray, tys.toArray⟩, ty, pos, after, gd⟩ :: l) Q ⟨tm, ob⟩ := by
  subst hK; subst ht; subst ho
  exact WL.call (S := ⟨tm, ob⟩) hw hd hc ha k
theorem WG.co' {f : FuncId} {xs : List Operand} {tys : List TypeId} {args : List D} {t t' : T} {K : Nat} {ob1 ob2 : List Ob} (hc : Fun E.P f args t ob1) (k : WG G E.P N ops l Q ⟨upd tm d t', ob ++ ob2⟩)
    (hw : St.want ⟨tm, ob⟩ ops ⟨some d, .call ⟨.value (.func f), xs.toArray, tys.toArray⟩, ty, pos, after, gd⟩ = some true := by exact rfl) (hd : Nat.blt d N.n = true := by exact rfl) (ha : argsOf E ⟨tm, ob⟩ xs tys = some args := by exact rfl) (hK : ob.length = K := by exact rfl) (ht : pushT K t = t' := by exact rfl) (ho : pushO K ob1 = ob2 := by exact rfl) : WG G E.P N ops (⟨some d, .call ⟨.value (.func f), xs.toArray, tys.toArray⟩, ty, pos, after, gd⟩ :: l) Q ⟨tm, ob⟩ :=
  WG.co hw hd hc ha hK ht ho k

/-- a call by a contract of one outcome: objects lent to be written (r), or all others lent to be read -/
theorem WG.cq {f : FuncId} {fop : Operand} {xs : List Operand} {tys : List TypeId} {cap args : List T} {obA obB ob2 : List Ob} {t t' : T} (idx off : List Nat) {K : Nat} (lend : Bool) (hw : St.want ⟨tm, ob⟩ ops ⟨some d, .call ⟨.value fop, xs.toArray, tys.toArray⟩, ty, pos, after, gd⟩ = some true) (hd : Nat.blt d N.n = true)
    (hc : FunQ E.P f args obA (just t obB)) (hclo : cloOf (norm ob (St.ev ⟨tm, ob⟩ fop)) = some (f, cap)) (hK : K = ob.length) (ha : argsT E ⟨tm, ob⟩ lend xs tys ++ cap = T.renL ⟨idx, off, K⟩ args) (hlp : T.lpOKL ⟨idx, off, K⟩ args = true) (hnd : nodupB idx = true)
    (hA : Nat.beq obA.length idx.length = true) (hs : startL ⟨idx, off, K⟩ 0 obA = true) (hmt : matchO ⟨idx, off, K⟩ ob 0 obA) (hno : lend = false ∨ idx = []) (hal : aliveN idx.length obB = true) (hfl : lend = true → t.flat = true ∧ ∀ o ∈ obB, o.flat)
    (ht : T.ren ⟨idx, off, K⟩ t = t') (ho : mergeO ⟨idx, off, K⟩ 0 ob idx obB = ob2)
    (k : WG G E.P N ops l Q ⟨upd tm d t', ob2⟩) : WG G E.P N ops (⟨some d, .call ⟨.value fop, xs.toArray, tys.toArray⟩, ty, pos, after, gd⟩ :: l) Q ⟨tm, ob⟩ := by
  subst ht; subst ho
  refine WL.callQ (S := ⟨tm, ob⟩) ⟨idx, off, K⟩ lend hw hd hc hclo ha hlp hK hnd hA hs hmt hno (fun t2 o2 h => ?_) fun t2 o2 h => ?_
  · obtain ⟨rfl, rfl⟩ := h
    exact ⟨hal, hfl⟩
  · obtain ⟨rfl, rfl⟩ := h
    exact k

theorem WG.cqx {f : FuncId} {fop : Operand} {xs : List Operand} {tys : List TypeId} {cap args : List T} {obA obB ob2 : List Ob} {t : T} (idx off : List Nat) {K : Nat} (lend : Bool) (hw : St.want ⟨tm, ob⟩ ops ⟨none, .call ⟨.value fop, xs.toArray, tys.toArray⟩, ty, pos, after, gd⟩ = some true)
    (hc : FunQ E.P f args obA (just t obB)) (hclo : cloOf (norm ob (St.ev ⟨tm, ob⟩ fop)) = some (f, cap)) (hK : K = ob.length) (ha : argsT E ⟨tm, ob⟩ lend xs tys ++ cap = T.renL ⟨idx, off, K⟩ args) (hlp : T.lpOKL ⟨idx, off, K⟩ args = true) (hnd : nodupB idx = true)
    (hA : Nat.beq obA.length idx.length = true) (hs : startL ⟨idx, off, K⟩ 0 obA = true) (hmt : matchO ⟨idx, off, K⟩ ob 0 obA) (hno : lend = false ∨ idx = []) (hal : aliveN idx.length obB = true) (hfl : lend = true → t.flat = true ∧ ∀ o ∈ obB, o.flat)
    (ho : mergeO ⟨idx, off, K⟩ 0 ob idx obB = ob2)
    (k : WG G E.P N ops l Q ⟨tm, ob2⟩) : WG G E.P N ops (⟨none, .call ⟨.value fop, xs.toArray, tys.toArray⟩, ty, pos, after, gd⟩ :: l) Q ⟨tm, ob⟩ := by
  subst ho
  refine WL.callQx (S := ⟨tm, ob⟩) ⟨idx, off, K⟩ lend hw hc hclo ha hlp hK hnd hA hs hmt hno (fun t2 o2 h => ?_) fun t2 o2 h => ?_
  · obtain ⟨rfl, rfl⟩ := h
    exact ⟨hal, hfl⟩
  · obtain ⟨rfl, rfl⟩ := h
    exact k

/-- the same, by a contract of many outcomes -/
theorem WG.cQ {f : FuncId} {fop : Operand} {xs : List Operand} {tys : List TypeId} {cap args : List T} {obA : List Ob} {R : T → List Ob → Prop} (idx off : List Nat) {K : Nat} (lend : Bool) (hw : St.want ⟨tm, ob⟩ ops ⟨some d, .call ⟨.value fop, xs.toArray, tys.toArray⟩, ty, pos, after, gd⟩ = some true) (hd : Nat.blt d N.n = true)
    (hc : FunQ E.P f args obA R) (hclo : cloOf (norm ob (St.ev ⟨tm, ob⟩ fop)) = some (f, cap)) (hK : K = ob.length) (ha : argsT E ⟨tm, ob⟩ lend xs tys ++ cap = T.renL ⟨idx, off, K⟩ args) (hlp : T.lpOKL ⟨idx, off, K⟩ args = true) (hnd : nodupB idx = true)
    (hA : Nat.beq obA.length idx.length = true) (hs : startL ⟨idx, off, K⟩ 0 obA = true) (hmt : matchO ⟨idx, off, K⟩ ob 0 obA) (hno : lend = false ∨ idx = []) (hal : ∀ t obB, R t obB → aliveN idx.length obB = true ∧ (lend = true → t.flat = true ∧ ∀ o ∈ obB, o.flat))
    (k : ∀ t obB, R t obB → WG G E.P N ops l Q ⟨upd tm d (T.ren ⟨idx, off, K⟩ t), mergeO ⟨idx, off, K⟩ 0 ob idx obB⟩) : WG G E.P N ops (⟨some d, .call ⟨.value fop, xs.toArray, tys.toArray⟩, ty, pos, after, gd⟩ :: l) Q ⟨tm, ob⟩ :=
  WL.callQ (S := ⟨tm, ob⟩) ⟨idx, off, K⟩ lend hw hd hc hclo ha hlp hK hnd hA hs hmt hno hal k

theorem WG.cQx {f : FuncId} {fop : Operand} {xs : List Operand} {tys : List TypeId} {cap args : List T} {obA : List Ob} {R : T → List Ob → Prop} (idx off : List Nat) {K : Nat} (lend : Bool) (hw : St.want ⟨tm, ob⟩ ops ⟨none, .call ⟨.value fop, xs.toArray, tys.toArray⟩, ty, pos, after, gd⟩ = some true)
    (hc : FunQ E.P f args obA R) (hclo : cloOf (norm ob (St.ev ⟨tm, ob⟩ fop)) = some (f, cap)) (hK : K = ob.length) (ha : argsT E ⟨tm, ob⟩ lend xs tys ++ cap = T.renL ⟨idx, off, K⟩ args) (hlp : T.lpOKL ⟨idx, off, K⟩ args = true) (hnd : nodupB idx = true)
    (hA : Nat.beq obA.length idx.length = true) (hs : startL ⟨idx, off, K⟩ 0 obA = true) (hmt : matchO ⟨idx, off, K⟩ ob 0 obA) (hno : lend = false ∨ idx = []) (hal : ∀ t obB, R t obB → aliveN idx.length obB = true ∧ (lend = true → t.flat = true ∧ ∀ o ∈ obB, o.flat))
    (k : ∀ t obB, R t obB → WG G E.P N ops l Q ⟨tm, mergeO ⟨idx, off, K⟩ 0 ob idx obB⟩) : WG G E.P N ops (⟨none, .call ⟨.value fop, xs.toArray, tys.toArray⟩, ty, pos, after, gd⟩ :: l) Q ⟨tm, ob⟩ :=
  WL.callQx (S := ⟨tm, ob⟩) ⟨idx, off, K⟩ lend hw hc hclo ha hlp hK hnd hA hs hmt hno hal k

/-- The ways through a region that only computes a test meet again. -/
theorem W.jb {id : Nat} (i : Nat) (b : Bool) (h : WG [] P N l l (fun e S' => e = .normal ∧ S'.ob = ob ∧ ∃ b', S'.tm i = .d (.v (.bool b')) ∧ b' = b ∧ leU (upd tm i .any) S'.tm) ⟨tm, ob⟩)
    (k : Q .normal ⟨upd tm i (.d (.v (.bool b))), ob⟩) : W P N (.region id l.toArray false) Q ⟨tm, ob⟩ := fun w0 σ0 a w g r =>
  wp_mono (wp_region_lit (h w0 σ0 a w g r)) fun e a' w' ⟨S', g', ⟨he, hob, b', hb, hbb, hle⟩, r'⟩ => by
    subst he
    obtain ⟨tm', ob'⟩ := S'
    simp only at hob hb hle
    subst hob; subst hbb
    refine ⟨⟨upd tm i (.d (.v (.bool b'))), ob'⟩, g', k, r'.inv, r'.defers, r'.size, r'.hm, r'.hl, fun j => ?_⟩
    by_cases e : j = i
    · subst e
      simp only [upd, show Nat.beq j j = true by simp, cond_true]
      have := r'.tm j
      rwa [show (⟨tm', ob'⟩ : St).tm j = tm' j from rfl, hb] at this
    · simp only [upd, nbeq e, cond_false]
      show RT g' (tm j) _
      have hj := hle j
      simp only [upd, nbeq e, cond_false] at hj
      rcases hj with h | h
      · rw [show tm j = .any from h]; exact .any _
      · rw [show tm j = tm' j from h.symm]; exact r'.tm j
end

end Go.Proofs.Yteooogngdejdgaa
