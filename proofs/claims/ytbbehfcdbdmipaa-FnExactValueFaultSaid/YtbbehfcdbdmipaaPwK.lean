/-
  The small logic, eleventh part: the rules once more, over states that are written out (slots and objects apart). Conditions: none.
-/
import Derived.Test.YtbbehfcdbdmipaaPwJ
set_option linter.unusedVariables false
set_option linter.unusedSimpArgs false
namespace Go.Proofs.Ytbbehfcdbdmipaa
open Go.RowKit

def upd (f : Nat → T) (i : Nat) (t : T) : Nat → T := fun j => bif Nat.beq j i then t else f j

/-- g knows all that f knows. -/
def leU (f g : Nat → T) : Prop := ∀ i, f i = .any ∨ g i = f i

theorem leU.refl (f : Nat → T) : leU f f := fun _ => .inr rfl
theorem leU.step {f g : Nat → T} {d : Nat} {t : T} (h : f d = .any) (k : leU f g) : leU f (upd g d t) := fun i => by
  by_cases e : i = d
  · subst e; exact .inl h
  · simp only [upd, nbeq e, cond_false]; exact k i
theorem leU.same {f g : Nat → T} {d : Nat} {t : T} (h : f d = t) (k : leU f g) : leU f (upd g d t) := fun i => by
  by_cases e : i = d
  · subst e
    simp only [upd, show Nat.beq i i = true by simp, cond_true]; exact .inr h.symm
  · simp only [upd, nbeq e, cond_false]; exact k i
theorem leU.forget {f g : Nat → T} {d : Nat} (k : leU f g) : leU (upd f d .any) g := fun i => by
  by_cases e : i = d
  · subst e
    simp only [upd, show Nat.beq i i = true by simp, cond_true]; exact .inl trivial
  · simp only [upd, nbeq e, cond_false]; exact k i

theorem Rel.leU {N : Nat} {w0 : World} {σ0 : Sto} {f g' : Nat → T} {ob : List Ob} {a : Act} {w : World} {g : Gh} (h : leU f g') (r : Rel N w0 σ0 ⟨g', ob⟩ a w g) : Rel N w0 σ0 ⟨f, ob⟩ a w g :=
  ⟨r.inv, r.defers, r.size, fun i => by
    show RT g (f i) _
    rcases h i with h | h
    · rw [h]; exact .any _
    · rw [← h]; exact r.tm i⟩

section
variable {P : Program} {E : Env} {N : Nat} {Q : Exit → St → Prop} {tm : Nat → T} {ob : List Ob} {ops l : List Oper} {op : Op} {ty : TypeId} {pos : String} {after : Array Edge} {gd : Option (Nat × Bool)} {d : Nat} {G : List Nat}

/-- The judgement on operations, with the numbers of those whose answers are laid open (they guard others). -/
def WG (_ : List Nat) (P : Program) (N : Nat) (ops l : List Oper) (Q : Exit → St → Prop) (S : St) : Prop := WL P N ops l Q S

theorem WG.nil (h : Q .normal ⟨tm, ob⟩) : WG G P N ops [] Q ⟨tm, ob⟩ := WL.nil h
theorem W.rg {id : Nat} (h : WG [] P N l l Q ⟨tm, ob⟩) : W P N (.region id l.toArray false) Q ⟨tm, ob⟩ := W.region h

theorem WG.leU' {g : Nat → T} (h : leU tm g) (k : WG G P N ops l Q ⟨tm, ob⟩) : WG G P N ops l Q ⟨g, ob⟩ := fun w0 σ0 a w gh r => k w0 σ0 a w gh (r.leU h)
theorem W.leU' {c : Code} {g : Nat → T} (h : leU tm g) (k : W P N c Q ⟨tm, ob⟩) : W P N c Q ⟨g, ob⟩ := fun w0 σ0 a w gh r => k w0 σ0 a w gh (r.leU h)

theorem WG.s {p : Prop} {t : T} (hw : St.want ⟨tm, ob⟩ ops ⟨some d, op, ty, pos, after, gd⟩ = some true) (hd : Nat.blt d N = true) (h : ev1 E ⟨tm, ob⟩ op ty = some (p, t)) (hp : p)
    (k : WG G E.P N ops l Q ⟨upd tm d t, ob⟩) : WG G E.P N ops (⟨some d, op, ty, pos, after, gd⟩ :: l) Q ⟨tm, ob⟩ := WL.simple hw hd h hp k

theorem WG.p (hw : St.want ⟨tm, ob⟩ ops ⟨some d, op, ty, pos, after, gd⟩ = some false) (hd : Nat.blt d N = true)
    (k : WG G P N ops l Q ⟨upd tm d (.d (.v undef)), ob⟩) : WG G P N ops (⟨some d, op, ty, pos, after, gd⟩ :: l) Q ⟨tm, ob⟩ := WL.pass hw hd k
theorem WG.px (hw : St.want ⟨tm, ob⟩ ops ⟨none, op, ty, pos, after, gd⟩ = some false)
    (k : WG G P N ops l Q ⟨tm, ob⟩) : WG G P N ops (⟨none, op, ty, pos, after, gd⟩ :: l) Q ⟨tm, ob⟩ := WL.passx hw k

theorem WG.sp {o p : Oper} {j : Nat} {b c : Bool} (hg : o.guard = some (j, b)) (hG : G.elem j = false) (hp : ops[j]? = some p) (hd : p.dst = some d) (hc : tm d = .d (.v (.bool c)))
    (ht : c = true → WG (j :: G) P N ops (o :: l) Q ⟨upd tm d (.d (.v (.bool true))), ob⟩) (hf : c = false → WG (j :: G) P N ops (o :: l) Q ⟨upd tm d (.d (.v (.bool false))), ob⟩) :
    WG G P N ops (o :: l) Q ⟨tm, ob⟩ := WL.split (S := ⟨tm, ob⟩) hg hp hd hc ht hf
/-- the guard's answer is known already -/
theorem WG.gt {o : Oper} {j : Nat} {b : Bool} (hg : o.guard = some (j, b)) (hG : G.elem j = false) (hw : St.want ⟨tm, ob⟩ ops o = some true) (k : WG (j :: G) P N ops (o :: l) Q ⟨tm, ob⟩) : WG G P N ops (o :: l) Q ⟨tm, ob⟩ := k
theorem WG.gf {o : Oper} {j : Nat} {b : Bool} (hg : o.guard = some (j, b)) (hG : G.elem j = false) (hw : St.want ⟨tm, ob⟩ ops o = some false) (k : WG (j :: G) P N ops (o :: l) Q ⟨tm, ob⟩) : WG G P N ops (o :: l) Q ⟨tm, ob⟩ := k

theorem WG.al {t : TypeId} {K : Nat} {zs : List D} (hw : St.want ⟨tm, ob⟩ ops ⟨some d, .alloc t, ty, pos, after, gd⟩ = some true) (hd : Nat.blt d N = true) (hk : (E.ty t).known = true) (hz : (E.ty t).zero = zs) (hK : ob.length = K)
    (k : WG G E.P N ops l Q ⟨upd tm d (.lp K 0), ob ++ [.pv (zs.map .d)]⟩) : WG G E.P N ops (⟨some d, .alloc t, ty, pos, after, gd⟩ :: l) Q ⟨tm, ob⟩ := by
  subst hK; subst hz; exact WL.alloc hw hd hk k

theorem WG.bx {t : TypeId} {x : Operand} {cs : List T} {K : Nat} (hw : St.want ⟨tm, ob⟩ ops ⟨some d, .box t x, ty, pos, after, gd⟩ = some true) (hd : Nat.blt d N = true)
    (hc : cellsT ob (St.ev ⟨tm, ob⟩ x) = some cs) (h1 : onesT cs = true) (h2 : cursT ob cs = true) (hK : ob.length = K)
    (k : WG G E.P N ops l Q ⟨upd tm d (.lp K 0), ob ++ [.pv cs]⟩) : WG G E.P N ops (⟨some d, .box t x, ty, pos, after, gd⟩ :: l) Q ⟨tm, ob⟩ := by
  subst hK; exact WL.box hw hd hc h1 h2 k

theorem WG.st {t : TypeId} {x v : Operand} {j off : Nat} {cs vals : List T} (hw : St.want ⟨tm, ob⟩ ops ⟨none, .store t x v, ty, pos, after, gd⟩ = some true) (hk : (E.ty t).known = true)
    (hx : St.ev ⟨tm, ob⟩ x = .lp j off) (hj : ob[j]? = some (.pv cs)) (hv : cellsT ob (fixNil E t (St.ev ⟨tm, ob⟩ v)) = some vals) (hn : Nat.beq vals.length (E.ty t).size = true) (ho : Nat.ble (off + vals.length) cs.length = true)
    (h1 : onesT vals = true) (h2 : cursT ob vals = true)
    (k : WG G E.P N ops l Q ⟨tm, ob.set j (.pv (setAll cs off vals))⟩) : WG G E.P N ops (⟨none, .store t x v, ty, pos, after, gd⟩ :: l) Q ⟨tm, ob⟩ := WL.store (S := ⟨tm, ob⟩) hw hk hx hj hv hn ho h1 h2 k

theorem WG.bd {t : TypeId} {parts : List (Nat × Operand)} {cs : List T} {r : T} (hw : St.want ⟨tm, ob⟩ ops ⟨some d, .build t parts.toArray, ty, pos, after, gd⟩ = some true) (hd : Nat.blt d N = true)
    (ha : (E.ty t).agg = true) (hf : fillT ob (E.ty t).offs ((E.ty t).zero.map .d) (evParts ⟨tm, ob⟩ parts) = some cs) (hr : mkAgg cs = r)
    (k : WG G E.P N ops l Q ⟨upd tm d r, ob⟩) : WG G E.P N ops (⟨some d, .build t parts.toArray, ty, pos, after, gd⟩ :: l) Q ⟨tm, ob⟩ := by
  subst hr; exact WL.build (S := ⟨tm, ob⟩) hw hd ha hf k

theorem WG.ix {t e : TypeId} {x ix : Operand} {z : Nat} {rows : List (List D)} {k : IntKind} {i : Int} {r : List D} (hw : St.want ⟨tm, ob⟩ ops ⟨some d, .indexAddr t x ix, ty, pos, after, gd⟩ = some true) (hd : Nat.blt d N = true)
    (ht : (E.ty t).kind = .slice e) (he : (E.ty e).known = true) (hz : (E.ty e).size = z) (hx : norm ob (St.ev ⟨tm, ob⟩ x) = .d (.sl z rows)) (hi : St.ev ⟨tm, ob⟩ ix = .d (.v (.int k i)))
    (hb : 0 ≤ i ∧ i < rows.length) (hr : rows[i.toNat]? = some r)
    (kk : WG G E.P N ops l Q ⟨upd tm d (.ea r 0), ob⟩) : WG G E.P N ops (⟨some d, .indexAddr t x ix, ty, pos, after, gd⟩ :: l) Q ⟨tm, ob⟩ := WL.index (S := ⟨tm, ob⟩) hw hd ht he hz hx hi hb hr kk

theorem WG.ixm {α : Type} [Inhabited α] {f f' : α → List D} {xs : List α} {t e : TypeId} {x ix : Operand} {z : Nat} {k : IntKind} {i : Int} (hw : St.want ⟨tm, ob⟩ ops ⟨some d, .indexAddr t x ix, ty, pos, after, gd⟩ = some true) (hd : Nat.blt d N = true)
    (ht : (E.ty t).kind = .slice e) (he : (E.ty e).known = true) (hz : (E.ty e).size = z) (hx : norm ob (St.ev ⟨tm, ob⟩ x) = .d (.sl z (xs.map f))) (hi : St.ev ⟨tm, ob⟩ ix = .d (.v (.int k i)))
    (hf : ∀ x, f x = f' x) (hb : 0 ≤ i ∧ i < xs.length)
    (kk : WG G E.P N ops l Q ⟨upd tm d (.ea (f' (xs.getD i.toNat default)) 0), ob⟩) : WG G E.P N ops (⟨some d, .indexAddr t x ix, ty, pos, after, gd⟩ :: l) Q ⟨tm, ob⟩ := by
  have hlt : i.toNat < xs.length := by omega
  exact WL.index (S := ⟨tm, ob⟩) hw hd ht he hz hx hi (by simpa using hb) (by rw [← hf]; simp [hlt]) kk

theorem WG.ixo {t e : TypeId} {x ix : Operand} {z : Nat} {e' : TypeId} {rows : List (List D)} {n m : Nat} {pub : Bool} {k : IntKind} {i : Int} (hw : St.want ⟨tm, ob⟩ ops ⟨some d, .indexAddr t x ix, ty, pos, after, gd⟩ = some true) (hd : Nat.blt d N = true)
    (ht : (E.ty t).kind = .slice e) (he : (E.ty e).known = true) (hz : (E.ty e).size = z) (hx : St.ev ⟨tm, ob⟩ x = .og m n) (hm : ob[m]? = some (.gr z e' rows n pub)) (hi : St.ev ⟨tm, ob⟩ ix = .d (.v (.int k i)))
    (hb : 0 ≤ i ∧ i < rows.length)
    (kk : WG G E.P N ops l Q ⟨upd tm d (.eg m n z i.toNat 0), ob⟩) : WG G E.P N ops (⟨some d, .indexAddr t x ix, ty, pos, after, gd⟩ :: l) Q ⟨tm, ob⟩ := WL.indexOg (S := ⟨tm, ob⟩) hw hd ht he hz hx hm hi hb kk

theorem WG.leg {t : TypeId} {x : Operand} {z : Nat} {e' : TypeId} {rows : List (List D)} {n m i off : Nat} {pub : Bool} {r : List D} {res : D} (hw : St.want ⟨tm, ob⟩ ops ⟨some d, .load t x, ty, pos, after, gd⟩ = some true) (hd : Nat.blt d N = true)
    (hk : (E.ty t).known = true) (hx : St.ev ⟨tm, ob⟩ x = .eg m n z i off) (hm : ob[m]? = some (.gr z e' rows n pub)) (hr : rows[i]? = some r)
    (hres : (bif (E.ty t).agg then (bif Nat.ble (off + (E.ty t).size) r.length then some (.agg ((r.drop off).take (E.ty t).size)) else none) else r[off]?) = some res)
    (kk : WG G E.P N ops l Q ⟨upd tm d (.d res), ob⟩) : WG G E.P N ops (⟨some d, .load t x, ty, pos, after, gd⟩ :: l) Q ⟨tm, ob⟩ := WL.loadEg (S := ⟨tm, ob⟩) hw hd hk hx hm hr hres kk

theorem WG.slD {t e : TypeId} {x : Operand} {lo hi : Option Operand} {z : Nat} {rows : List (List D)} {li hh : Int} (hw : St.want ⟨tm, ob⟩ ops ⟨some d, .slice t x lo hi none, ty, pos, after, gd⟩ = some true) (hd : Nat.blt d N = true)
    (ht : (E.ty t).kind = .slice e) (he : (E.ty e).known = true) (hz : (E.ty e).size = z) (hx : norm ob (St.ev ⟨tm, ob⟩ x) = .d (.sl z rows)) (hlo : evLow ⟨tm, ob⟩ lo = some li)
    (hhi : evBound ⟨tm, ob⟩ rows.length hi = some hh) (hb : 0 ≤ li ∧ li ≤ hh ∧ hh ≤ rows.length)
    (kk : WG G E.P N ops l Q ⟨upd tm d (.d (.sl z ((rows.drop li.toNat).take (hh.toNat - li.toNat)))), ob⟩) : WG G E.P N ops (⟨some d, .slice t x lo hi none, ty, pos, after, gd⟩ :: l) Q ⟨tm, ob⟩ :=
  WL.sliceD (S := ⟨tm, ob⟩) hw hd ht he hz hx hlo hhi hb kk

theorem WG.slS {t : TypeId} {x : Operand} {lo hi : Option Operand} {s : ByteArray} {li hh : Int} (hw : St.want ⟨tm, ob⟩ ops ⟨some d, .slice t x lo hi none, ty, pos, after, gd⟩ = some true) (hd : Nat.blt d N = true)
    (ht : (E.ty t).kind = .string) (hx : St.ev ⟨tm, ob⟩ x = .d (.v (.string s))) (hlo : evLow ⟨tm, ob⟩ lo = some li)
    (hhi : evBound ⟨tm, ob⟩ s.size hi = some hh) (hb : 0 ≤ li ∧ li ≤ hh ∧ hh ≤ s.size)
    (kk : WG G E.P N ops l Q ⟨upd tm d (.d (.v (.string (s.extract li.toNat hh.toNat)))), ob⟩) : WG G E.P N ops (⟨some d, .slice t x lo hi none, ty, pos, after, gd⟩ :: l) Q ⟨tm, ob⟩ :=
  WL.sliceS (S := ⟨tm, ob⟩) hw hd ht hx hlo hhi hb kk

theorem WG.bs {t e : TypeId} {len : Nat} {parts : List (Nat × Operand)} {z K : Nat} {rows : List (List D)} (hw : St.want ⟨tm, ob⟩ ops ⟨some d, .buildSlice t len parts.toArray, ty, pos, after, gd⟩ = some true) (hd : Nat.blt d N = true)
    (ht : (E.ty t).kind = .slice e) (he : (E.ty e).known = true) (hz : (E.ty e).size = z) (hz0 : Nat.blt 0 z = true) (hlen : Nat.beq len parts.length = true) (hmax : Nat.ble (len * z) 16777216 = true)
    (hrows : rowsOf ⟨tm, ob⟩ 0 parts = some rows) (hwd : widths z rows = true) (hK : ob.length = K)
    (k : WG G E.P N ops l Q ⟨upd tm d (.og K 0), ob ++ [.gr z e rows 0 false]⟩) : WG G E.P N ops (⟨some d, .buildSlice t len parts.toArray, ty, pos, after, gd⟩ :: l) Q ⟨tm, ob⟩ := by
  subst hK; exact WL.buildSlice (S := ⟨tm, ob⟩) hw hd ht he hz hz0 hlen hmax hrows hwd k

theorem WG.apN {t e : TypeId} {s x : Operand} {z K : Nat} {rows : List (List D)} (hw : St.want ⟨tm, ob⟩ ops ⟨some d, .call ⟨.builtin .append, #[s, x], #[t, t]⟩, ty, pos, after, gd⟩ = some true) (hd : Nat.blt d N = true)
    (ht : (E.ty t).kind = .slice e) (he : (E.ty e).known = true) (hz : (E.ty e).size = z) (hz0 : Nat.blt 0 z = true) (hby : Nat.ble 1 (E.ty e).bytes = true) (hs : nilT (St.ev ⟨tm, ob⟩ s) = true) (hx : srcRows ob (St.ev ⟨tm, ob⟩ x) = some (z, rows)) (hK : ob.length = K)
    (hroom : (0 + rows.length) * (E.ty e).bytes ≤ 140737488355328)
    (k : WG G E.P N ops l Q ⟨upd tm d (.og K 0), ob ++ [.gr z e rows 0 false]⟩) : WG G E.P N ops (⟨some d, .call ⟨.builtin .append, #[s, x], #[t, t]⟩, ty, pos, after, gd⟩ :: l) Q ⟨tm, ob⟩ := by
  subst hK; exact WL.appendNil (S := ⟨tm, ob⟩) hw hd ht he hz hz0 hby hs hx hroom k

theorem WG.ap {t e e' : TypeId} {s x : Operand} {z j n : Nat} {rows rows' : List (List D)} (hw : St.want ⟨tm, ob⟩ ops ⟨some d, .call ⟨.builtin .append, #[s, x], #[t, t]⟩, ty, pos, after, gd⟩ = some true) (hd : Nat.blt d N = true)
    (ht : (E.ty t).kind = .slice e) (he : (E.ty e).known = true) (hz : (E.ty e).size = z) (hz0 : Nat.blt 0 z = true) (hby : Nat.ble 1 (E.ty e).bytes = true) (hs : St.ev ⟨tm, ob⟩ s = .og j n) (hj : ob[j]? = some (.gr z e' rows n false)) (hee : Nat.beq e e' = true)
    (hx : srcRows ob (St.ev ⟨tm, ob⟩ x) = some (z, rows')) (hroom : (rows.length + rows'.length) * (E.ty e).bytes ≤ 140737488355328)
    (k : WG G E.P N ops l Q ⟨upd tm d (.og j (n + 1)), ob.set j (.gr z e' (rows ++ rows') (n + 1) false)⟩) : WG G E.P N ops (⟨some d, .call ⟨.builtin .append, #[s, x], #[t, t]⟩, ty, pos, after, gd⟩ :: l) Q ⟨tm, ob⟩ :=
  WL.append (S := ⟨tm, ob⟩) hw hd ht he hz hz0 hby hs hj hee hx hroom k

mutual
theorem T.shift_under {K : Nat} : ∀ t : T, t.under 0 = true → t.shift K = t
  | .d _, _ => by simp [T.shift]
  | .agg cs, h => by simp only [T.shift]; rw [T.shiftL_under cs (by simpa [T.under] using h)]
  | .tup cs, h => by simp only [T.shift]; rw [T.shiftL_under cs (by simpa [T.under] using h)]
  | .lp _ _, h => by simp [T.under] at h
  | .og _ _, h => by simp [T.under] at h
  | .ea _ _, _ => by simp [T.shift]
  | .eg _ _ _ _ _, h => by simp [T.under] at h
  | .any, _ => by simp [T.shift]
theorem T.shiftL_under {K : Nat} : ∀ cs : List T, T.underL 0 cs = true → T.shiftL K cs = cs
  | [], _ => by simp [T.shiftL]
  | t :: r, h => by
    simp only [T.underL, Bool.and_eq_true] at h
    simp only [T.shiftL]
    rw [T.shift_under t h.1, T.shiftL_under r h.2]
end

/-- a call whose result is data -/
theorem WG.c {f : FuncId} {xs : List Operand} {tys : List TypeId} {args : List D} {t : T} (hw : St.want ⟨tm, ob⟩ ops ⟨some d, .call ⟨.value (.func f), xs.toArray, tys.toArray⟩, ty, pos, after, gd⟩ = some true) (hd : Nat.blt d N = true)
    (hc : Fun E.P f args t []) (hu : t.under 0 = true) (ha : argsOf E ⟨tm, ob⟩ xs tys = some args)
    (k : WG G E.P N ops l Q ⟨upd tm d t, ob⟩) : WG G E.P N ops (⟨some d, .call ⟨.value (.func f), xs.toArray, tys.toArray⟩, ty, pos, after, gd⟩ :: l) Q ⟨tm, ob⟩ := by
  refine WL.call (S := ⟨tm, ob⟩) hw hd hc ha ?_
  rw [T.shift_under t hu]
  show WG G E.P N ops l Q ⟨upd tm d t, ob ++ List.map _ []⟩
  rw [List.map_nil, List.append_nil]
  exact k

/-- a call whose result is one slice that it has made (alone or in a struct) -/
theorem WG.co {f : FuncId} {xs : List Operand} {tys : List TypeId} {args : List D} {t t' : T} {z K : Nat} {e : TypeId} {rows : List (List D)} {pub : Bool} (hw : St.want ⟨tm, ob⟩ ops ⟨some d, .call ⟨.value (.func f), xs.toArray, tys.toArray⟩, ty, pos, after, gd⟩ = some true) (hd : Nat.blt d N = true)
    (hc : Fun E.P f args t [.gr z e rows 0 pub]) (ha : argsOf E ⟨tm, ob⟩ xs tys = some args) (hK : ob.length = K) (ht : t.shift K = t')
    (k : WG G E.P N ops l Q ⟨upd tm d t', ob ++ [.gr z e rows 0 pub]⟩) : WG G E.P N ops (⟨some d, .call ⟨.value (.func f), xs.toArray, tys.toArray⟩, ty, pos, after, gd⟩ :: l) Q ⟨tm, ob⟩ := by
  subst hK; subst ht
  exact WL.call (S := ⟨tm, ob⟩) hw hd hc ha k

/-- The ways through a region that only computes a test meet again. -/
theorem W.jb {id : Nat} (i : Nat) (b : Bool) (h : WG [] P N l l (fun e S' => e = .normal ∧ S'.ob = ob ∧ ∃ b', S'.tm i = .d (.v (.bool b')) ∧ b' = b ∧ leU (upd tm i .any) S'.tm) ⟨tm, ob⟩)
    (k : Q .normal ⟨upd tm i (.d (.v (.bool b))), ob⟩) : W P N (.region id l.toArray false) Q ⟨tm, ob⟩ := fun w0 σ0 a w g r =>
  wp_mono (wp_region_lit (h w0 σ0 a w g r)) fun e a' w' ⟨S', g', ⟨he, hob, b', hb, hbb, hle⟩, r'⟩ => by
    subst he
    obtain ⟨tm', ob'⟩ := S'
    simp only at hob hb hle
    subst hob; subst hbb
    refine ⟨⟨upd tm i (.d (.v (.bool b'))), ob'⟩, g', k, r'.inv, r'.defers, r'.size, fun j => ?_⟩
    by_cases e : j = i
    · subst e
      simp only [upd, show Nat.beq j j = true by simp, cond_true]
      have := r'.tm j
      rwa [show (⟨tm', ob'⟩ : St).tm j = tm' j from rfl, hb] at this
    · simp only [upd, nbeq e, cond_false]
      show RT g' (tm j) _
      have hj := hle j
      simp only [upd, nbeq e, cond_false] at hj
      rcases hj with h | h
      · rw [show tm j = .any from h]; exact .any _
      · rw [show tm j = tm' j from h.symm]; exact r'.tm j
end

end Go.Proofs.Ytbbehfcdbdmipaa
