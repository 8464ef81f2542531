/-
  The small logic, fifth part: the operations that only compute, one evaluator ('ev1') and its soundness. Conditions: none.
-/
import Derived.Test.YteooogngdejdgaaPwD
set_option linter.unusedVariables false
set_option linter.unusedSimpArgs false
namespace Go.Proofs.Yteooogngdejdgaa
open Go.RowKit

def byteAt (s : ByteArray) (i : Nat) : Int := ((s.data.toList.getD i 0).toNat : Int)

theorem byteAt_range (s : ByteArray) (i : Nat) : 0 ≤ byteAt s i ∧ byteAt s i ≤ 255 := by
  unfold byteAt
  have := (s.data.toList.getD i 0).toNat_lt
  omega

/-- A nil slice among what is moved gets its elements' size by the type. -/
def fixNil (E : Env) (t : TypeId) : T → T
  | .d (.v (.slice none 0 0)) => match (E.ty t).kind with | .slice e => .d (.nl (E.ty e).size) | _ => .d (.v (.slice none 0 0))
  | x => x

theorem RT.fixNil {g : Gh} {x : T} {u : Value} (E : Env) (t : TypeId) (h : RT g x u) : RT g (fixNil E t x) u := by
  unfold Go.Proofs.Yteooogngdejdgaa.fixNil
  split
  · split
    · have := h.inv_v; subst this; exact .d _ _ (.nl _)
    · exact h
  · exact h

def evPick (c a b : T) : Option (Prop × T) :=
  match c with
  | .d (.v (.bool true)) => some (True, a)
  | .d (.v (.bool false)) => some (True, b)
  | _ => none

def evUn (op : UnOp) (x : T) : Option (Prop × T) :=
  match op, x with
  | .not, .d (.v (.bool b)) => some (True, vB !b)
  | .neg, .d (.v (.int k a)) => some (inRange k (-a), vI k (-a))
  | _, _ => none

def evConv (E : Env) (src dst : TypeId) (x : T) : Option (Prop × T) :=
  match x with
  | .d (.v (.int k a)) => bif (E.ty src).known then (match (E.ty dst).kind with | .int k' => some (inRange k' a, vI k' a) | _ => none) else none
  | .d (.v (.string s)) => bif (E.ty src).known then (match (E.ty dst).kind with | .string => some (True, vS s) | _ => none) else none
  | _ => none

def evFieldAddr (E : Env) (s : TypeId) (x : T) (f : Nat) : Option (Prop × T) :=
  bif (E.ty s).agg then
    match (E.ty s).offs[f]? with
    | some (o, _, _) => match x with
      | .lp l off => some (True, .lp l (off + o))
      | .ea r off => some (True, .ea r (off + o))
      | .eg k n z i off => some (True, .eg k n z i (off + o))
      | _ => none
    | none => none
  else none

def evField (E : Env) (s : TypeId) (x : T) (f : Nat) : Option (Prop × T) :=
  bif (E.ty s).agg then
    match (E.ty s).offs[f]? with
    | some (o, n, b) => match x with
      | .d (.agg cs) => bif b then some (True, .d (.agg ((cs.drop o).take n))) else (match cs[o]? with | some c => some (True, .d c) | none => none)
      | .agg cs => bif b then some (True, mkAgg ((cs.drop o).take n)) else (match cs[o]? with | some c => some (True, c) | none => none)
      | _ => none
    | none => none
  else none

def evLoad (E : Env) (S : St) (t : TypeId) (x : T) : Option (Prop × T) :=
  bif (E.ty t).known then
    match x with
    | .lp l off => match S.ob[l]? with
      | some (.pv cs) =>
        bif (E.ty t).agg then (bif Nat.ble (off + (E.ty t).size) cs.length then some (True, mkAgg ((cs.drop off).take (E.ty t).size)) else none)
        else (match cs[off]? with | some c => some (True, c) | none => none)
      | _ => none
    | .ea r off =>
      bif (E.ty t).agg then (bif Nat.ble (off + (E.ty t).size) r.length then some (True, .d (.agg ((r.drop off).take (E.ty t).size))) else none)
      else (match r[off]? with | some c => some (True, .d c) | none => none)
    | _ => none
  else none

def evExtract (x : T) (i : Nat) : Option (Prop × T) :=
  match x with
  | .tup cs => match cs[i]? with | some c => some (True, c) | none => none
  | _ => none

def evLen (E : Env) (S : St) (t : TypeId) (x : T) : Option (Prop × T) :=
  match (E.ty t).kind with
  | .string => match x with | .d (.v (.string s)) => some (True, vI .i64 s.size) | _ => none
  | .slice _ => match x with
    | .d (.sl _ rows) => some (True, vI .i64 rows.length)
    | .d (.nl _) => some (True, vI .i64 0)
    | .d (.v (.slice none 0 0)) => some (True, vI .i64 0)
    | .og k n => match S.ob[k]? with
      | some (.gr _ _ rows m _) => bif Nat.beq m n then some (True, vI .i64 rows.length) else none
      | _ => none
    | _ => none
  | _ => none

def evIndex (E : Env) (t : TypeId) (x i : T) : Option (Prop × T) :=
  match (E.ty t).kind with
  | .string => match x, i with
    | .d (.v (.string s)), .d (.v (.int _ j)) => some (0 ≤ j ∧ j < s.size, vI .u8 (byteAt s j.toNat))
    | _, _ => none
  | _ => none

/-- Two truths compared. -/
def evEq (E : Env) (op : BinOp) (t : TypeId) (x y : T) : Option Bool :=
  match (E.ty t).kind, x, y with
  | .bool, .d (.v (.bool a)), .d (.v (.bool b)) => match op with
    | .eql => some (a == b)
    | .neq => some (!(a == b))
    | _ => none
  | _, _, _ => none

def ev1 (E : Env) (S : St) (op : Op) (ty : TypeId) : Option (Prop × T) :=
  match op with
  | .move x => some (True, fixNil E ty (S.ev x))
  | .assign x => some (True, fixNil E ty (S.ev x))
  | .pick c a b => evPick (S.ev c) (S.ev a) (S.ev b)
  | .binOp op t x y _ => match evBin op (S.ev x) (S.ev y) with
    | some (c, v) => some (c, .d (.v v))
    | none => match evEq E op t (S.ev x) (S.ev y) with | some b => some (True, .d (.v (.bool b))) | none => none
  | .unOp op _ x => evUn op (S.ev x)
  | .convert s d x => evConv E s d (S.ev x)
  | .fieldAddr s x f => evFieldAddr E s (S.ev x) f
  | .field s x f => evField E s (S.ev x) f
  | .load t x => evLoad E S t (S.ev x)
  | .extract x i => evExtract (S.ev x) i
  | .index t x i => evIndex E t (S.ev x) (S.ev i)
  | .makeFunc fn first cap => match fn, first.toList with
    | .func f, [] => some (True, .clo f (cap.toList.map S.ev))
    | _, _ => none
  | .nilCheck x => match S.ev x with
    | .lp l off => some (True, .lp l off)
    | .ea r off => some (True, .ea r off)
    | .clo f cs => some (True, .clo f cs)
    | _ => none
  | .call ⟨.builtin .len, args, ts⟩ => match args.toList, ts.toList with
    | [x], [t] => evLen E S t (S.ev x)
    | _, _ => none
  | .call ⟨.builtin .max, args, _⟩ => match args.toList with
    | [x, y] => match S.ev x, S.ev y with
      | .d (.v (.int k a)), .d (.v (.int _ b)) => some (True, .d (.v (.int k (max a b))))
      | _, _ => none
    | _ => none
  | .call ⟨.builtin .min, args, _⟩ => match args.toList with
    | [x, y] => match S.ev x, S.ev y with
      | .d (.v (.int k a)), .d (.v (.int _ b)) => some (True, .d (.v (.int k (min a b))))
      | _, _ => none
    | _ => none
  | _ => none

section
variable {E : Env} {N : Nm} {S : St} {w0 : World} {σ0 : Bs} {a : Act} {w : World} {g : Gh}

theorem evPick_ok {c x y : T} {u u1 u2 : Value} {p : Prop} {t : T} (h : evPick c x y = some (p, t)) (hc : RT g c u) (hx : RT g x u1) (hy : RT g y u2) :
    (do pure (Next.value (if ← asBool u then u1 else u2)) : Sem Next).run E.P w = .ok (.value (if u matches .bool true then u1 else u2)) w ∧ RT g t (if u matches .bool true then u1 else u2) := by
  unfold evPick at h
  split at h
  · have := hc.inv_v; subst this
    simp only [Option.some.injEq, Prod.mk.injEq] at h
    obtain ⟨_, rfl⟩ := h
    exact ⟨by simp [asBool], by simpa using hx⟩
  · have := hc.inv_v; subst this
    simp only [Option.some.injEq, Prod.mk.injEq] at h
    obtain ⟨_, rfl⟩ := h
    exact ⟨by simp [asBool], by simpa using hy⟩
  · cases h

theorem heap_lt {w : World} {b : Nat} {o : Obj} (h : w.heap[b]? = some o) : b < w.heap.size := (Array.getElem?_eq_some_iff.1 h).1
theorem cell_lt {w : World} {b o : Nat} {v : Value} (h : w.cell? ⟨b, o, none⟩ = some v) : b < w.heap.size := by
  unfold World.cell? at h
  split at h
  · rename_i h'; exact heap_lt h'
  · cases h

theorem evUn_ok {op : UnOp} {x : T} {u : Value} {p : Prop} {t : T} (h : evUn op x = some (p, t)) (hp : p) (hx : RT g x u) :
    ∃ v, (∀ w' : World, Below w.heap.size w w' → (Op.unary op u).run E.P w' = .ok v w') ∧ RT g t v := by
  unfold evUn at h
  split at h
  · have := hx.inv_v; subst this
    simp only [Option.some.injEq, Prod.mk.injEq] at h
    obtain ⟨_, rfl⟩ := h
    exact ⟨_, fun w' hw' => by simp [Op.unary], .d _ _ (.v _)⟩
  · have := hx.inv_v; subst this
    simp only [Option.some.injEq, Prod.mk.injEq] at h
    obtain ⟨rfl, rfl⟩ := h
    rename_i k n
    have hz : (0 : Int) - n = -n := by omega
    exact ⟨_, fun w' hw' => by simp [Op.unary, Op.intArith, hz, wrap_range hp], .d _ _ (.v _)⟩
  · cases h

theorem evConv_ok {src dst : TypeId} {x : T} {u : Value} {p : Prop} {t : T} (h : evConv E src dst x = some (p, t)) (hp : p) (hx : RT g x u) :
    ∃ v, (∀ w' : World, Below w.heap.size w w' → (convert src dst u).run E.P w' = .ok v w') ∧ RT g t v := by
  unfold evConv at h
  split at h
  · have := hx.inv_v; subst this
    rename_i k n
    cases hk : (E.ty src).known with
    | false => rw [hk] at h; cases h
    | true =>
      rw [hk, cond_true] at h
      split at h
      · rename_i k' hd
        simp only [Option.some.injEq, Prod.mk.injEq] at h
        obtain ⟨rfl, rfl⟩ := h
        have hs : ∃ d, E.P.underlying src = some d := by
          by_cases ha : (E.ty src).agg = true
          · obtain ⟨_, fs, h, _⟩ := E.struct ha; exact ⟨_, h⟩
          · obtain ⟨d, h, _⟩ := E.single hk (by simpa using ha); exact ⟨_, h⟩
        obtain ⟨d, hs⟩ := hs
        exact ⟨_, fun w' hw' => by simp [convert, run_underlying hs, run_underlying (E.int hd), Conv.intToInt, wrap_range hp], .d _ _ (.v _)⟩
      · cases h
  · have := hx.inv_v; subst this
    rename_i s
    cases hk : (E.ty src).known with
    | false => rw [hk] at h; cases h
    | true =>
      rw [hk, cond_true] at h
      split at h
      · rename_i hd
        simp only [Option.some.injEq, Prod.mk.injEq] at h
        obtain ⟨rfl, rfl⟩ := h
        have hs : ∃ d, E.P.underlying src = some d := by
          by_cases ha : (E.ty src).agg = true
          · obtain ⟨_, fs, h, _⟩ := E.struct ha; exact ⟨_, h⟩
          · obtain ⟨d, h, _⟩ := E.single hk (by simpa using ha); exact ⟨_, h⟩
        obtain ⟨d, hs⟩ := hs
        exact ⟨_, fun w' hw' => by simp [convert, run_underlying hs, run_underlying (E.string hd)], .d _ _ (.v _)⟩
      · cases h
  · cases h

theorem RT.inv_ea {r : List D} {off : Nat} {u : Value} (h : RT g (.ea r off) u) : ∃ (b o : Nat) (U : Nat → Value), u = .pointer (some ⟨b, o + off, none⟩) ∧
    (∀ j, j < r.length → g.σ b (o + j) = some (U j) ∧ (U j).oneCell' = true) ∧ ∀ (j : Nat) (x : D), r[j]? = some x → RD g.σ x (U j) := by
  cases h with
  | ea _ _ b o U hc hr => exact ⟨b, o, U, rfl, hc, hr⟩
theorem RT.inv_eg {k n z i off : Nat} {u : Value} (h : RT g (.eg k n z i off) u) : ∃ (b len cap : Nat), n < g.lim k ∧ g.γ k n = .slice (some ⟨b, 0, none⟩) len cap ∧ u = .pointer (some ⟨b, i * z + off, none⟩) := by
  cases h with
  | eg _ _ _ _ _ b len cap h hg => exact ⟨b, len, cap, h, hg, rfl⟩

theorem evFieldAddr_ok {s : TypeId} {x : T} {f : Nat} {u : Value} {p : Prop} {t : T} (h : evFieldAddr E s x f = some (p, t)) (hx : RT g x u) :
    ∃ v, (∀ w' : World, Below w.heap.size w w' → (Instr.fieldAt s u f).run E.P w' = .ok v w') ∧ RT g t v := by
  unfold evFieldAddr at h
  cases ha : (E.ty s).agg with
  | false => rw [ha] at h; cases h
  | true =>
    rw [ha, cond_true] at h
    split at h
    · rename_i o n b ho
      obtain ⟨_, fs, hu, hoffs⟩ := E.struct ha
      obtain ⟨fd, inf, hfd, hoff, hinf, hsz, hn0, _⟩ := offsAre_at hoffs f o n b ho
      have hfd' : fs[f]? = some fd := by simpa using hfd
      have run : ∀ (w' : World) (a : Addr), (Instr.fieldAt s (.pointer (some a)) f).run E.P w' = .ok (.pointer (some (a.add o))) w' := fun w' a => by
        simp [Instr.fieldAt, run_underlying hu, hfd', Instr.sureAddr, fieldPlace, sizeOf, typeInfo, hinf, hsz, hn0, hoff]
      split at h
      · rename_i l off
        obtain ⟨b', h0, hγ, rfl⟩ := hx.inv_lp
        simp only [Option.some.injEq, Prod.mk.injEq] at h
        obtain ⟨_, rfl⟩ := h
        exact ⟨_, fun w' _ => run w' _, by rw [Addr.add_lit]; exact .lp l (off + o) b' h0 hγ⟩
      · rename_i r off
        obtain ⟨b', o', U, rfl, hc, hr⟩ := hx.inv_ea
        simp only [Option.some.injEq, Prod.mk.injEq] at h
        obtain ⟨_, rfl⟩ := h
        exact ⟨_, fun w' _ => run w' _, by rw [Addr.add_lit, Nat.add_assoc]; exact .ea r (off + o) b' o' U hc hr⟩
      · rename_i k m z i off
        obtain ⟨b', len, cap, h0, hγ, rfl⟩ := hx.inv_eg
        simp only [Option.some.injEq, Prod.mk.injEq] at h
        obtain ⟨_, rfl⟩ := h
        exact ⟨_, fun w' _ => run w' _, by rw [Addr.add_lit, Nat.add_assoc]; exact .eg k m z i (off + o) b' len cap h0 hγ⟩
      · cases h
    · cases h

theorem run_isAgg_struct {P : Program} {t : TypeId} {fs : Array Field} {w : World} (h : P.underlying t = some (.struct fs)) : (isAgg t).run P w = .ok true w := by
  simp [isAgg, run_underlying h]
theorem run_isAgg_single {P : Program} {t : TypeId} {d : TypeDesc} {w : World} (h : P.underlying t = some d) (h1 : ∀ fs, d ≠ .struct fs) (h2 : ∀ n e, d ≠ .array n e) : (isAgg t).run P w = .ok false w := by
  cases d with
  | struct fs => exact (h1 fs rfl).elim
  | array n e => exact (h2 n e rfl).elim
  | _ => simp [isAgg, run_underlying h]

theorem evField_ok {s : TypeId} {x : T} {f : Nat} {u : Value} {p : Prop} {t : T} (h : evField E s x f = some (p, t)) (hx : RT g x u) :
    ∃ v, (∀ w' : World, Below w.heap.size w w' → (Instr.field s u f).run E.P w' = .ok v w') ∧ RT g t v := by
  unfold evField at h
  cases ha : (E.ty s).agg with
  | false => rw [ha] at h; cases h
  | true =>
    rw [ha, cond_true] at h
    split at h
    · rename_i o n b ho
      obtain ⟨_, fs, hu, hoffs⟩ := E.struct ha
      obtain ⟨fd, inf, hfd, hoff, hinf, hsz, hn0, hagg⟩ := offsAre_at hoffs f o n b ho
      have hfd' : fs[f]? = some fd := by simpa using hfd
      have runA : b = true → ∀ (vs : List Value) (w : World), (Instr.field s (.agg vs.toArray) f).run E.P w = .ok (.agg ((vs.drop o).take n).toArray) w := fun hb vs w => by
        subst hb
        have hA : (isAgg fd.type).run E.P w = .ok true w := by
          revert hagg
          split
          · rename_i fs' h'; intro _; exact run_isAgg_struct h'
          · rename_i n' e' h'; intro _; simp [isAgg, run_underlying h']
          · intro h; cases h
          · intro h; exact h.elim
        simp [Instr.field, run_underlying hu, hfd', asAgg, part, hA, sizeOf, typeInfo, hinf, hsz, hoff]
      have runS : b = false → ∀ (vs : List Value) (v : Value), vs[o]? = some v → ∀ w : World, (Instr.field s (.agg vs.toArray) f).run E.P w = .ok v w := fun hb vs v hv w => by
        subst hb
        have hA : (isAgg fd.type).run E.P w = .ok false w := by
          revert hagg
          split
          · intro h; cases h
          · intro h; cases h
          · rename_i d' h1 h2 h'; intro _; exact run_isAgg_single h' (fun fs e => h1 fs e) (fun n e e' => h2 n e e')
          · intro h; exact h.elim
        simp [Instr.field, run_underlying hu, hfd', asAgg, part, hA, hoff, hv]
      split at h
      · rename_i cs
        obtain ⟨vs, rfl, hl, hr⟩ := hx.inv_d.inv_agg
        cases b with
        | true =>
          simp only [cond_true, Option.some.injEq, Prod.mk.injEq] at h
          obtain ⟨_, rfl⟩ := h
          refine ⟨_, fun w' _ => runA rfl vs w', .d _ _ (.agg _ _ (by simp [hl]) fun i x u hx hu => ?_)⟩
          simp only [List.getElem?_take, List.getElem?_drop] at hx hu
          split at hx
          · rw [if_pos (by assumption)] at hu; exact hr _ x u hx hu
          · cases hx
        | false =>
          rw [cond_false] at h
          split at h
          · rename_i c hc
            simp only [Option.some.injEq, Prod.mk.injEq] at h
            obtain ⟨_, rfl⟩ := h
            have hlt : o < vs.length := by rw [← hl]; exact (List.getElem?_eq_some_iff.1 hc).1
            exact ⟨_, fun w' _ => runS rfl vs vs[o] (List.getElem?_eq_getElem hlt) w', .d _ _ (hr o c _ hc (List.getElem?_eq_getElem hlt))⟩
          · cases h
      · rename_i cs
        obtain ⟨vs, rfl, hl, hr⟩ := hx.inv_agg
        cases b with
        | true =>
          simp only [cond_true, Option.some.injEq, Prod.mk.injEq] at h
          obtain ⟨_, rfl⟩ := h
          refine ⟨_, fun w' _ => runA rfl vs w', RT.mkAgg (by simp [hl]) fun i x u hx hu => ?_⟩
          simp only [List.getElem?_take, List.getElem?_drop] at hx hu
          split at hx
          · rw [if_pos (by assumption)] at hu; exact hr _ x u hx hu
          · cases hx
        | false =>
          rw [cond_false] at h
          split at h
          · rename_i c hc
            simp only [Option.some.injEq, Prod.mk.injEq] at h
            obtain ⟨_, rfl⟩ := h
            have hlt : o < vs.length := by rw [← hl]; exact (List.getElem?_eq_some_iff.1 hc).1
            exact ⟨_, fun w' _ => runS rfl vs vs[o] (List.getElem?_eq_getElem hlt) w', hr o c _ hc (List.getElem?_eq_getElem hlt)⟩
          · cases h
      · cases h
    · cases h

theorem run_loadVar_single {P : Program} {t : TypeId} {d : TypeDesc} {w : World} (h : P.underlying t = some d) (h1 : ∀ fs, d ≠ .struct fs) (h2 : ∀ n e, d ≠ .array n e)
    {a : Addr} {v : Value} (hc : w.cell? a = some v) : (loadVar t a).run P w = .ok v w := by
  simp [loadVar, run_isAgg_single h h1 h2, hc]

theorem evLoad_ok {ty : TypeId} {x : T} {u : Value} {p : Prop} {t : T} (I : Inv w0 σ0 S.ob w g) (h : evLoad E S ty x = some (p, t)) (hx : RT g x u) :
    ∃ v, (∀ w' : World, Below w.heap.size w w' → (Instr.loadAt ty u).run E.P w' = .ok v w') ∧ RT g t v := by
  unfold evLoad at h
  cases hk : (E.ty ty).known with
  | false => rw [hk] at h; cases h
  | true =>
    rw [hk, cond_true] at h
    obtain ⟨inf, z, hinf, hsz, _⟩ := E.info hk
    split at h
    · rename_i l off
      obtain ⟨b, h0, hγ, rfl⟩ := hx.inv_lp
      split at h
      · rename_i cs hcs
        obtain ⟨_, b', vs, e, hγ', hb, hh, hlen, hr, h1, hσ⟩ := I.obs l _ hcs
        rw [hγ] at hγ'
        injection hγ' with e1; injection e1 with e1; injection e1 with e1 _ _
        subst e1
        cases ha : (E.ty ty).agg with
        | true =>
          obtain ⟨_, fs, hu, _⟩ := E.struct ha
          rw [ha, cond_true] at h
          cases hbl : Nat.ble (off + (E.ty ty).size) cs.length with
          | false => rw [hbl] at h; cases h
          | true =>
            rw [hbl, cond_true] at h
            simp only [Option.some.injEq, Prod.mk.injEq] at h
            obtain ⟨_, rfl⟩ := h
            have hle := Nat.le_of_ble_eq_true hbl
            refine ⟨.agg ((vs.drop off).take (E.ty ty).size).toArray, fun w' hw' => ?_, RT.mkAgg (by simp [hlen]) fun i x u hx hu => ?_⟩
            · have hh := (hw'.block b (heap_lt hh)).trans hh
              have := run_loadVar_struct (w := w') hu hinf ⟨b, off, none⟩ ((vs.drop off).take (E.ty ty).size) (by rw [hsz, List.length_take, List.length_drop]; omega)
                (fun j v hj => by
                  rw [Addr.add_lit, cell_of_heap hh]
                  simp only [List.getElem?_take, List.getElem?_drop] at hj
                  split at hj
                  · exact hj
                  · cases hj)
              simpa [Instr.loadAt, Instr.sureAddr] using this
            · simp only [List.getElem?_take, List.getElem?_drop] at hx hu
              split at hx
              · rw [if_pos (by assumption)] at hu; exact hr _ x u hx hu
              · cases hx
        | false =>
          obtain ⟨d, hu, hd1, hd2⟩ := E.single hk ha
          rw [ha, cond_false] at h
          split at h
          · rename_i c hc
            simp only [Option.some.injEq, Prod.mk.injEq] at h
            obtain ⟨_, rfl⟩ := h
            have hlt : off < vs.length := by rw [← hlen]; exact (List.getElem?_eq_some_iff.1 hc).1
            have hv := List.getElem?_eq_getElem hlt
            exact ⟨_, fun w' hw' => by simpa [Instr.loadAt, Instr.sureAddr] using run_loadVar_single (w := w') hu hd1 hd2 ((cell_of_heap ((hw'.block b (heap_lt hh)).trans hh) off).trans hv), hr off c _ hc hv⟩
          · cases h
      · cases h
    · rename_i r off
      obtain ⟨b, o, U, rfl, hc, hr⟩ := hx.inv_ea
      have hcell : ∀ (w' : World), Below w.heap.size w w' → ∀ j, j < r.length → w'.cell? ⟨b, o + j, none⟩ = some (U j) := fun w' hw' j hj => by
        have h1 := I.con _ _ _ (hc j hj).1
        rw [World.cell?_of_block (w := w) (w' := w') (hw'.block b (cell_lt h1))]
        exact h1
      cases ha : (E.ty ty).agg with
      | true =>
        obtain ⟨_, fs, hu, _⟩ := E.struct ha
        rw [ha, cond_true] at h
        cases hbl : Nat.ble (off + (E.ty ty).size) r.length with
        | false => rw [hbl] at h; cases h
        | true =>
          rw [hbl, cond_true] at h
          simp only [Option.some.injEq, Prod.mk.injEq] at h
          obtain ⟨_, rfl⟩ := h
          have hle := Nat.le_of_ble_eq_true hbl
          refine ⟨.agg ((List.range (E.ty ty).size).map fun j => U (off + j)).toArray, fun w' hw' => ?_, .d _ _ (.agg _ _ (by simp; omega) fun i x u hx hu => ?_)⟩
          · have := run_loadVar_struct (w := w') hu hinf ⟨b, o + off, none⟩ ((List.range (E.ty ty).size).map fun j => U (off + j)) (by simp [hsz])
              (fun j v hj => by
                rw [Addr.add_lit]
                simp only [List.getElem?_map, Option.map_eq_some_iff] at hj
                obtain ⟨j', hj', rfl⟩ := hj
                obtain ⟨hlt, rfl⟩ := List.getElem?_eq_some_iff.1 hj'
                simp only [List.length_range] at hlt
                rw [Nat.add_assoc, List.getElem_range]
                exact hcell w' hw' _ (by omega))
            simpa [Instr.loadAt, Instr.sureAddr] using this
          · simp only [List.getElem?_take, List.getElem?_drop] at hx
            simp only [List.getElem?_map, Option.map_eq_some_iff] at hu
            obtain ⟨j', hj', rfl⟩ := hu
            obtain ⟨hlt, rfl⟩ := List.getElem?_eq_some_iff.1 hj'
            rw [List.getElem_range]
            split at hx
            · exact hr _ x hx
            · cases hx
      | false =>
        obtain ⟨d, hu, hd1, hd2⟩ := E.single hk ha
        rw [ha, cond_false] at h
        split at h
        · rename_i c hcc
          simp only [Option.some.injEq, Prod.mk.injEq] at h
          obtain ⟨_, rfl⟩ := h
          have hlt : off < r.length := (List.getElem?_eq_some_iff.1 hcc).1
          exact ⟨_, fun w' hw' => by simpa [Instr.loadAt, Instr.sureAddr] using run_loadVar_single (w := w') hu hd1 hd2 (hcell w' hw' off hlt), .d _ _ (hr off c hcc)⟩
        · cases h
    · cases h

theorem RD.inv_sl {σ : Sto} {z : Nat} {rows : List (List D)} {u : Value} (h : RD σ (.sl z rows) u) : ∃ A n cap, u = .slice A n cap ∧ n = rows.length := by
  cases h with
  | nil => exact ⟨_, _, _, rfl, rfl⟩
  | sl => exact ⟨_, _, _, rfl, rfl⟩

theorem evLen_ok {ty rt : TypeId} {x : T} {u : Value} {p : Prop} {t : T} (I : Inv w0 σ0 S.ob w g) (h : evLen E S ty x = some (p, t)) (hx : RT g x u) :
    ∃ v, (∀ w' : World, Below w.heap.size w w' → (Builtin.len_ #[ty] rt #[u]).run E.P w' = .ok v w') ∧ RT g t v := by
  unfold evLen at h
  split at h
  · rename_i hk
    split at h
    · have := hx.inv_v; subst this
      simp only [Option.some.injEq, Prod.mk.injEq] at h
      obtain ⟨_, rfl⟩ := h
      exact ⟨_, fun w' hw' => by simp [Builtin.len_, run_underlying (E.string hk)]; rfl, .d _ _ (.v _)⟩
    · cases h
  · rename_i e hk
    have run : ∀ (w : World) A n c, (Builtin.len_ #[ty] rt #[.slice A n c]).run E.P w = .ok (.int .i64 n) w := fun w A n c => by
      simp [Builtin.len_, run_underlying (E.slice hk)]; rfl
    split at h
    · obtain ⟨A, n, cap, rfl, rfl⟩ := hx.inv_d.inv_sl
      simp only [Option.some.injEq, Prod.mk.injEq] at h
      obtain ⟨_, rfl⟩ := h
      exact ⟨_, fun w' _ => run w' _ _ _, .d _ _ (.v _)⟩
    · have := hx.inv_d.inv_nl; subst this
      simp only [Option.some.injEq, Prod.mk.injEq] at h
      obtain ⟨_, rfl⟩ := h
      exact ⟨_, fun w' _ => run w' _ _ _, .d _ _ (.v _)⟩
    · have := hx.inv_v; subst this
      simp only [Option.some.injEq, Prod.mk.injEq] at h
      obtain ⟨_, rfl⟩ := h
      exact ⟨_, fun w' _ => run w' _ _ _, .d _ _ (.v _)⟩
    · rename_i k n
      split at h
      · rename_i z e' rows m pub hk'
        by_cases hm : m = n
        · subst hm
          rw [show Nat.beq m m = true by simp, cond_true] at h
          simp only [Option.some.injEq, Prod.mk.injEq] at h
          obtain ⟨_, rfl⟩ := h
          obtain ⟨_, rfl⟩ := hx.inv_og
          obtain ⟨_, xs, ⟨h2, _⟩, _⟩ := I.obs k _ hk'
          rcases h2.2 with ⟨hv, hn⟩ | ⟨_, _, _, hv, _⟩
          · rw [hv, hn]; exact ⟨_, fun w' _ => run w' _ _ _, .d _ _ (.v _)⟩
          · rw [hv]; exact ⟨_, fun w' _ => run w' _ _ _, .d _ _ (.v _)⟩
        · rw [nbeq hm] at h; cases h
      · cases h
    · cases h
  · cases h

theorem evIndex_ok {ty : TypeId} {x i : T} {u u' : Value} {p : Prop} {t : T} (h : evIndex E ty x i = some (p, t)) (hp : p) (hx : RT g x u) (hi : RT g i u') :
    ∃ v, (∀ w' : World, Below w.heap.size w w' → (Instr.index ty u u').run E.P w' = .ok v w') ∧ RT g t v := by
  unfold evIndex at h
  split at h
  · rename_i hk
    split at h
    · have := hx.inv_v; subst this
      have := hi.inv_v; subst this
      rename_i s k j
      simp only [Option.some.injEq, Prod.mk.injEq] at h
      obtain ⟨rfl, rfl⟩ := h
      refine ⟨_, fun w' _ => by rw [run_index_string w' ty s _ j (E.string hk), dif_pos hp], ?_⟩
      have : byteAt s j.toNat = ((s[j.toNat]'(by omega)).toNat : Int) := by
        have hlt : j.toNat < s.data.toList.length := by have := hp.2; rw [Array.length_toList]; show j.toNat < s.size; omega
        simp only [byteAt, List.getD_eq_getElem?_getD, List.getElem?_eq_getElem hlt, Option.getD_some]
        rfl
      rw [this]
      exact .d _ _ (.v _)
    · cases h
  · cases h

theorem ev1_all (r : Rel N w0 σ0 S a w g) {d : Option Nat} {op : Op} {ty : TypeId} {pos : String} {after : Array Edge} {gd : Option (Nat × Bool)} {p : Prop} {t : T}
    (h : ev1 E S op ty = some (p, t)) (hp : p) : ∃ v, (∀ w', Below w.heap.size w w' → (execOp a.eval ⟨d, op, ty, pos, after, gd⟩).run E.P w' = .ok (.value v) w') ∧ RT g t v := by
  unfold ev1 at h
  split at h
  · simp only [Option.some.injEq, Prod.mk.injEq] at h
    obtain ⟨_, rfl⟩ := h
    exact ⟨_, fun _ _ => rfl, (r.ev _).fixNil E ty⟩
  · simp only [Option.some.injEq, Prod.mk.injEq] at h
    obtain ⟨_, rfl⟩ := h
    exact ⟨_, fun _ _ => rfl, (r.ev _).fixNil E ty⟩
  · exact ⟨_, fun w' _ => (evPick_ok (w := w') h (r.ev _) (r.ev _) (r.ev _)).1, (evPick_ok (w := w) (E := E) h (r.ev _) (r.ev _) (r.ev _)).2⟩
  · split at h
    · rename_i c v hb
      simp only [Option.some.injEq, Prod.mk.injEq] at h
      obtain ⟨rfl, rfl⟩ := h
      refine ⟨v, fun w' _ => ?_, .d _ _ (.v _)⟩
      simp only [execOp]
      rw [Sem.run_bind, run_evBin (w := w') (P := E.P) hb hp (r.ev _) (r.ev _)]
      rfl
    · split at h
      · rename_i b he
        simp only [Option.some.injEq, Prod.mk.injEq] at h
        obtain ⟨_, rfl⟩ := h
        refine ⟨.bool b, fun w' _ => ?_, .d _ _ (.v _)⟩
        unfold evEq at he
        split at he
        · rename_i hk hx hy
          have h1' := (hx ▸ r.ev _ : RT g (.d (.v (.bool _))) _).inv_v
          have h2' := (hy ▸ r.ev _ : RT g (.d (.v (.bool _))) _).inv_v
          simp only [execOp, h1', h2', eqGuard_at_bool]
          split at he
          · simp only [Option.some.injEq] at he
            subst he
            simp [run_eql_bool (h := E.bool hk)]
          · simp only [Option.some.injEq] at he
            subst he
            simp [run_neq_bool (h := E.bool hk)]
          · cases he
        · cases he
      · cases h
  · obtain ⟨v, hv, ht⟩ := evUn_ok (E := E) (w := w) h hp (r.ev _)
    exact ⟨v, fun w' hw' => by simp [execOp, hv w' hw'], ht⟩
  · obtain ⟨v, hv, ht⟩ := evConv_ok (w := w) h hp (r.ev _)
    exact ⟨v, fun w' hw' => by simp [execOp, hv w' hw'], ht⟩
  · obtain ⟨v, hv, ht⟩ := evFieldAddr_ok (w := w) h (r.ev _)
    exact ⟨v, fun w' hw' => by simp [execOp, hv w' hw'], ht⟩
  · obtain ⟨v, hv, ht⟩ := evField_ok (w := w) h (r.ev _)
    exact ⟨v, fun w' hw' => by simp [execOp, hv w' hw'], ht⟩
  · obtain ⟨v, hv, ht⟩ := evLoad_ok r.inv h (r.ev _)
    exact ⟨v, fun w' hw' => by simp [execOp, hv w' hw'], ht⟩
  · rename_i x i
    unfold evExtract at h
    split at h
    · rename_i cs hcs
      split at h
      · rename_i c hc
        simp only [Option.some.injEq, Prod.mk.injEq] at h
        obtain ⟨_, rfl⟩ := h
        have hx := r.ev x
        rw [hcs] at hx
        obtain ⟨vs, hv, hl, hr⟩ := hx.inv_tup
        have hlt : i < vs.length := by rw [← hl]; exact (List.getElem?_eq_some_iff.1 hc).1
        have hvi := List.getElem?_eq_getElem hlt
        exact ⟨vs[i], fun w' _ => by simp [execOp, hv, Instr.extract, hvi], hr i c _ hc hvi⟩
      · cases h
    · cases h
  · obtain ⟨v, hv, ht⟩ := evIndex_ok (w := w) h hp (r.ev _) (r.ev _)
    exact ⟨v, fun w' hw' => by simp [execOp, hv w' hw'], ht⟩
  · rename_i fn first cap
    split at h
    · rename_i f' hfirst
      simp only [Option.some.injEq, Prod.mk.injEq] at h
      obtain ⟨_, rfl⟩ := h
      have hf : first = #[] := by rw [← Array.toArray_toList (xs := first), hfirst]
      subst hf
      refine ⟨.func (.func f') #[] (cap.toList.map a.eval).toArray, fun w' _ => ?_, .clo f' _ _ (by simp) fun i x u hx hu => ?_⟩
      · simp only [execOp, Instr.makeFunc]
        have : cap.map a.eval = (cap.toList.map a.eval).toArray := by rw [← Array.toList_inj]; simp
        rw [this]
        simp
      · simp only [List.getElem?_map, Option.map_eq_some_iff] at hx hu
        obtain ⟨y, hy, rfl⟩ := hx
        obtain ⟨y', hy', rfl⟩ := hu
        rw [hy] at hy'; cases hy'
        exact r.ev y
    · cases h
  · rename_i x
    have hx := r.ev x
    split at h
    · rename_i l off hl
      simp only [Option.some.injEq, Prod.mk.injEq] at h
      obtain ⟨_, rfl⟩ := h
      rw [hl] at hx
      obtain ⟨b, h0, hγ, hv⟩ := hx.inv_lp
      exact ⟨_, fun w' _ => by simp only [execOp, hv]; rfl, .lp l off b h0 hγ⟩
    · rename_i r' off hl
      simp only [Option.some.injEq, Prod.mk.injEq] at h
      obtain ⟨_, rfl⟩ := h
      rw [hl] at hx
      obtain ⟨b, o, U, hv, h1, h2⟩ := hx.inv_ea
      exact ⟨_, fun w' _ => by simp only [execOp, hv]; rfl, .ea r' off b o U h1 h2⟩
    · rename_i f cs hl
      simp only [Option.some.injEq, Prod.mk.injEq] at h
      obtain ⟨_, rfl⟩ := h
      rw [hl] at hx
      obtain ⟨vs, hv, h1, h2⟩ := hx.inv_clo
      exact ⟨_, fun w' _ => by simp only [execOp, hv]; rfl, .clo f cs vs h1 h2⟩
    · cases h
  · rename_i args ts
    split at h
    · rename_i x t' hargs hts
      obtain ⟨v, hv, ht⟩ := evLen_ok (rt := ty) r.inv h (r.ev _)
      have ha : args = #[x] := by rw [← Array.toArray_toList (xs := args), hargs]
      have hb : ts = #[t'] := by rw [← Array.toArray_toList (xs := ts), hts]
      subst ha; subst hb
      exact ⟨v, fun w' hw' => by simp [execOp, resolve, invoke, builtin, hv w' hw'], ht⟩
    · cases h
  · rename_i args ts
    split at h
    · rename_i x y hargs
      split at h
      · rename_i k a' k' b' hx hy
        simp only [Option.some.injEq, Prod.mk.injEq] at h
        obtain ⟨_, rfl⟩ := h
        have h1 := (hx ▸ r.ev x : RT g (.d (.v (.int k a'))) _).inv_v
        have h2 := (hy ▸ r.ev y : RT g (.d (.v (.int k' b'))) _).inv_v
        have ha : args = #[x, y] := by rw [← Array.toArray_toList (xs := args), hargs]
        subst ha
        refine ⟨.int k (max a' b'), fun w' hw' => ?_, .d _ _ (.v _)⟩
        have e : max a' b' = if b' > a' then b' else a' := by split <;> omega
        simp [execOp, resolve, invoke, builtin, h1, h2, run_max_int2, e]
      · cases h
    · cases h
  · rename_i args ts
    split at h
    · rename_i x y hargs
      split at h
      · rename_i k a' k' b' hx hy
        simp only [Option.some.injEq, Prod.mk.injEq] at h
        obtain ⟨_, rfl⟩ := h
        have h1 := (hx ▸ r.ev x : RT g (.d (.v (.int k a'))) _).inv_v
        have h2 := (hy ▸ r.ev y : RT g (.d (.v (.int k' b'))) _).inv_v
        have ha : args = #[x, y] := by rw [← Array.toArray_toList (xs := args), hargs]
        subst ha
        refine ⟨.int k (min a' b'), fun w' hw' => ?_, .d _ _ (.v _)⟩
        have e : min a' b' = if b' < a' then b' else a' := by split <;> omega
        simp [execOp, resolve, invoke, builtin, h1, h2, run_min_int2, e]
      · cases h
    · cases h
  · cases h

theorem ev1_ok (r : Rel N w0 σ0 S a w g) {d : Option Nat} {op : Op} {ty : TypeId} {pos : String} {after : Array Edge} {gd : Option (Nat × Bool)} {p : Prop} {t : T}
    (h : ev1 E S op ty = some (p, t)) (hp : p) : ∃ v, (execOp a.eval ⟨d, op, ty, pos, after, gd⟩).run E.P w = .ok (.value v) w ∧ RT g t v :=
  let ⟨v, h1, h2⟩ := ev1_all r h hp
  ⟨v, h1 w (.refl _ _), h2⟩
end

theorem WL.simple {E : Env} {N : Nm} {Q : Exit → St → Prop} {S : St} {ops l : List Oper} {op : Op} {ty : TypeId} {pos : String} {after : Array Edge} {gd : Option (Nat × Bool)} {d : Nat} {p : Prop} {t : T}
    (hw : S.want ops ⟨some d, op, ty, pos, after, gd⟩ = some true) (hd : Nat.blt d N.n = true) (h : ev1 E S op ty = some (p, t)) (hp : p)
    (k : WL E.P N ops l Q (S.set d t)) : WL E.P N ops (⟨some d, op, ty, pos, after, gd⟩ :: l) Q S :=
  WL.val hw hd (fun w0 σ0 a w g r => ev1_ok r h hp) k

end Go.Proofs.Yteooogngdejdgaa
