/-
  A small logic for walks, over any program: data without addresses ('D'), what a slot holds ('T'), what the call itself has made ('Ob'), and how these stand to the world. Conditions: none.
-/
import Derived.WalkKit
import Derived.WalkLawsBesides
namespace Go.Proofs.Yteooogngdejdgaa
open Go.RowKit

/-- What is read and never written again: a value without memory, a slice by its rows (each of z cells), a nil slice, a struct by its cells. -/
inductive D where
  | v (x : Value)
  | nl (z : Nat)
  | sl (z : Nat) (rows : List (List D))
  | agg (cs : List D)
  deriving Inhabited

/-- What a slot holds. -/
inductive T where
  | d (x : D)
  | agg (cs : List T)
  | tup (cs : List T)
  | lp (l off : Nat)
  | og (k n : Nat)
  | ea (r : List D) (off : Nat)
  | eg (k n z i off : Nat)
  | clo (f : FuncId) (cs : List T)
  | any
  deriving Inhabited

abbrev Sto := Nat → Nat → Option Value

inductive RD (σ : Sto) : D → Value → Prop
  | v (x : Value) : RD σ (.v x) x
  | nl (z : Nat) : RD σ (.nl z) (.slice none 0 0)
  | nil (z : Nat) (A : Option Addr) : RD σ (.sl z []) (.slice A 0 0)
  | sl (z : Nat) (rows : List (List D)) (b off cap : Nat) (U : Nat → Nat → Value)
      (hcap : rows.length ≤ cap) (hm : cap ≤ maxLen) (hz : ∀ r ∈ rows, r.length = z)
      (hc : ∀ i j, i < rows.length → j < z → σ b (off + i * z + j) = some (U i j) ∧ (U i j).oneCell' = true)
      (hr : ∀ (i j : Nat) (r : List D) (x : D), rows[i]? = some r → r[j]? = some x → RD σ x (U i j)) :
      RD σ (.sl z rows) (.slice (some ⟨b, off, none⟩) rows.length cap)
  | agg (cs : List D) (vs : List Value) (hl : cs.length = vs.length)
      (h : ∀ (i : Nat) (x : D) (u : Value), cs[i]? = some x → vs[i]? = some u → RD σ x u) : RD σ (.agg cs) (.agg vs.toArray)

theorem RD.mono {σ σ' : Sto} (hs : ∀ b o u, σ b o = some u → σ' b o = some u) {d : D} {u : Value} (h : RD σ d u) : RD σ' d u := by
  induction h with
  | v x => exact .v x
  | nl z => exact .nl z
  | nil z A => exact .nil z A
  | sl z rows b off cap U hcap hm hz hc hr ih => exact .sl z rows b off cap U hcap hm hz (fun i j hi hj => ⟨hs _ _ _ (hc i j hi hj).1, (hc i j hi hj).2⟩) ih
  | agg cs vs hl h ih => exact .agg cs vs hl ih

/-- An object of any other kind: what it asks of its blocks and of the cells that are never written again; what is read in it, if it is lent to be read. -/
structure ObX where
  ok : Sto → (Nat → Option Obj) → (Nat → Prop) → Value → Prop
  mono : ∀ {σ σ' : Sto} {h h' : Nat → Option Obj} {F : Nat → Prop} {v : Value}, (∀ b o u, σ b o = some u → σ' b o = some u) → (∀ b, F b → h' b = h b) → ok σ h F v → ok σ' h' F v
  one : ∀ {σ : Sto} {h : Nat → Option Obj} {F : Nat → Prop} {v : Value}, ok σ h F v → v.oneCell' = true
  dat : Option D := none
  read : ∀ {σ σ' : Sto} {h : Nat → Option Obj} {F : Nat → Prop} {v : Value} {d : D}, dat = some d → ok σ h F v → (∀ b o u, σ b o = some u → σ' b o = some u) →
    (∀ (b o : Nat) (cur : Array Value) (e : TypeId) (u : Value), F b → h b = some (.cells cur e (0, 0)) → cur[o]? = some u → σ' b o = some u) → RD σ' d v := by intro σ σ' h F v d hd; cases hd

instance : Inhabited ObX := ⟨{ ok := fun _ _ _ _ => False, mono := fun _ _ h => h, one := fun h => h.elim }⟩

/-- What the call has made and may still write. -/
inductive Ob where
  | pv (cs : List T)
  | gr (z : Nat) (e : TypeId) (rows : List (List D)) (n : Nat) (pub : Bool)
  | x (X : ObX) (n : Nat)
  | dead
  | new
  deriving Inhabited

structure St where
  tm : Nat → T
  ob : List Ob

/-- The ghost: the cells that are never written again; of each object its values, version by version. -/
structure Gh where
  σ : Sto
  γ : Nat → Nat → Value
  lim : Nat → Nat
  foot : Nat → Nat → Prop

/-- Where the walk began: the cells that were known; the blocks that it may write; the first versions of what it was lent. -/
structure Bs where
  σ : Sto
  own : Nat → Prop
  γ : Nat → Value
  m : Nat

inductive RT (g : Gh) : T → Value → Prop
  | d (x : D) (u : Value) (h : RD g.σ x u) : RT g (.d x) u
  | agg (cs : List T) (vs : List Value) (hl : cs.length = vs.length)
      (h : ∀ (i : Nat) (x : T) (u : Value), cs[i]? = some x → vs[i]? = some u → RT g x u) : RT g (.agg cs) (.agg vs.toArray)
  | tup (cs : List T) (vs : List Value) (hl : cs.length = vs.length)
      (h : ∀ (i : Nat) (x : T) (u : Value), cs[i]? = some x → vs[i]? = some u → RT g x u) : RT g (.tup cs) (.tuple vs.toArray)
  | lp (l off b : Nat) (h0 : 0 < g.lim l) (h : g.γ l 0 = .pointer (some ⟨b, 0, none⟩)) : RT g (.lp l off) (.pointer (some ⟨b, off, none⟩))
  | og (k n : Nat) (h : n < g.lim k) : RT g (.og k n) (g.γ k n)
  | ea (r : List D) (off b o : Nat) (U : Nat → Value)
      (hc : ∀ j, j < r.length → g.σ b (o + j) = some (U j) ∧ (U j).oneCell' = true)
      (hr : ∀ (j : Nat) (x : D), r[j]? = some x → RD g.σ x (U j)) : RT g (.ea r off) (.pointer (some ⟨b, o + off, none⟩))
  | eg (k n z i off b len cap : Nat) (h : n < g.lim k) (hg : g.γ k n = .slice (some ⟨b, 0, none⟩) len cap) : RT g (.eg k n z i off) (.pointer (some ⟨b, i * z + off, none⟩))
  | clo (f : FuncId) (cs : List T) (vs : List Value) (hl : cs.length = vs.length)
      (h : ∀ (i : Nat) (x : T) (u : Value), cs[i]? = some x → vs[i]? = some u → RT g x u) : RT g (.clo f cs) (.func (.func f) #[] vs.toArray)
  | any (u : Value) : RT g .any u

/-- The ghost goes on: nothing that was known is lost. -/
structure Gh.le (g g' : Gh) : Prop where
  σ : ∀ b o u, g.σ b o = some u → g'.σ b o = some u
  γ : ∀ k n, n < g.lim k → n < g'.lim k ∧ g'.γ k n = g.γ k n

theorem Gh.le_refl (g : Gh) : g.le g := ⟨fun _ _ _ h => h, fun _ _ h => ⟨h, rfl⟩⟩

theorem RT.mono {g g' : Gh} (hg : g.le g') {t : T} {u : Value} (h : RT g t u) : RT g' t u := by
  induction h with
  | d x u h => exact .d x u (h.mono hg.σ)
  | agg cs vs hl h ih => exact .agg cs vs hl ih
  | tup cs vs hl h ih => exact .tup cs vs hl ih
  | lp l off b h0 h => exact .lp l off b (hg.γ l 0 h0).1 ((hg.γ l 0 h0).2.trans h)
  | og k n h => rw [← (hg.γ k n h).2]; exact .og k n (hg.γ k n h).1
  | ea r off b o U hc hr => exact .ea r off b o U (fun j hj => ⟨hg.σ _ _ _ (hc j hj).1, (hc j hj).2⟩) (fun j x hx => (hr j x hx).mono hg.σ)
  | eg k n z i off b len cap h hgk => exact .eg k n z i off b len cap (hg.γ k n h).1 ((hg.γ k n h).2.trans hgk)
  | clo f cs vs hl h ih => exact .clo f cs vs hl ih
  | any u => exact .any u

/-- The blocks of an object. -/
def Gh.at (g : Gh) (k : Nat) : Ob → Nat → Prop
  | .pv _, b => g.γ k 0 = .pointer (some ⟨b, 0, none⟩)
  | .gr _ _ _ n _, b => (g.γ k n).ownBlock = some b
  | .x _ _, b => g.foot k b
  | .dead, _ => False
  | .new, _ => False

/-- How an object stands to the world. -/
def ObOK (mine : Nat → Prop) (g : Gh) (w : World) (k : Nat) : Ob → Prop
  | .pv cs => g.lim k = 1 ∧ ∃ (b : Nat) (vs : List Value) (e : TypeId), g.γ k 0 = .pointer (some ⟨b, 0, none⟩) ∧ mine b ∧ w.heap[b]? = some (.cells vs.toArray e (0, 0)) ∧
      cs.length = vs.length ∧ (∀ (i : Nat) (x : T) (u : Value), cs[i]? = some x → vs[i]? = some u → RT g x u) ∧ (∀ u ∈ vs, u.oneCell' = true) ∧ ∀ o, g.σ b o = none
  | .gr z e rows n pub => g.lim k = n + 1 ∧ ∃ xs : List Value, (w.ownsRow 0 e z (g.γ k n) rows.length xs ∧ ∀ b, (g.γ k n).ownBlock = some b → mine b) ∧ (∀ r ∈ rows, r.length = z) ∧
      (∀ (i j : Nat) (r : List D) (x : D), rows[i]? = some r → r[j]? = some x → ∃ u, xs[i * z + j]? = some u ∧ RD g.σ x u) ∧ (∀ u ∈ xs, u.oneCell' = true) ∧
      ∀ b, (g.γ k n).ownBlock = some b → if pub then ∀ o, g.σ b o = xs[o]? else ∀ o, g.σ b o = none
  | .x X n => g.lim k = n + 1 ∧ X.ok g.σ (fun b => w.heap[b]?) (g.foot k) (g.γ k n) ∧ ∀ b, g.foot k b → mine b ∧ b < w.heap.size ∧ ∀ o, g.σ b o = none
  | .dead => True
  | .new => g.lim k = 0

/-- What lay there and was not lent lies as it lay. -/
structure BelowX (own : Nat → Prop) (w0 w : World) : Prop where
  os : w.os = w0.os
  tape : w.tape = w0.tape
  output : w.output = w0.output
  size : w0.heap.size ≤ w.heap.size
  block : ∀ k, k < w0.heap.size → ¬ own k → w.heap[k]? = w0.heap[k]?

theorem BelowX.refl (own : Nat → Prop) (w : World) : BelowX own w w := ⟨rfl, rfl, rfl, Nat.le_refl _, fun _ _ _ => rfl⟩

theorem BelowX.then {own : Nat → Prop} {w0 w w' : World} (h : BelowX own w0 w) (hos : w'.os = w.os) (ht : w'.tape = w.tape) (ho : w'.output = w.output) (hs : w.heap.size ≤ w'.heap.size)
    (hb : ∀ k, k < w0.heap.size → ¬ own k → w'.heap[k]? = w.heap[k]?) : BelowX own w0 w' :=
  ⟨hos.trans h.os, ht.trans h.tape, ho.trans h.output, Nat.le_trans h.size hs, fun k hk hn => (hb k hk hn).trans (h.block k hk hn)⟩

theorem BelowX.trans {own : Nat → Prop} {w0 w w' : World} (h : BelowX own w0 w) (k : Below w.heap.size w w') : BelowX own w0 w' :=
  h.then k.os k.tape k.output k.size fun b hb _ => k.block b (Nat.lt_of_lt_of_le hb h.size)

/-- The blocks that the walk may write. -/
def mineB (w0 : World) (B : Bs) (b : Nat) : Prop := w0.heap.size ≤ b ∨ B.own b

/-- The world's part of the invariant. -/
structure Inv (w0 : World) (σ0 : Bs) (ob : List Ob) (w : World) (g : Gh) : Prop where
  below : BelowX σ0.own w0 w
  old : ∀ b o, b < w0.heap.size → ¬ σ0.own b → g.σ b o = σ0.σ b o
  con : ∀ b o u, g.σ b o = some u → w.cell? ⟨b, o, none⟩ = some u
  obs : ∀ (k : Nat) (o : Ob), ob[k]? = some o → ObOK (mineB w0 σ0) g w k o
  lim : ∀ (k : Nat), ob.length ≤ k → g.lim k = 0
  dis : ∀ (k k' : Nat) (o o' : Ob) (b : Nat), k ≠ k' → ob[k]? = some o → ob[k']? = some o' → g.at k o b → ¬ g.at k' o' b
  ext : ∀ k, k < σ0.m → g.lim k = 0 ∨ g.γ k 0 = σ0.γ k

/-- How many slots a walk has, and how many objects it was lent. -/
structure Nm where
  n : Nat
  m : Nat

structure Rel (N : Nm) (w0 : World) (σ0 : Bs) (S : St) (a : Act) (w : World) (g : Gh) : Prop where
  inv : Inv w0 σ0 S.ob w g
  defers : a.defers = []
  size : a.tmps.size = N.n
  hm : σ0.m = N.m
  hl : N.m ≤ S.ob.length
  tm : ∀ i, RT g (S.tm i) (a.tmps.getD i undef)

/-- What is known of types: cells, whether an aggregate, its zero, the fields' places, a slice's element. -/
inductive TK where
  | no | int (k : IntKind) | bool | string | slice (e : TypeId) | struct | other

structure TyI where
  kind : TK := .no
  size : Nat := 1
  bytes : Nat := 8
  zero : List D := []
  offs : List (Nat × Nat × Bool) := []

def zeroIs : D → Value → Bool
  | .v (.int k n), .int k' n' => decide (k = k') && decide (n = n')
  | .v (.bool b), .bool b' => b == b'
  | .v (.string s), .string s' => decide (s.data = s'.data)
  | .v (.pointer none), .pointer none => true
  | .v (.map none), .map none => true
  | .v .nilFunc, .nilFunc => true
  | .v .nilIface, .nilIface => true
  | .nl _, .slice none 0 0 => true
  | _, _ => false

def zerosAre : List D → List Value → Bool
  | [], [] => true
  | d :: r, v :: s => zeroIs d v && v.oneCell' && zerosAre r s
  | _, _ => false

def offsAre (P : Program) : List (Nat × Nat × Bool) → List Field → Bool
  | [], [] => true
  | (o, n, b) :: r, f :: s => decide (f.offset = o) && decide (P.cellsOf f.type = n) && decide (n ≠ 0) && (P.info? f.type).isSome &&
      (match P.underlying f.type with | some (.struct _) => b | some (.array ..) => b | some _ => !b | none => false) && offsAre P r s
  | _, _ => false

def TyI.agg (i : TyI) : Bool := match i.kind with | .struct => true | _ => false

def tyCheck (P : Program) (t : TypeId) (i : TyI) : Bool :=
  (match P.info? t with
   | some f => decide (f.size = i.size) && decide (f.bytes = i.bytes) && (match f.zero with | some z => zerosAre i.zero z.cells.toList && decide (z.cells.size = i.size) | none => false)
   | none => false) &&
  (match i.kind, P.underlying t with
   | .no, _ => false
   | .int k, some (.int k') => decide (k = k')
   | .bool, some .bool => true
   | .string, some .string => true
   | .slice e, some (.slice e') => decide (e = e')
   | .struct, some (.struct fs) => offsAre P i.offs fs.toList
   | .other, some (.struct _) | .other, some (.array ..) | .other, none => false
   | .other, some _ => true
   | _, _ => false)

structure Env where
  P : Program
  ty : TypeId → TyI
  ok : ∀ t, (match (ty t).kind with | .no => false | _ => true) = true → tyCheck P t (ty t) = true

def look : List (TypeId × TyI) → TypeId → TyI
  | [], _ => {}
  | (k, i) :: r, t => bif Nat.beq t k then i else look r t

theorem look_ok {P : Program} (tab : List (TypeId × TyI)) (h : tab.all (fun p => tyCheck P p.1 p.2) = true) (t : TypeId)
    (hk : (match (look tab t).kind with | .no => false | _ => true) = true) : tyCheck P t (look tab t) = true := by
  induction tab with
  | nil => simp [look] at hk
  | cons p r ih =>
    obtain ⟨k, i⟩ := p
    simp only [List.all_cons, Bool.and_eq_true] at h
    unfold look at hk ⊢
    by_cases e : Nat.beq t k = true
    · rw [e] at hk ⊢
      have : t = k := Nat.eq_of_beq_eq_true e
      subst this
      exact h.1
    · have e' : Nat.beq t k = false := Bool.eq_false_iff.2 e
      rw [e'] at hk ⊢
      exact ih h.2 hk

end Go.Proofs.Yteooogngdejdgaa
