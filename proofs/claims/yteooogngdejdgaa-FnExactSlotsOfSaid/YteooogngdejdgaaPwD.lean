/-
  The small logic, fourth part: operations that only compute (moves, arithmetic, comparisons, loads, places). Conditions: none.
-/
import Derived.Test.YteooogngdejdgaaPwC
set_option linter.unusedVariables false
set_option linter.unusedSimpArgs false
namespace Go.Proofs.Yteooogngdejdgaa
open Go.RowKit

section
variable {P : Program} {N : Nm} {Q : Exit → St → Prop} {S : St} {ops l : List Oper} {op : Op} {ty : TypeId} {pos : String} {after : Array Edge} {gd : Option (Nat × Bool)}

theorem WL.val {d : Nat} {t : T} (hw : S.want ops ⟨some d, op, ty, pos, after, gd⟩ = some true) (hd : Nat.blt d N.n = true)
    (h : ∀ w0 σ0 a w g, Rel N w0 σ0 S a w g → ∃ v, (execOp a.eval ⟨some d, op, ty, pos, after, gd⟩).run P w = .ok (.value v) w ∧ RT g t v)
    (k : WL P N ops l Q (S.set d t)) : WL P N ops (⟨some d, op, ty, pos, after, gd⟩ :: l) Q S :=
  WL.oper hw fun w0 σ0 a w g r => by
    obtain ⟨v, hv, ht⟩ := h w0 σ0 a w g r
    unfold Oper.wp Oper.upon
    rw [hv]
    exact k w0 σ0 _ w g (r.set (by simpa using hd) ht)

theorem WL.eff {d : Nat} {t : T} {ob' : List Ob} (hlen : S.ob.length ≤ ob'.length) (hw : S.want ops ⟨some d, op, ty, pos, after, gd⟩ = some true) (hd : Nat.blt d N.n = true)
    (h : ∀ w0 σ0 a w g, Rel N w0 σ0 S a w g → ∃ v w' g', (execOp a.eval ⟨some d, op, ty, pos, after, gd⟩).run P w = .ok (.value v) w' ∧ g.le g' ∧ Inv w0 σ0 ob' w' g' ∧ RT g' t v)
    (k : WL P N ops l Q ⟨(S.set d t).tm, ob'⟩) : WL P N ops (⟨some d, op, ty, pos, after, gd⟩ :: l) Q S :=
  WL.oper hw fun w0 σ0 a w g r => by
    obtain ⟨v, w', g', hv, hle, I, ht⟩ := h w0 σ0 a w g r
    unfold Oper.wp Oper.upon
    rw [hv]
    have r' : Rel N w0 σ0 ⟨S.tm, ob'⟩ a w' g' := ⟨I, r.defers, r.size, r.hm, Nat.le_trans r.hl hlen, fun i => (r.tm i).mono hle⟩
    exact k w0 σ0 _ w' g' (r'.set (by simpa using hd) ht)

theorem WL.effskip {ob' : List Ob} (hlen : S.ob.length ≤ ob'.length) (hw : S.want ops ⟨none, op, ty, pos, after, gd⟩ = some true)
    (h : ∀ w0 σ0 a w g, Rel N w0 σ0 S a w g → ∃ w' g', (execOp a.eval ⟨none, op, ty, pos, after, gd⟩).run P w = .ok .skip w' ∧ g.le g' ∧ Inv w0 σ0 ob' w' g')
    (k : WL P N ops l Q ⟨S.tm, ob'⟩) : WL P N ops (⟨none, op, ty, pos, after, gd⟩ :: l) Q S :=
  WL.oper hw fun w0 σ0 a w g r => by
    obtain ⟨w', g', hv, hle, I⟩ := h w0 σ0 a w g r
    unfold Oper.wp Oper.upon
    rw [hv]
    exact k w0 σ0 _ w' g' ⟨I, r.defers, r.size, r.hm, Nat.le_trans r.hl hlen, fun i => (r.tm i).mono hle⟩
end

/-! ### what is known of types -/

def TyI.known (i : TyI) : Bool := match i.kind with | .no => false | _ => true

theorem zeroIs_ok {d : D} {v : Value} (h : zeroIs d v = true) (σ : Sto) : RD σ d v := by
  unfold zeroIs at h
  split at h
  · simp only [Bool.and_eq_true, decide_eq_true_eq] at h
    obtain ⟨rfl, rfl⟩ := h; exact .v _
  · have := eq_of_beq h; subst this; exact .v _
  · rename_i s s'
    have h' : s.data = s'.data := of_decide_eq_true h
    have : s = s' := by cases s; cases s'; simp at h'; rw [h']
    subst this; exact .v _
  · exact .v _
  · exact .v _
  · exact .v _
  · exact .v _
  · exact .nl _
  · cases h

theorem zerosAre_ok : ∀ {ds : List D} {vs : List Value}, zerosAre ds vs = true →
    ds.length = vs.length ∧ (∀ u ∈ vs, u.oneCell' = true) ∧ ∀ (σ : Sto) (i : Nat) (x : D) (u : Value), ds[i]? = some x → vs[i]? = some u → RD σ x u
  | [], [], _ => ⟨rfl, fun u hu => by simp at hu, fun σ i x u hx => by simp at hx⟩
  | d :: r, v :: s, h => by
    simp only [zerosAre, Bool.and_eq_true] at h
    obtain ⟨h1, h2, h3⟩ := zerosAre_ok h.2
    refine ⟨by simp [h1], fun u hu => ?_, fun σ i x u hx hu => ?_⟩
    · rcases List.mem_cons.1 hu with rfl | hu
      · exact h.1.2
      · exact h2 u hu
    · cases i with
      | zero => simp at hx hu; subst hx; subst hu; exact zeroIs_ok h.1.1 σ
      | succ i => exact h3 σ i x u (by simpa using hx) (by simpa using hu)
  | [], _ :: _, h => by cases h
  | _ :: _, [], h => by cases h

section
variable (E : Env) {t : TypeId}

theorem Env.check (h : (E.ty t).known = true) : tyCheck E.P t (E.ty t) = true := E.ok t h

theorem Env.info (h : (E.ty t).known = true) : ∃ f z, E.P.info? t = some f ∧ f.size = (E.ty t).size ∧ f.bytes = (E.ty t).bytes ∧ f.zero = some z ∧
    zerosAre (E.ty t).zero z.cells.toList = true ∧ z.cells.size = (E.ty t).size := by
  have := E.check h
  unfold tyCheck at this
  simp only [Bool.and_eq_true] at this
  have h1 := this.1
  split at h1
  · rename_i f hf
    simp only [Bool.and_eq_true, decide_eq_true_eq] at h1
    obtain ⟨⟨h1, h2⟩, h3⟩ := h1
    split at h3
    · rename_i z hz
      simp only [Bool.and_eq_true, decide_eq_true_eq] at h3
      exact ⟨f, z, hf, h1, h2, hz, h3.1, h3.2⟩
    · cases h3
  · cases h1

theorem Env.int {k : IntKind} (h : (E.ty t).kind = .int k) : E.P.underlying t = some (.int k) := by
  have hk : (E.ty t).known = true := by simp [TyI.known, h]
  have := E.check hk
  unfold tyCheck at this
  simp only [Bool.and_eq_true] at this
  have h2 := this.2
  rw [h] at h2
  split at h2 <;> simp_all

theorem Env.string (h : (E.ty t).kind = .string) : E.P.underlying t = some .string := by
  have hk : (E.ty t).known = true := by simp [TyI.known, h]
  have := E.check hk
  unfold tyCheck at this
  simp only [Bool.and_eq_true] at this
  have h2 := this.2
  rw [h] at h2
  split at h2 <;> simp_all

theorem Env.slice {e : TypeId} (h : (E.ty t).kind = .slice e) : E.P.underlying t = some (.slice e) := by
  have hk : (E.ty t).known = true := by simp [TyI.known, h]
  have := E.check hk
  unfold tyCheck at this
  simp only [Bool.and_eq_true] at this
  have h2 := this.2
  rw [h] at h2
  split at h2 <;> simp_all

theorem Env.bool (h : (E.ty t).kind = .bool) : E.P.underlying t = some .bool := by
  have hk : (E.ty t).known = true := by simp [TyI.known, h]
  have := E.check hk
  unfold tyCheck at this
  simp only [Bool.and_eq_true] at this
  have h2 := this.2
  rw [h] at h2
  split at h2 <;> simp_all

theorem Env.struct (h : (E.ty t).agg = true) : (E.ty t).known = true ∧ ∃ fs, E.P.underlying t = some (.struct fs) ∧ offsAre E.P (E.ty t).offs fs.toList = true := by
  have hs : (E.ty t).kind = .struct := by
    unfold TyI.agg at h
    split at h
    · assumption
    · cases h
  have hk : (E.ty t).known = true := by simp [TyI.known, hs]
  refine ⟨hk, ?_⟩
  have := E.check hk
  unfold tyCheck at this
  simp only [Bool.and_eq_true] at this
  have h2 := this.2
  rw [hs] at h2
  split at h2 <;> simp_all

theorem Env.single (hk : (E.ty t).known = true) (h : (E.ty t).agg = false) : ∃ d, E.P.underlying t = some d ∧ (∀ fs, d ≠ .struct fs) ∧ ∀ n e, d ≠ .array n e := by
  have := E.check hk
  unfold tyCheck at this
  simp only [Bool.and_eq_true] at this
  have h2 := this.2
  have hs : (E.ty t).kind ≠ .struct := fun e => by simp [TyI.agg, e] at h
  split at h2 <;> simp_all

theorem offsAre_at {P : Program} : ∀ {os : List (Nat × Nat × Bool)} {fs : List Field}, offsAre P os fs = true → ∀ (i o n : Nat) (b : Bool), os[i]? = some (o, n, b) →
    ∃ f inf, fs[i]? = some f ∧ f.offset = o ∧ P.info? f.type = some inf ∧ inf.size = n ∧ n ≠ 0 ∧
      (match P.underlying f.type with | some (.struct _) => b = true | some (.array ..) => b = true | some _ => b = false | none => False)
  | [], [], _, i, o, n, b, hi => by simp at hi
  | (o', n', b') :: r, f :: s, h, i, o, n, b, hi => by
    simp only [offsAre, Bool.and_eq_true, decide_eq_true_eq] at h
    obtain ⟨⟨⟨⟨⟨h1, h2⟩, h3⟩, h4⟩, h5⟩, h6⟩ := h
    cases i with
    | zero =>
      simp only [List.getElem?_cons_zero, Option.some.injEq, Prod.mk.injEq] at hi
      obtain ⟨rfl, rfl, rfl⟩ := hi
      obtain ⟨inf, hinf⟩ := Option.isSome_iff_exists.1 h4
      refine ⟨f, inf, rfl, h1, hinf, by simpa [Program.cellsOf, hinf] using h2, h3, ?_⟩
      revert h5
      split <;> simp_all
    | succ i => exact offsAre_at h6 i o n b (by simpa using hi)
  | [], _ :: _, h, _, _, _, _, _ => by cases h
  | _ :: _, [], h, _, _, _, _, _ => by cases h
end

/-! ### arithmetic and comparisons -/

def inRange (k : IntKind) (n : Int) : Prop := match k with
  | .i8 => -128 ≤ n ∧ n ≤ 127
  | .i16 => -32768 ≤ n ∧ n ≤ 32767
  | .i32 => -2147483648 ≤ n ∧ n ≤ 2147483647
  | .i64 => -9223372036854775808 ≤ n ∧ n ≤ 9223372036854775807
  | .u8 => 0 ≤ n ∧ n ≤ 255
  | .u16 => 0 ≤ n ∧ n ≤ 65535
  | .u32 => 0 ≤ n ∧ n ≤ 4294967295
  | .u64 => 0 ≤ n ∧ n ≤ 18446744073709551615

theorem wrap_range {k : IntKind} {n : Int} (h : inRange k n) : k.wrap n = n := by
  cases k
  · exact IntWalk.i8_in n h
  · exact IntWalk.i16_in n h
  · exact IntWalk.i32_in n h
  · exact IntWalk.i64_in n h
  · exact IntWalk.u8_in n h
  · exact IntWalk.u16_in n h
  · exact IntWalk.u32_in n h
  · exact IntWalk.u64_in n h

abbrev vI (k : IntKind) (n : Int) : T := .d (.v (.int k n))
abbrev vB (b : Bool) : T := .d (.v (.bool b))
abbrev vS (s : ByteArray) : T := .d (.v (.string s))

def ikb : IntKind → IntKind → Bool
  | .i8, .i8 => true | .i16, .i16 => true | .i32, .i32 => true | .i64, .i64 => true
  | .u8, .u8 => true | .u16, .u16 => true | .u32, .u32 => true | .u64, .u64 => true
  | _, _ => false

theorem ikb_eq {k k' : IntKind} (h : ikb k k' = true) : k = k' := by cases k <;> cases k' <;> first | rfl | cases h

def evInt (op : BinOp) (k : IntKind) (a b : Int) : Option (Prop × Value) :=
  match op with
  | .add => some (inRange k (a + b), .int k (a + b))
  | .sub => some (inRange k (a - b), .int k (a - b))
  | .mul => some (inRange k (a * b), .int k (a * b))
  | .quo => some (b ≠ 0 ∧ inRange k (a.tdiv b), .int k (a.tdiv b))
  | .rem => some (b ≠ 0, .int k (a.tmod b))
  | .eql => some (True, .bool (decide (a = b)))
  | .neq => some (True, .bool (!decide (a = b)))
  | .lss => some (True, .bool (decide (a < b)))
  | .leq => some (True, .bool (decide (a ≤ b)))
  | .gtr => some (True, .bool (decide (b < a)))
  | .geq => some (True, .bool (decide (b ≤ a)))
  | _ => none

def evStr (op : BinOp) (a b : ByteArray) : Option (Prop × Value) :=
  match op with
  | .add => some (a.size + b.size ≤ 9223372036854775807, .string (a ++ b))
  | .eql => some (True, .bool (decide (a = b)))
  | .neq => some (True, .bool (!decide (a = b)))
  | .lss => some (True, .bool (Op.bytesLess a.data.toList b.data.toList))
  | .leq => some (True, .bool (!Op.bytesLess b.data.toList a.data.toList))
  | .gtr => some (True, .bool (Op.bytesLess b.data.toList a.data.toList))
  | .geq => some (True, .bool (!Op.bytesLess a.data.toList b.data.toList))
  | _ => none

def evBin (op : BinOp) (x y : T) : Option (Prop × Value) :=
  match x, y with
  | .d (.v (.int k a)), .d (.v (.int k' b)) => bif ikb k k' then evInt op k a b else none
  | .d (.v (.string a)), .d (.v (.string b)) => evStr op a b
  | _, _ => none

theorem bytesLess_total : ∀ (a b : List UInt8), (Op.bytesLess a b || a == b) = !Op.bytesLess b a
  | [], [] => rfl
  | [], _ :: _ => rfl
  | _ :: _, [] => rfl
  | x :: a, y :: b => by
    have ih := bytesLess_total a b
    simp only [Op.bytesLess, List.cons_beq_cons]
    by_cases h1 : x < y
    · have h2 : ¬ y < x := fun h => by simp [UInt8.lt_iff_toNat_lt] at h h1; omega
      have h3 : ¬ y = x := fun h => by subst h; simp [UInt8.lt_iff_toNat_lt] at h1
      simp [h1, h2, h3]
    · by_cases h2 : y < x
      · have h3 : ¬ x = y := fun h => by subst h; simp [UInt8.lt_iff_toNat_lt] at h2
        simp [h1, h2, h3]
      · have h3 : x = y := by
          simp [UInt8.lt_iff_toNat_lt] at h1 h2
          exact UInt8.toNat_inj.1 (by omega)
        subst h3
        simpa [h1] using ih

theorem toList_eq_iff (a b : ByteArray) : (a.data.toList == b.data.toList) = decide (a = b) := by
  by_cases h : a = b
  · subst h; simp
  · have : ¬ a.data = b.data := fun e => h (by cases a; cases b; simp at e; rw [e])
    simp [h, this]

theorem run_evInt {P : Program} {w : World} {op : BinOp} {k : IntKind} {a b : Int} {c : Prop} {v : Value} {t : TypeId} (h : evInt op k a b = some (c, v)) (hc : c) :
    (binOp op t (.int k a) (.int k b)).run P w = .ok v w := by
  cases op <;> simp only [evInt, Option.some.injEq, Prod.mk.injEq, reduceCtorEq] at h
  all_goals
    obtain ⟨rfl, rfl⟩ := h
    first
    | (simp only [binOp_add, binOp_sub, binOp_mul, Op.intArith, wrap_range hc]; rfl)
    | (simp only [binOp_quo, Op.intDiv, if_neg hc.1, wrap_range hc.2]; rfl)
    | (simp only [binOp_rem, Op.intDiv, if_neg hc]; rfl)
    | (simp only [binOp_eql, binOp_neq, binOp_lss, binOp_leq, binOp_gtr, binOp_geq]; rfl)

theorem run_evStr {P : Program} {w : World} {op : BinOp} {a b : ByteArray} {c : Prop} {v : Value} {t : TypeId} (h : evStr op a b = some (c, v)) (hc : c) :
    (binOp op t (.string a) (.string b)).run P w = .ok v w := by
  have hb : ∀ op, binOp op t (.string a) (.string b) = Op.stringOp op a b := fun op => by cases op <;> simp [binOp]
  rw [hb]
  have e1 : ∀ x : ByteArray, x.toList = x.data.toList := ByteArray.toList_eq
  have ht := bytesLess_total a.data.toList b.data.toList
  cases op <;> simp only [evStr, Option.some.injEq, Prod.mk.injEq, reduceCtorEq] at h
  all_goals
    obtain ⟨rfl, rfl⟩ := h
    simp only [Op.stringOp, e1]
  · have : ¬ (((a.size + b.size : Nat) : Int) > IntKind.i64.max) := by rw [IntKind.max_i64]; omega
    rw [if_neg this]; rfl
  all_goals first
    | (rw [toList_eq_iff]; rfl)
    | (rw [ht, Bool.not_not]; rfl)
    | (rw [ht]; rfl)
    | rfl

theorem run_evBin {P : Program} {w : World} {g : Gh} {op : BinOp} {x y : T} {u u' : Value} {c : Prop} {v : Value} {t : TypeId} {ox oy : Operand} (h : evBin op x y = some (c, v)) (hc : c) (hx : RT g x u) (hy : RT g y u') :
    (do eqGuard op t ox oy u u'; binOp op t u u' : Sem Value).run P w = .ok v w := by
  unfold evBin at h
  split at h
  · rename_i k a k' b
    have := hx.inv_v; subst this
    have := hy.inv_v; subst this
    cases hk : ikb k k' with
    | false => rw [hk] at h; cases h
    | true =>
      rw [hk] at h
      have := ikb_eq hk; subst this
      simp only [eqGuard_at_int, Sem.run_bind, Sem.run_pure, Result.andThen_ok]
      exact run_evInt h hc
  · have := hx.inv_v; subst this
    have := hy.inv_v; subst this
    simp only [eqGuard_at_string, Sem.run_bind, Sem.run_pure, Result.andThen_ok]
    exact run_evStr h hc
  · cases h

end Go.Proofs.Yteooogngdejdgaa
