/-
  The small logic, seventh part: structs and slices that are written out, append, places in slices, parts of slices and strings, a call by its contract. Conditions: none.
-/
import Derived.Test.YteooogngdejdgaaPwF
set_option linter.unusedVariables false
set_option linter.unusedSimpArgs false
namespace Go.Proofs.Yteooogngdejdgaa
open Go.RowKit

/-! ### a struct written out -/

def fillT (ob : List Ob) (offs : List (Nat × Nat × Bool)) : List T → List (Nat × T) → Option (List T)
  | cs, [] => some cs
  | cs, (i, t) :: r => match offs[i]?, cellsT ob t with
    | some (o, n, _), some xs => bif Nat.beq xs.length n && Nat.ble (o + n) cs.length && onesT xs && cursT ob xs then fillT ob offs (setAll cs o xs) r else none
    | _, _ => none

theorem foldl_set : ∀ (xs cs : List Value) (off s : Nat), (xs.zipIdx s).foldl (fun (c : Array Value) (p : Value × Nat) => c.setIfInBounds (off + p.2) p.1) cs.toArray = (setAll cs (off + s) xs).toArray
  | [], cs, off, s => by simp [setAll]
  | x :: r, cs, off, s => by
    simp only [List.zipIdx_cons, List.foldl_cons, List.setIfInBounds_toArray]
    rw [foldl_set r (cs.set (off + s) x) off (s + 1)]
    rfl

theorem fold_cells (v : Value) (cs : List Value) (off : Nat) :
    v.cells.zipIdx.foldl (fun (c : Array Value) (x : Value × Nat) => c.setIfInBounds (off + x.2) x.1) cs.toArray = (setAll cs off v.cells.toList).toArray := by
  have := foldl_set v.cells.toList cs off 0
  rw [Nat.add_zero] at this
  rw [← this, ← Array.foldl_toList, Array.toList_zipIdx]

section
variable {N : Nm} {S : St} {w0 : World} {σ0 : Bs} {ob : List Ob} {a : Act} {w : World} {g : Gh}

theorem Inv.fill (I : Inv w0 σ0 ob w g) {offs : List (Nat × Nat × Bool)} {place : Nat → Option (Nat × Nat)} (hp : ∀ i o n b, offs[i]? = some (o, n, b) → place i = some (o, n)) :
    ∀ (parts : List (Nat × T)) (vals : List (Nat × Value)) (cs cs' : List T) (vs : List Value), fillT ob offs cs parts = some cs' → parts.length = vals.length →
      (∀ (j : Nat) (p : Nat × T) (q : Nat × Value), parts[j]? = some p → vals[j]? = some q → p.1 = q.1 ∧ RT g p.2 q.2) → cs.length = vs.length →
      (∀ (i : Nat) (x : T) (u : Value), cs[i]? = some x → vs[i]? = some u → RT g x u) →
      ∃ vs' : List Value, Instr.fill place vs.toArray vals = some vs'.toArray ∧ cs'.length = vs'.length ∧ ∀ (i : Nat) (x : T) (u : Value), cs'[i]? = some x → vs'[i]? = some u → RT g x u
  | [], [], cs, cs', vs, h, _, _, hl, hr => by
    simp only [fillT, Option.some.injEq] at h
    subst h
    exact ⟨vs, rfl, hl, hr⟩
  | [], _ :: _, cs, cs', vs, h, hlen, _, hl, hr => by simp at hlen
  | _ :: _, [], cs, cs', vs, h, hlen, _, hl, hr => by simp at hlen
  | (i, t) :: parts, (i', v) :: vals, cs, cs', vs, h, hlen, hpv, hl, hr => by
    obtain ⟨hi, ht⟩ := hpv 0 _ _ rfl rfl
    simp only at hi ht
    subst hi
    simp only [fillT] at h
    split at h
    · rename_i o n b xs ho hx
      cases hb : (Nat.beq xs.length n && Nat.ble (o + n) cs.length && onesT xs && cursT ob xs) with
      | false => rw [hb] at h; cases h
      | true =>
        rw [hb, cond_true] at h
        simp only [Bool.and_eq_true] at hb
        obtain ⟨⟨⟨b1, b2⟩, b3⟩, b4⟩ := hb
        obtain ⟨c1, c2, c3⟩ := I.cells hx ht b3 b4
        have e1 : xs.length = n := Nat.eq_of_beq_eq_true b1
        have e2 : o + n ≤ cs.length := Nat.le_of_ble_eq_true b2
        have hvs : v.cells.size = n := by rw [← Array.length_toList]; omega
        obtain ⟨vs', h1, h2, h3⟩ := Inv.fill I hp parts vals (setAll cs o xs) cs' (setAll vs o v.cells.toList) h (by simpa using hlen)
          (fun j p q hj hq => hpv (j + 1) p q (by simpa using hj) (by simpa using hq)) (by rw [setAll_length, setAll_length]; exact hl) (fun k x u hx hu => by
            rw [setAll_at _ _ _ _ (by omega)] at hx
            rw [setAll_at _ _ _ _ (by omega)] at hu
            by_cases hk : o ≤ k ∧ k < o + xs.length
            · rw [if_pos hk] at hx; rw [if_pos (by omega)] at hu; exact c2 _ x u hx hu
            · rw [if_neg hk] at hx; rw [if_neg (by omega)] at hu; exact hr k x u hx hu)
        refine ⟨vs', ?_, h2, h3⟩
        unfold Instr.fill
        rw [hp i o n b ho]
        have hcond : ¬ (v.cells.size ≠ n || decide (o + v.cells.size > vs.toArray.size)) = true := by
          simp [hvs]; omega
        simp only [hcond]
        rw [fold_cells]
        exact h1
    · cases h
end

theorem run_places {P : Program} {w : World} : ∀ {os : List (Nat × Nat × Bool)} {fs : List Field}, offsAre P os fs = true →
    (fs.mapM fun f => (do pure (f.offset, ← sizeOf f.type) : Sem (Nat × Nat))).run P w = .ok (os.map fun x => (x.1, x.2.1)) w
  | [], [], _ => by simp
  | (o, n, b) :: r, f :: s, h => by
    have h0 := offsAre_at h 0 o n b rfl
    obtain ⟨f', inf, hf, h1, h2, h3, _⟩ := h0
    simp only [List.getElem?_cons_zero, Option.some.injEq] at hf
    subst hf
    have hr : offsAre P r s = true := by
      simp only [offsAre, Bool.and_eq_true] at h
      exact h.2
    have ih := run_places (w := w) hr
    simp [List.mapM_cons, sizeOf, typeInfo, h2, h1, h3] at ih ⊢
    rw [ih]
    rfl
  | [], _ :: _, h => by cases h
  | _ :: _, [], h => by cases h

def evParts (S : St) (parts : List (Nat × Operand)) : List (Nat × T) := parts.map fun p => (p.1, S.ev p.2)

section
variable {E : Env} {N : Nm} {Q : Exit → St → Prop} {S : St} {ops l : List Oper} {ty : TypeId} {pos : String} {after : Array Edge} {gd : Option (Nat × Bool)} {d : Nat}

theorem WL.build {t : TypeId} {parts : List (Nat × Operand)} {cs : List T} (hw : S.want ops ⟨some d, .build t parts.toArray, ty, pos, after, gd⟩ = some true) (hd : Nat.blt d N.n = true)
    (ha : (E.ty t).agg = true) (hf : fillT S.ob (E.ty t).offs ((E.ty t).zero.map .d) (evParts S parts) = some cs)
    (k : WL E.P N ops l Q (S.set d (mkAgg cs))) : WL E.P N ops (⟨some d, .build t parts.toArray, ty, pos, after, gd⟩ :: l) Q S :=
  WL.val hw hd (fun w0 σ0 a w g r => by
    obtain ⟨hk, fs, hu, hoffs⟩ := E.struct ha
    obtain ⟨inf, z, hinf, hsz, _, hz, hzs, hzc⟩ := E.info hk
    obtain ⟨z1, z2, z3⟩ := zerosAre_ok hzs
    obtain ⟨vs', h1, h2, h3⟩ := r.inv.fill (place := fun i => ((E.ty t).offs.map fun x => (x.1, x.2.1)).toArray[i]?) (offs := (E.ty t).offs) (fun i o n b h => by simp [h])
      (evParts S parts) (parts.map fun p => (p.1, a.eval p.2)) _ cs z.cells.toList hf (by simp [evParts]) (fun j p q hp hq => by
        simp only [evParts, List.getElem?_map, Option.map_eq_some_iff] at hp hq
        obtain ⟨x, hx, rfl⟩ := hp
        obtain ⟨y, hy, rfl⟩ := hq
        rw [hx] at hy; cases hy
        exact ⟨rfl, r.ev x.2⟩) (by simpa using z1) (fun i x u hx hu => by
        simp only [List.getElem?_map, Option.map_eq_some_iff] at hx
        obtain ⟨y, hy, rfl⟩ := hx
        exact .d _ _ (z3 _ i y u hy hu))
    have hpl := run_places (w := w) hoffs
    have hrun : (Instr.build t (parts.toArray.map fun (i, x) => (i, a.eval x))).run E.P w = .ok (.agg vs'.toArray) w := by
      unfold Instr.build
      simp only [Sem.run_bind, zeroValue, typeInfo, run_program, Result.andThen_ok, hinf, Sem.run_pure, hz, run_underlying hu]
      rw [Array.mapM_eq_mapM_toList]
      simp only [Sem.run_map, hpl, Result.andThen_ok]
      have e1 : (parts.toArray.map fun (x : Nat × Operand) => (x.1, a.eval x.2)).toList = parts.map fun p => (p.1, a.eval p.2) := by simp
      have e2 : z.cells = z.cells.toList.toArray := by simp
      rw [e1, e2, h1]
      simp
    exact ⟨_, by simp only [execOp, Sem.run_bind, hrun, Result.andThen_ok, Sem.run_pure], RT.mkAgg h2 h3⟩) k
end

/-! ### places in slices -/

section
variable {E : Env} {N : Nm} {Q : Exit → St → Prop} {S : St} {ops l : List Oper} {ty : TypeId} {pos : String} {after : Array Edge} {gd : Option (Nat × Bool)} {d : Nat}

theorem run_indexAt {P : Program} {w : World} {t e : TypeId} {inf : TypeInfo} (hu : P.underlying t = some (.slice e)) (hi : P.info? e = some inf) (b off len cap : Nat) (k : IntKind) (i : Int) (h : 0 ≤ i ∧ i < len) :
    (Instr.indexAt t (.slice (some ⟨b, off, none⟩) len cap) (.int k i)).run P w = .ok (.pointer (some ⟨b, off + i.toNat * inf.size, none⟩)) w := by
  simp [Instr.indexAt, asIntOf, run_underlying hu, sizeOf, typeInfo, hi, h, Addr.add_lit]

theorem WL.index {t e : TypeId} {x ix : Operand} {z : Nat} {rows : List (List D)} {k : IntKind} {i : Int} {r : List D} (hw : S.want ops ⟨some d, .indexAddr t x ix, ty, pos, after, gd⟩ = some true) (hd : Nat.blt d N.n = true)
    (ht : (E.ty t).kind = .slice e) (he : (E.ty e).known = true) (hz : (E.ty e).size = z) (hx : norm S.ob (S.ev x) = .d (.sl z rows)) (hi : S.ev ix = .d (.v (.int k i)))
    (hb : 0 ≤ i ∧ i < rows.length) (hr : rows[i.toNat]? = some r)
    (kk : WL E.P N ops l Q (S.set d (.ea r 0))) : WL E.P N ops (⟨some d, .indexAddr t x ix, ty, pos, after, gd⟩ :: l) Q S :=
  WL.val hw hd (fun w0 σ0 a w g R => by
    have h1 := R.inv.norm (R.ev x)
    rw [hx] at h1
    have h2 := R.ev ix
    rw [hi] at h2
    have h2' := h2.inv_v
    obtain ⟨inf, zz, hinf, hsz, _⟩ := E.info he
    have hlt : i.toNat < rows.length := by omega
    generalize hxe : a.eval x = xv at h1
    cases h1.inv_d with
    | nil => simp at hlt
    | sl _ _ b off cap U hcap hm hzr hc hrr =>
      have hrl : r.length = z := hzr r (List.mem_of_getElem? hr)
      refine ⟨_, by simp only [execOp, Sem.run_bind, hxe, h2', run_indexAt (E.slice ht) hinf b off rows.length cap k i hb, Result.andThen_ok, Sem.run_pure]; rfl, ?_⟩
      rw [hsz, hz]
      exact .ea r 0 b (off + i.toNat * z) (U i.toNat) (fun j hj => hc i.toNat j hlt (by omega)) (fun j y hy => hrr i.toNat j r y hr hy)) kk

theorem WL.indexOg {t e : TypeId} {x ix : Operand} {z : Nat} {e' : TypeId} {rows : List (List D)} {n m : Nat} {pub : Bool} {k : IntKind} {i : Int} (hw : S.want ops ⟨some d, .indexAddr t x ix, ty, pos, after, gd⟩ = some true) (hd : Nat.blt d N.n = true)
    (ht : (E.ty t).kind = .slice e) (he : (E.ty e).known = true) (hz : (E.ty e).size = z) (hx : S.ev x = .og m n) (hm : S.ob[m]? = some (.gr z e' rows n pub)) (hi : S.ev ix = .d (.v (.int k i)))
    (hb : 0 ≤ i ∧ i < rows.length)
    (kk : WL E.P N ops l Q (S.set d (.eg m n z i.toNat 0))) : WL E.P N ops (⟨some d, .indexAddr t x ix, ty, pos, after, gd⟩ :: l) Q S :=
  WL.val hw hd (fun w0 σ0 a w g R => by
    have h1 := R.ev x
    rw [hx] at h1
    obtain ⟨h1, h1'⟩ := h1.inv_og
    have h2 := R.ev ix
    rw [hi] at h2
    have h2' := h2.inv_v
    obtain ⟨inf, zz, hinf, hsz, _⟩ := E.info he
    obtain ⟨hl, xs, ⟨hown, _⟩, _⟩ := R.inv.obs m _ hm
    rcases hown.2 with ⟨_, hn⟩ | ⟨b, cap, cur, hv, _⟩
    · omega
    · refine ⟨_, by simp only [execOp, Sem.run_bind, h1', hv, h2', run_indexAt (E.slice ht) hinf b 0 rows.length cap k i hb, Result.andThen_ok, Sem.run_pure]; rfl, ?_⟩
      rw [hsz, hz, Nat.zero_add]
      exact .eg m n z i.toNat 0 b rows.length cap h1 hv) kk

theorem WL.loadEg {t : TypeId} {x : Operand} {z : Nat} {e' : TypeId} {rows : List (List D)} {n m i off : Nat} {pub : Bool} {r : List D} {res : D} (hw : S.want ops ⟨some d, .load t x, ty, pos, after, gd⟩ = some true) (hd : Nat.blt d N.n = true)
    (hk : (E.ty t).known = true) (hx : S.ev x = .eg m n z i off) (hm : S.ob[m]? = some (.gr z e' rows n pub)) (hr : rows[i]? = some r)
    (hres : (bif (E.ty t).agg then (bif Nat.ble (off + (E.ty t).size) r.length then some (.agg ((r.drop off).take (E.ty t).size)) else none) else r[off]?) = some res)
    (kk : WL E.P N ops l Q (S.set d (.d res))) : WL E.P N ops (⟨some d, .load t x, ty, pos, after, gd⟩ :: l) Q S :=
  WL.val hw hd (fun w0 σ0 a w g R => by
    have h1 := R.ev x
    rw [hx] at h1
    obtain ⟨b, len, cap, hlim, hγ, hxv⟩ := h1.inv_eg
    obtain ⟨inf, zz, hinf, hsz, _⟩ := E.info hk
    obtain ⟨hl, xs, ⟨hown, _⟩, hzr, hxr, hone, _⟩ := R.inv.obs m _ hm
    have hrl : r.length = z := hzr r (List.mem_of_getElem? hr)
    have hilt : i < rows.length := (List.getElem?_eq_some_iff.1 hr).1
    have hin : ∀ j, j < z → i * z + j < rows.length * z := fun j hj => by
      calc i * z + j < i * z + z := by omega
        _ = (i + 1) * z := by rw [Nat.add_mul]; omega
        _ ≤ rows.length * z := Nat.mul_le_mul_right _ hilt
    have hlen : len = rows.length := by
      rcases hown.2 with ⟨hv, _⟩ | ⟨_, _, _, hv, _⟩
      · rw [hγ] at hv; cases hv
      · rw [hγ] at hv; cases hv; rfl
    subst hlen
    rw [hγ] at hown
    have hcell : ∀ j (y : D), r[j]? = some y → ∃ u, w.cell? ⟨b, i * z + j, none⟩ = some u ∧ RD g.σ y u := fun j y hy => by
      obtain ⟨u, hu, hd⟩ := hxr i j r y hr hy
      have hj : j < z := by rw [← hrl]; exact (List.getElem?_eq_some_iff.1 hy).1
      exact ⟨u, by rw [hown.cellAt (i * z + j) (hin j hj)]; exact hu, hd⟩
    cases ha : (E.ty t).agg with
    | true =>
      obtain ⟨_, fs, hu, _⟩ := E.struct ha
      rw [ha, cond_true] at hres
      cases hbl : Nat.ble (off + (E.ty t).size) r.length with
      | false => rw [hbl] at hres; cases hres
      | true =>
        rw [hbl, cond_true] at hres
        simp only [Option.some.injEq] at hres
        subst hres
        have hle := Nat.le_of_ble_eq_true hbl
        have hcs : ∀ j, j < (E.ty t).size → ∃ u, w.cell? ⟨b, i * z + off + j, none⟩ = some u ∧ ∀ y, r[off + j]? = some y → RD g.σ y u := fun j hj => by
          have hlt : off + j < r.length := by omega
          obtain ⟨u, h1, h2⟩ := hcell (off + j) _ (List.getElem?_eq_getElem hlt)
          refine ⟨u, by rw [Nat.add_assoc]; exact h1, fun y hy => ?_⟩
          rw [List.getElem?_eq_getElem hlt] at hy
          cases hy; exact h2
        let U : Nat → Value := fun j => (w.cell? ⟨b, i * z + off + j, none⟩).getD undef
        refine ⟨.agg ((List.range (E.ty t).size).map U).toArray, ?_, .d _ _ (.agg _ _ (by simp; omega) fun j y u hy hu => ?_)⟩
        · have := run_loadVar_struct (w := w) hu hinf ⟨b, i * z + off, none⟩ ((List.range (E.ty t).size).map U) (by simp [hsz])
            (fun j v hj => by
              rw [Addr.add_lit]
              simp only [List.getElem?_map, Option.map_eq_some_iff] at hj
              obtain ⟨j', hj', rfl⟩ := hj
              obtain ⟨hlt, rfl⟩ := List.getElem?_eq_some_iff.1 hj'
              simp only [List.length_range] at hlt
              rw [List.getElem_range]
              obtain ⟨u, hu, _⟩ := hcs j hlt
              simp [U, hu])
          simp only [execOp, Sem.run_bind, Instr.loadAt, Instr.sureAddr, hxv, Sem.run_pure, Result.andThen_ok, this]
        · simp only [List.getElem?_take, List.getElem?_drop] at hy
          simp only [List.getElem?_map, Option.map_eq_some_iff] at hu
          obtain ⟨j', hj', rfl⟩ := hu
          obtain ⟨hlt, rfl⟩ := List.getElem?_eq_some_iff.1 hj'
          simp only [List.length_range] at hlt
          rw [List.getElem_range]
          obtain ⟨u, hu, hd⟩ := hcs j hlt
          rw [if_pos hlt] at hy
          simp only [U, hu, Option.getD_some]
          exact hd y hy
    | false =>
      obtain ⟨dd, hu, hd1, hd2⟩ := E.single hk ha
      rw [ha, cond_false] at hres
      obtain ⟨u, hc, hd⟩ := hcell off res hres
      exact ⟨u, by simp only [execOp, Sem.run_bind, Instr.loadAt, Instr.sureAddr, hxv, Sem.run_pure, Result.andThen_ok, run_loadVar_single (w := w) hu hd1 hd2 hc], .d _ _ hd⟩) kk

/-! ### parts of slices and strings -/

def evBound (S : St) (n : Nat) : Option Operand → Option Int
  | none => some n
  | some x => match S.ev x with | .d (.v (.int _ i)) => some i | _ => none

def evLow (S : St) : Option Operand → Option Int
  | none => some 0
  | some o => evBound S 0 (some o)

theorem WL.sliceD {t e : TypeId} {x : Operand} {lo hi : Option Operand} {z : Nat} {rows : List (List D)} {li hh : Int} (hw : S.want ops ⟨some d, .slice t x lo hi none, ty, pos, after, gd⟩ = some true) (hd : Nat.blt d N.n = true)
    (ht : (E.ty t).kind = .slice e) (he : (E.ty e).known = true) (hz : (E.ty e).size = z) (hx : norm S.ob (S.ev x) = .d (.sl z rows)) (hlo : evLow S lo = some li)
    (hhi : evBound S rows.length hi = some hh) (hb : 0 ≤ li ∧ li ≤ hh ∧ hh ≤ rows.length)
    (kk : WL E.P N ops l Q (S.set d (.d (.sl z ((rows.drop li.toNat).take (hh.toNat - li.toNat)))))) : WL E.P N ops (⟨some d, .slice t x lo hi none, ty, pos, after, gd⟩ :: l) Q S :=
  WL.val hw hd (fun w0 σ0 a w g R => by
    have h1 := R.inv.norm (R.ev x)
    rw [hx] at h1
    obtain ⟨inf, zz, hinf, hsz, _⟩ := E.info he
    have hbound : ∀ (o : Operand) (i : Int) (y : Nat) (c : BoundsCode), evBound S 0 (some o) = some i → 0 ≤ i → i ≤ y → (Instr.sliceBound (a.eval o) y c).run E.P w = .ok i.toNat w := fun o i y c ho h0 h1 => by
      simp only [evBound] at ho
      split at ho
      · rename_i k j hj
        simp only [Option.some.injEq] at ho
        subst ho
        have := R.ev o
        rw [hj] at this
        rw [this.inv_v]
        exact run_sliceBound w k j y c h0 h1
      · cases ho
    have hbounds : ∀ cap : Nat, rows.length ≤ cap → (Instr.sliceBounds true rows.length cap (lo.map a.eval) (hi.map a.eval) none).run E.P w = .ok (li.toNat, hh.toNat, cap) w := fun cap hcap => by
      have hhigh : (match (hi.map a.eval), (none : Option Value) with
          | some v, some _ => Instr.sliceBound v cap .slice3B | some v, none => Instr.sliceBound v cap .sliceAcap | none, none => pure rows.length | none, some _ => stuck "x" : Sem Nat).run E.P w = .ok hh.toNat w := by
        cases hi with
        | none => simp only [evBound, Option.some.injEq] at hhi; subst hhi; simp
        | some o => exact hbound o hh cap _ (by simpa [evBound] using hhi) (by omega) (by omega)
      cases lo with
      | none =>
        simp only [evLow, Option.some.injEq] at hlo
        subst hlo
        cases hi with
        | none => simp only [evBound, Option.some.injEq] at hhi; subst hhi; simp [Instr.sliceBounds]
        | some o =>
          have := hbound o hh cap .sliceAcap (by simpa [evBound] using hhi) (by omega) (by omega)
          simp [Instr.sliceBounds, this]
      | some o' =>
        have hl := hbound o' li hh.toNat .sliceB hlo hb.1 (by omega)
        cases hi with
        | none =>
          simp only [evBound, Option.some.injEq] at hhi
          subst hhi
          have hl' := hbound o' li rows.length .sliceB hlo hb.1 hb.2.1
          simp [Instr.sliceBounds, hl']
        | some o =>
          have := hbound o hh cap .sliceAcap (by simpa [evBound] using hhi) (by omega) (by omega)
          simp [Instr.sliceBounds, this, hl]
    generalize hxe : a.eval x = xv at h1
    have hat : ∀ (A : Option Addr) (n cap : Nat), (Instr.sliceBounds true n cap (lo.map a.eval) (hi.map a.eval) none).run E.P w = .ok (li.toNat, hh.toNat, cap) w → (Instr.sliceAt t (.slice A n cap) (lo.map a.eval) (hi.map a.eval) ((none : Option Operand).map a.eval)).run E.P w =
        .ok (.slice (if cap = li.toNat then A else A.map (·.add (li.toNat * inf.size))) (hh.toNat - li.toNat) (cap - li.toNat)) w := fun A n cap hb => by
      simp [Instr.sliceAt, run_underlying (E.slice ht), Instr.slice, hb, sizeOf, typeInfo, hinf]
    cases h1.inv_d with
    | nil _ A =>
      have e1 : li = 0 := by have := hb.2.1; have := hb.2.2; simp at this; omega
      have e2 : hh = 0 := by have := hb.2.2; simp at this; omega
      subst e1; subst e2
      refine ⟨_, by simp only [execOp, Sem.run_bind, hxe]; rw [hat A 0 0 (hbounds 0 (by simp))]; simp; rfl, ?_⟩
      simp
      exact .d _ _ (.nil z A)
    | sl _ _ b off cap U hcap hm hzr hc hrr =>
      refine ⟨_, by simp only [execOp, Sem.run_bind, hxe, hat _ _ cap (hbounds cap hcap), Result.andThen_ok, Sem.run_pure]; rfl, ?_⟩
      have hlen : ((rows.drop li.toNat).take (hh.toNat - li.toNat)).length = hh.toNat - li.toNat := by simp; omega
      by_cases hm' : cap = li.toNat
      · rw [if_pos hm']
        have : hh.toNat - li.toNat = 0 := by omega
        rw [this]
        simp only [List.take_zero]
        exact .d _ _ (.sl z [] b off (cap - li.toNat) U (Nat.zero_le _) (by omega) (fun r h => by cases h) (fun i j hi => by simp at hi) (fun i j r x hr => by simp at hr))
      · rw [if_neg hm', hsz, hz]
        simp only [Option.map_some, Addr.add_lit]
        have := RD.sl (σ := g.σ) z ((rows.drop li.toNat).take (hh.toNat - li.toNat)) b (off + li.toNat * z) (cap - li.toNat) (fun i j => U (li.toNat + i) j) (by rw [hlen]; omega) (by omega)
          (fun r hr => hzr r (List.mem_of_mem_drop (List.mem_of_mem_take hr)))
          (fun i j hi hj => by
            rw [hlen] at hi
            have := hc (li.toNat + i) j (by omega) hj
            rw [Nat.add_mul] at this
            rw [show off + li.toNat * z + i * z + j = off + (li.toNat * z + i * z) + j by omega]
            exact this)
          (fun i j r x hr hx => by
            simp only [List.getElem?_take, List.getElem?_drop] at hr
            split at hr
            · exact hrr _ j r x hr hx
            · cases hr)
        rw [hlen] at this
        exact .d _ _ this) kk

theorem WL.sliceS {t : TypeId} {x : Operand} {lo hi : Option Operand} {s : ByteArray} {li hh : Int} (hw : S.want ops ⟨some d, .slice t x lo hi none, ty, pos, after, gd⟩ = some true) (hd : Nat.blt d N.n = true)
    (ht : (E.ty t).kind = .string) (hx : S.ev x = .d (.v (.string s))) (hlo : evLow S lo = some li)
    (hhi : evBound S s.size hi = some hh) (hb : 0 ≤ li ∧ li ≤ hh ∧ hh ≤ s.size)
    (kk : WL E.P N ops l Q (S.set d (.d (.v (.string (s.extract li.toNat hh.toNat)))))) : WL E.P N ops (⟨some d, .slice t x lo hi none, ty, pos, after, gd⟩ :: l) Q S :=
  WL.val hw hd (fun w0 σ0 a w g R => by
    have h1 := R.ev x
    rw [hx] at h1
    have h1' := h1.inv_v
    have hbound : ∀ (o : Operand) (i : Int) (y : Nat) (c : BoundsCode), evBound S 0 (some o) = some i → 0 ≤ i → i ≤ y → (Instr.sliceBound (a.eval o) y c).run E.P w = .ok i.toNat w := fun o i y c ho h0 h1 => by
      simp only [evBound] at ho
      split at ho
      · rename_i k j hj
        simp only [Option.some.injEq] at ho
        subst ho
        have := R.ev o
        rw [hj] at this
        rw [this.inv_v]
        exact run_sliceBound w k j y c h0 h1
      · cases ho
    have hbounds : (Instr.sliceBounds false s.size s.size (lo.map a.eval) (hi.map a.eval) none).run E.P w = .ok (li.toNat, hh.toNat, s.size) w := by
      cases lo with
      | none =>
        simp only [evLow, Option.some.injEq] at hlo
        subst hlo
        cases hi with
        | none => simp only [evBound, Option.some.injEq] at hhi; subst hhi; simp [Instr.sliceBounds]
        | some o =>
          have := hbound o hh s.size .sliceAlen (by simpa [evBound] using hhi) (by omega) (by omega)
          simp [Instr.sliceBounds, this]
      | some o' =>
        have hl := hbound o' li hh.toNat .sliceB hlo hb.1 (by omega)
        cases hi with
        | none =>
          simp only [evBound, Option.some.injEq] at hhi
          subst hhi
          have hl' := hbound o' li s.size .sliceB hlo hb.1 hb.2.1
          simp [Instr.sliceBounds, hl']
        | some o =>
          have := hbound o hh s.size .sliceAlen (by simpa [evBound] using hhi) (by omega) (by omega)
          simp [Instr.sliceBounds, this, hl]
    refine ⟨_, ?_, .d _ _ (.v _)⟩
    simp [execOp, Instr.sliceAt, run_underlying (E.string ht), h1', Instr.slice, hbounds]) kk
end

end Go.Proofs.Yteooogngdejdgaa
