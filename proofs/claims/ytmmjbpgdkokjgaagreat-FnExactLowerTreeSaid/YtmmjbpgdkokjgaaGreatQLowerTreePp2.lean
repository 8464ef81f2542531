/-
  Texts of this claim in one. Conditions: none.
-/
import Derived.Test.YtmmjbpgdkokjgaaGreatQLowerTreePgE
import Derived.Test.YtmmjbpgdkokjgaaGreatQLowerTreePp1
import Derived.Test.YtmmjbpgdkokjgaaGreatQLowerTreeNf1
section
set_option linter.unusedVariables false
set_option linter.unusedSimpArgs false
namespace Go.Proofs.YtmmjbpgdkokjgaaGreat
open Go.RowKit

/-- The parts of a slice that is written out, one cell each. -/
def partsT (S : St) : Nat → List (Nat × Operand) → Option (List T)
  | _, [] => some []
  | i, (j, x) :: r => bif Nat.beq i j then (match partsT S (i + 1) r with | some ts => some (S.ev x :: ts) | none => none) else none

theorem partsT_at {S : St} : ∀ {parts : List (Nat × Operand)} {i : Nat} {ts : List T}, partsT S i parts = some ts → ts.length = parts.length ∧ ∀ (j : Nat) (p : Nat × Operand), parts[j]? = some p → p.1 = i + j ∧ ts[j]? = some (S.ev p.2)
  | [], i, ts, h => by
    simp only [partsT, Option.some.injEq] at h
    subst h
    exact ⟨rfl, fun j p hp => by simp at hp⟩
  | (k, x) :: r, i, ts, h => by
    unfold partsT at h
    cases hb : Nat.beq i k with
    | false => rw [hb] at h; cases h
    | true =>
      rw [hb, cond_true] at h
      cases hr : partsT S (i + 1) r with
      | none => rw [hr] at h; cases h
      | some us =>
        rw [hr] at h
        simp only [Option.some.injEq] at h
        subst h
        obtain ⟨h1, h2⟩ := partsT_at hr
        refine ⟨by simp [h1], fun j p hp => ?_⟩
        cases j with
        | zero =>
          simp at hp
          subst hp
          exact ⟨(Nat.eq_of_beq_eq_true hb).symm, rfl⟩
        | succ j =>
          obtain ⟨h3, h4⟩ := h2 j p (by simpa using hp)
          exact ⟨by omega, by simpa using h4⟩

theorem one_cells {v : Value} (h : v.oneCell' = true) : v.cells = #[v] := by cases v <;> first | rfl | cases h

theorem run_buildP {E : Env} {a : Act} {w : World} {d : Option Nat} {ty : TypeId} {pos : String} {after : Array Edge} {gd : Option (Nat × Bool)} {t e : TypeId} {len : Nat} {parts : List (Nat × Operand)}
    (ht : (E.ty t).kind = .slice e) (he : (E.ty e).known = true) (hz : (E.ty e).size = 1) (hlen : parts.length = len) (h0 : 0 < len) (hmax : len ≤ 16777216) (hp : ∀ (j : Nat) (p : Nat × Operand), parts[j]? = some p → p.1 = j ∧ (a.eval p.2).oneCell' = true) :
    (execOp a.eval ⟨d, .buildSlice t len parts.toArray, ty, pos, after, gd⟩).run E.P w = .ok (.value (.slice (some ⟨w.heap.size, 0, none⟩) len len)) (w.alloc (.cells (parts.map fun p => a.eval p.2).toArray e)) := by
  obtain ⟨inf, zz, hinf, hsz, _, hzv, hzs, hzc⟩ := E.info he
  let vals : List (Nat × Value) := parts.map fun p => (p.1, a.eval p.2)
  have hval : ∀ (j : Nat) (p : Nat × Value), vals[j]? = some p → p.1 = 0 + j ∧ p.2.cells.size = 1 := fun j p hj => by
    simp only [vals, List.getElem?_map, Option.map_eq_some_iff] at hj
    obtain ⟨q, hq, rfl⟩ := hj
    obtain ⟨h1, h2⟩ := hp j q hq
    exact ⟨by rw [h1]; omega, by rw [one_cells h2]; rfl⟩
  have hfl : (vals.flatMap fun p => p.2.cells.toList) = parts.map fun p => a.eval p.2 := by
    have key : ∀ l : List (Nat × Operand), (∀ p ∈ l, (a.eval p.2).oneCell' = true) → ((l.map fun p => (p.1, a.eval p.2)).flatMap fun p => p.2.cells.toList) = l.map fun p => a.eval p.2 := by
      intro l
      induction l with
      | nil => intro _; rfl
      | cons q r ih =>
        intro hh
        rw [List.map_cons, List.flatMap_cons, ih fun p hp => hh p (List.mem_cons_of_mem _ hp), one_cells (hh q (List.mem_cons_self ..))]
        rfl
    refine key parts fun p hpm => ?_
    obtain ⟨j, hj⟩ := List.getElem?_of_mem hpm
    exact (hp j p hj).2
  have hlt : vals.length = len := by simp [vals, hlen]
  let zc : Array Value := if len * 1 = 0 then #[] else zz.cells
  have hfill := fill_rows (z := 1) (len := len) vals 0 [] (((Array.range (len * 1)).map fun i => zc[i % zc.size]!).toList) (by simp) hval (by simp [hlt])
  simp only [List.nil_append, Array.toArray_toList] at hfill
  rw [hfl] at hfill
  have hn0 : ¬ len * 1 = 0 := by omega
  have hrun : (Instr.buildSlice t len (parts.toArray.map fun (i, x) => (i, a.eval x))).run E.P w =
      .ok (.slice (some ⟨w.heap.size, 0, none⟩) len len) (w.alloc (.cells (parts.map fun p => a.eval p.2).toArray e)) := by
    have e1 : (parts.toArray.map fun (x : Nat × Operand) => (x.1, a.eval x.2)).toList = vals := by simp [vals]
    have hnot : ¬ len * 1 > 2 ^ 24 := by omega
    unfold Instr.buildSlice
    simp only [Sem.run_bind, run_underlying (E.slice ht), Result.andThen_ok, sizeOf, typeInfo, run_program, hinf, Sem.run_pure, hsz, hz]
    rw [if_neg hnot]
    simp only [Sem.run_bind, Result.andThen_ok, Sem.run_pure, pure_bind]
    simp only [hn0, if_false, zeroValue, typeInfo, Sem.run_bind, run_program, hinf, Result.andThen_ok, Sem.run_pure, hzv]
    have hzc0 : zc = zz.cells := if_neg hn0
    rw [hzc0] at hfill
    rw [e1]
    simp only [hfill]
    simp [newRow]
  simp only [execOp, Sem.run_bind, hrun, Result.andThen_ok, Sem.run_pure]

section
variable {E : Env} {N : Nm} {Q : Exit → St → Prop} {S : St} {ops l : List Oper} {ty : TypeId} {pos : String} {after : Array Edge} {gd : Option (Nat × Bool)} {d : Nat} {tm : Nat → T} {ob ob' : List Ob} {G : List Nat}

/-- A slice written out of cells of any kind: a variable of so many cells. -/
theorem WL.bsP {t e : TypeId} {len : Nat} {parts : List (Nat × Operand)} {cs : List T} (hw : S.want ops ⟨some d, .buildSlice t len parts.toArray, ty, pos, after, gd⟩ = some true) (hd : Nat.blt d N.n = true)
    (ht : (E.ty t).kind = .slice e) (he : (E.ty e).known = true) (hz : (E.ty e).size = 1) (hlen : Nat.beq parts.length len = true) (h0 : Nat.blt 0 len = true) (hmax : Nat.ble len 16777216 = true) (hc : partsT S 0 parts = some cs) (h1 : onesT cs = true) (h2 : cursT S.ob cs = true)
    (k : WL E.P N ops l Q ⟨(S.set d (.ps S.ob.length len)).tm, S.ob ++ [.pv cs]⟩) : WL E.P N ops (⟨some d, .buildSlice t len parts.toArray, ty, pos, after, gd⟩ :: l) Q S :=
  WL.eff (by simp) hw hd (fun w0 σ0 a w g R => by
    obtain ⟨hl, hat⟩ := partsT_at hc
    have hlen' := Nat.eq_of_beq_eq_true hlen
    have hone : ∀ (j : Nat) (p : Nat × Operand), parts[j]? = some p → (a.eval p.2).oneCell' = true := fun j p hj => by
      have hj2 := (hat j p hj).2
      have key : ∀ (l : List T), onesT l = true → cursT S.ob l = true → ∀ (j : Nat) (x : T), l[j]? = some x → oneT x = true ∧ curT S.ob x = true := by
        intro l
        induction l with
        | nil => intro _ _ j x hx; simp at hx
        | cons y r ih =>
          intro h1 h2 j x hx
          simp only [onesT, cursT, Bool.and_eq_true] at h1 h2
          cases j with
          | zero => simp at hx; subst hx; exact ⟨h1.1, h2.1⟩
          | succ j => exact ih h1.2 h2.2 j x (by simpa using hx)
      obtain ⟨q1, q2⟩ := key cs h1 h2 j _ hj2
      exact R.inv.one q1 q2 (R.ev p.2)
    have hrun := run_buildP (E := E) (a := a) (w := w) (d := some d) (ty := ty) (pos := pos) (after := after) (gd := gd) (t := t) (e := e) (len := len) (parts := parts) ht he hz hlen' (by simpa using h0) (Nat.le_of_ble_eq_true hmax) fun j p hj => ⟨by have := (hat j p hj).1; omega, hone j p hj⟩
    obtain ⟨g', hle, I', htt⟩ := R.inv.addPv (by rw [R.hm]; exact R.hl) e cs (parts.map fun p => a.eval p.2) (by simpa using hl) (fun i x u hx hu => by
      simp only [List.getElem?_map, Option.map_eq_some_iff] at hu
      obtain ⟨p, hp, rfl⟩ := hu
      have := (hat i p hp).2
      rw [hx] at this
      cases this
      exact R.ev p.2) (fun u hu => by
      obtain ⟨p, hp, rfl⟩ := List.mem_map.1 hu
      obtain ⟨j, hj⟩ := List.getElem?_of_mem hp
      exact hone j p hj)
    obtain ⟨b, h3, h4, h5⟩ := htt.inv_lp
    refine ⟨_, _, g', hrun, hle, I', ?_⟩
    injection h5 with h5
    injection h5 with h5
    injection h5 with h5 _ _
    subst h5
    exact .ps _ len _ h3 h4) k

/-- A cell of it. -/
theorem WL.ixPs {t e : TypeId} {x ix : Operand} {L n : Nat} {k : IntKind} {i : Int} (hw : S.want ops ⟨some d, .indexAddr t x ix, ty, pos, after, gd⟩ = some true) (hd : Nat.blt d N.n = true)
    (ht : (E.ty t).kind = .slice e) (he : (E.ty e).known = true) (hz : (E.ty e).size = 1) (hx : S.ev x = .ps L n) (hi : S.ev ix = .d (.v (.int k i))) (hb : 0 ≤ i ∧ i < n)
    (kk : WL E.P N ops l Q (S.set d (.lp L i.toNat))) : WL E.P N ops (⟨some d, .indexAddr t x ix, ty, pos, after, gd⟩ :: l) Q S :=
  WL.val hw hd (fun w0 σ0 a w g R => by
    have h1 := R.ev x
    rw [hx] at h1
    obtain ⟨b, h0, hγ, h1'⟩ := h1.inv_ps
    have h2 := R.ev ix
    rw [hi] at h2
    have h2' := h2.inv_v
    obtain ⟨inf, zz, hinf, hsz, _⟩ := E.info he
    refine ⟨_, by simp only [execOp, Sem.run_bind, h1', h2', run_indexAt (E.slice ht) hinf b 0 n n k i hb, Result.andThen_ok, Sem.run_pure]; rfl, ?_⟩
    rw [hsz, hz, Nat.zero_add, Nat.mul_one]
    exact .lp L i.toNat b h0 hγ) kk

theorem WG.bsP {t e : TypeId} {len K : Nat} {parts : List (Nat × Operand)} {cs : List T} (hw : St.want ⟨tm, ob⟩ ops ⟨some d, .buildSlice t len parts.toArray, ty, pos, after, gd⟩ = some true) (hd : Nat.blt d N.n = true)
    (ht : (E.ty t).kind = .slice e) (he : (E.ty e).known = true) (hz : (E.ty e).size = 1) (hlen : Nat.beq parts.length len = true) (h0 : Nat.blt 0 len = true) (hmax : Nat.ble len 16777216 = true) (hc : partsT ⟨tm, ob⟩ 0 parts = some cs) (h1 : onesT cs = true) (h2 : cursT ob cs = true) (hK : ob.length = K)
    (k : WG G E.P N ops l Q ⟨upd tm d (.ps K len), ob ++ [.pv cs]⟩) : WG G E.P N ops (⟨some d, .buildSlice t len parts.toArray, ty, pos, after, gd⟩ :: l) Q ⟨tm, ob⟩ := by
  subst hK
  exact WL.bsP (S := ⟨tm, ob⟩) hw hd ht he hz hlen h0 hmax hc h1 h2 k

theorem WG.ixPs {t e : TypeId} {x ix : Operand} {L n : Nat} {k : IntKind} {i : Int} (hw : St.want ⟨tm, ob⟩ ops ⟨some d, .indexAddr t x ix, ty, pos, after, gd⟩ = some true) (hd : Nat.blt d N.n = true)
    (ht : (E.ty t).kind = .slice e) (he : (E.ty e).known = true) (hz : (E.ty e).size = 1) (hx : St.ev ⟨tm, ob⟩ x = .ps L n) (hi : St.ev ⟨tm, ob⟩ ix = .d (.v (.int k i))) (hb : 0 ≤ i ∧ i < n)
    (kk : WG G E.P N ops l Q ⟨upd tm d (.lp L i.toNat), ob⟩) : WG G E.P N ops (⟨some d, .indexAddr t x ix, ty, pos, after, gd⟩ :: l) Q ⟨tm, ob⟩ :=
  WL.ixPs (S := ⟨tm, ob⟩) hw hd ht he hz hx hi hb kk

theorem OpS1.ixPs {t e : TypeId} {x ix : Operand} {L n : Nat} {k : IntKind} {i : Int} (hw : St.want ⟨tm, ob⟩ ops ⟨some d, .indexAddr t x ix, ty, pos, after, gd⟩ = some true) (hd : Nat.blt d N.n = true)
    (ht : (E.ty t).kind = .slice e) (he : (E.ty e).known = true) (hz : (E.ty e).size = 1) (hx : St.ev ⟨tm, ob⟩ x = .ps L n) (hi : St.ev ⟨tm, ob⟩ ix = .d (.v (.int k i))) (hb : 0 ≤ i ∧ i < n) :
    OpS1 E.P N ops ⟨some d, .indexAddr t x ix, ty, pos, after, gd⟩ tm (.lp L i.toNat) ob ob := fun tm' hag l Q k' =>
  WL.ixPs (S := ⟨tm', ob⟩) (by rw [want_agree hag]; exact hw) hd ht he hz (by rw [ev_agree hag (by simp [Op.operands])]; exact hx) (by rw [ev_agree hag (by simp [Op.operands])]; exact hi) hb k'
end
end Go.Proofs.YtmmjbpgdkokjgaaGreat
end

section
set_option linter.unusedVariables false
set_option linter.unusedSimpArgs false
set_option maxRecDepth 100000
namespace Go.Proofs.YtmmjbpgdkokjgaaGreat
open Go.RowKit

mutual
def Pt.ok : Pt → Prop
  | .mk n kids => n.val.length ≤ 1048576 ∧ kids.length ≤ 3 ∧ Pt.oks kids
def Pt.oks : List Pt → Prop
  | [] => True
  | p :: r => p.ok ∧ Pt.oks r
end
end Go.Proofs.YtmmjbpgdkokjgaaGreat
end
