/-
  The small logic, eighth part: slices written out, append, a call by its contract. Conditions: none.
-/
import Derived.Test.YteooogngdejdgaaPwG
set_option linter.unusedVariables false
set_option linter.unusedSimpArgs false
namespace Go.Proofs.Yteooogngdejdgaa
open Go.RowKit

/-! ### a slice written out -/

/-- A part as a row of data. -/
def rowOf (ob : List Ob) (t : T) : Option (List D) := match cellsT ob (norm ob t) with | some cs => allD cs | none => none

def rowsOf (S : St) : Nat → List (Nat × Operand) → Option (List (List D))
  | _, [] => some []
  | i, (j, x) :: r => bif Nat.beq i j then
      match rowOf S.ob (S.ev x), rowsOf S (i + 1) r with
      | some d, some ds => some (d :: ds)
      | _, _ => none
    else none

def oneD : D → Bool
  | .v x => x.oneCell'
  | .agg _ => false
  | _ => true
def onesD : List D → Bool
  | [] => true
  | d :: r => oneD d && onesD r

theorem RD.one {σ : Sto} {d : D} {u : Value} (h1 : oneD d = true) (h : RD σ d u) : u.oneCell' = true := by
  cases h with
  | v x => exact h1
  | nl z => rfl
  | nil z A => rfl
  | sl => rfl
  | agg => cases h1

def widths (z : Nat) : List (List D) → Bool
  | [] => true
  | r :: rs => Nat.beq r.length z && onesD r && widths z rs

section
variable {N : Nm} {S : St} {w0 : World} {σ0 : Bs} {ob : List Ob} {a : Act} {w : World} {g : Gh}

theorem onesT_map : ∀ (xs : List D), onesT (xs.map .d) = onesD xs
  | [] => rfl
  | .v x :: r => by simp [onesT, onesD, oneT, oneD, onesT_map r]
  | .nl _ :: r => by simp [onesT, onesD, oneT, oneD, onesT_map r]
  | .sl _ _ :: r => by simp [onesT, onesD, oneT, oneD, onesT_map r]
  | .agg _ :: r => by simp [onesT, onesD, oneT, oneD]
theorem cursT_map : ∀ (xs : List D), cursT ob (xs.map .d) = true
  | [] => rfl
  | _ :: r => by simp [cursT, curT, cursT_map r]

theorem Inv.row (I : Inv w0 σ0 ob w g) {t : T} {u : Value} {xs : List D} (h : rowOf ob t = some xs) (hr : RT g t u) (h1 : onesD xs = true) :
    xs.length = u.cells.toList.length ∧ (∀ (i : Nat) (x : D) (v : Value), xs[i]? = some x → u.cells.toList[i]? = some v → RD g.σ x v) ∧ ∀ v ∈ u.cells.toList, v.oneCell' = true := by
  unfold rowOf at h
  split at h
  · rename_i cs hcs
    have hx := allD_at h
    subst hx
    obtain ⟨c1, c2, c3⟩ := I.cells hcs (I.norm hr) (by rw [onesT_map]; exact h1) (cursT_map xs)
    exact ⟨by simpa using c1, fun i x v hx hv => (c2 i (.d x) v (by simp [hx]) hv).inv_d, c3⟩
  · cases h

/-- The cells of the rows, one behind the other. -/
theorem fill_rows {z len : Nat} : ∀ (vals : List (Nat × Value)) (i : Nat) (done rest : List Value), done.length = i * z → (∀ (j : Nat) (p : Nat × Value), vals[j]? = some p → p.1 = i + j ∧ p.2.cells.size = z) →
    rest.length = vals.length * z →
    Instr.fill (fun i => some (i * z, z)) (done ++ rest).toArray vals = some (done ++ vals.flatMap fun p => p.2.cells.toList).toArray
  | [], i, done, rest, hd, hv, hr => by
    have : rest = [] := List.eq_nil_of_length_eq_zero (by simpa using hr)
    subst this
    simp [Instr.fill]
  | (j, v) :: vals, i, done, rest, hd, hv, hr => by
    obtain ⟨h1, h2⟩ := hv 0 _ rfl
    simp only [Nat.add_zero] at h1 h2
    subst h1
    simp only [List.length_cons] at hr
    have hz : z ≤ rest.length := by rw [hr, Nat.add_mul]; omega
    have hcond : ¬ (v.cells.size ≠ z || decide (j * z + v.cells.size > (done ++ rest).toArray.size)) = true := by
      simp [h2, hd]; omega
    have hset : setAll (done ++ rest) (j * z) v.cells.toList = (done ++ v.cells.toList) ++ rest.drop z := by
      have hvl : v.cells.toList.length = z := by simpa using h2
      apply List.ext_getElem?
      intro k
      rw [setAll_at _ _ _ _ (by simp [hvl, hd]; omega)]
      by_cases hk : j * z ≤ k ∧ k < j * z + v.cells.toList.length
      · rw [if_pos hk, List.getElem?_append_left (by simp; omega), List.getElem?_append_right (by omega), hd]
      · rw [if_neg hk]
        by_cases hk2 : k < j * z
        · rw [List.getElem?_append_left (by omega), List.append_assoc, List.getElem?_append_left (by omega)]
        · rw [List.getElem?_append_right (by omega), List.getElem?_append_right (by simp; omega), List.getElem?_drop]
          congr 1
          simp; omega
    have ih := fill_rows (z := z) (len := len) vals (j + 1) (done ++ v.cells.toList) (rest.drop z) (by simp [hd, h2, Nat.add_mul]) (fun k p hp => by
      have := hv (k + 1) p (by simpa using hp)
      exact ⟨by omega, this.2⟩) (by simp [hr, Nat.add_mul])
    unfold Instr.fill
    simp only [hcond]
    rw [fold_cells, hset]
    simp only [List.flatMap_cons]
    rw [List.append_assoc] at ih
    simpa using ih

theorem rowsOf_at {S : St} : ∀ {parts : List (Nat × Operand)} {i : Nat} {rows : List (List D)}, rowsOf S i parts = some rows →
    rows.length = parts.length ∧ ∀ (j : Nat) (p : Nat × Operand) (r : List D), parts[j]? = some p → rows[j]? = some r → p.1 = i + j ∧ rowOf S.ob (S.ev p.2) = some r
  | [], i, rows, h => by
    simp only [rowsOf, Option.some.injEq] at h
    subst h
    exact ⟨rfl, fun j p r hp => by simp at hp⟩
  | (k, x) :: parts, i, rows, h => by
    simp only [rowsOf] at h
    by_cases e : i = k
    · subst e
      rw [show Nat.beq i i = true by simp, cond_true] at h
      split at h
      · rename_i d ds hd hds
        simp only [Option.some.injEq] at h
        subst h
        obtain ⟨h1, h2⟩ := rowsOf_at hds
        refine ⟨by simp [h1], fun j p r hp hr => ?_⟩
        cases j with
        | zero => simp at hp hr; subst hp; subst hr; exact ⟨rfl, hd⟩
        | succ j =>
          obtain ⟨h3, h4⟩ := h2 j p r (by simpa using hp) (by simpa using hr)
          exact ⟨by omega, h4⟩
      · cases h
    · rw [nbeq e] at h; cases h

theorem widths_at {z : Nat} : ∀ {rows : List (List D)}, widths z rows = true → ∀ r ∈ rows, r.length = z ∧ onesD r = true
  | [], _, r, hr => by cases hr
  | q :: rs, h, r, hr => by
    simp only [widths, Bool.and_eq_true] at h
    rcases List.mem_cons.1 hr with rfl | hr
    · exact ⟨Nat.eq_of_beq_eq_true h.1.1, h.1.2⟩
    · exact widths_at h.2 r hr

/-- Rows, one behind the other: cell j of row i lies at i * z + j. -/
theorem flat_at {α : Type} {z : Nat} : ∀ (L : List (List α)), (∀ r ∈ L, r.length = z) → ∀ (i j : Nat) (r : List α), L[i]? = some r → j < z → L.flatten[i * z + j]? = r[j]?
  | [], _, i, j, r, h, _ => by simp at h
  | q :: L, hz, i, j, r, h, hj => by
    have hq : q.length = z := hz q (List.mem_cons_self ..)
    cases i with
    | zero =>
      simp at h; subst h
      simp only [Nat.zero_mul, Nat.zero_add, List.flatten_cons]
      rw [List.getElem?_append_left (by omega)]
    | succ i =>
      simp only [List.flatten_cons]
      rw [List.getElem?_append_right (by rw [hq, Nat.add_mul]; omega)]
      have : (i + 1) * z + j - q.length = i * z + j := by rw [hq, Nat.add_mul]; omega
      rw [this]
      exact flat_at L (fun r hr => hz r (List.mem_cons_of_mem _ hr)) i j r (by simpa using h) hj

theorem flat_len {α : Type} {z : Nat} : ∀ (L : List (List α)), (∀ r ∈ L, r.length = z) → L.flatten.length = L.length * z
  | [], _ => by simp
  | q :: L, hz => by
    simp only [List.flatten_cons, List.length_append, List.length_cons, flat_len L (fun r hr => hz r (List.mem_cons_of_mem _ hr)), hz q (List.mem_cons_self ..), Nat.add_mul]
    omega

/-- A new slice. -/
theorem Inv.addGr (I : Inv w0 σ0 ob w g) (hm : σ0.m ≤ ob.length) {w' : World} (hb : Below w.heap.size w w') (z : Nat) (e : TypeId) (rows : List (List D)) (V : Value) (xs : List Value)
    (hown : w'.ownsRow w.heap.size e z V rows.length xs) (hz : ∀ r ∈ rows, r.length = z)
    (hr : ∀ (i j : Nat) (r : List D) (x : D), rows[i]? = some r → r[j]? = some x → ∃ u, xs[i * z + j]? = some u ∧ RD g.σ x u) (h1 : ∀ u ∈ xs, u.oneCell' = true) :
    ∃ g', g.le g' ∧ Inv w0 σ0 (ob ++ [.gr z e rows 0 false]) w' g' ∧ RT g' (.og ob.length 0) V := by
  have hown' : w'.ownsRow 0 e z V rows.length xs := by
    refine ⟨hown.1, ?_⟩
    rcases hown.2 with h | ⟨b, cap, cur, hv, hbb, rest⟩
    · exact .inl h
    · exact .inr ⟨b, cap, cur, hv, Nat.zero_le _, rest⟩
  obtain ⟨g', hle, hσ, hl1, hγ, I'⟩ := I.add hb (.gr z e rows 0 false) V hm (fun g' hle hσ hl1 hγ => by
    refine ⟨⟨hl1, xs, ⟨by rw [hγ]; exact hown', fun b hb => ?_⟩, hz, fun i j r x hri hx => ?_, h1, fun b hbk => ?_⟩, fun b hbk => ?_⟩
    · rw [hγ] at hb
      exact .inl (Nat.le_trans I.below.size (hown.lt b hb).1)
    · obtain ⟨u, hu, hd⟩ := hr i j r x hri hx
      exact ⟨u, hu, hσ ▸ hd⟩
    · simp only [Bool.false_eq_true, if_false]
      rw [hγ] at hbk
      rw [hσ]
      exact fun o => I.new_none (hown.lt b hbk).1 o
    · simp only [Gh.at, hγ] at hbk
      exact (hown.lt b hbk).1)
  refine ⟨g', hle, I', ?_⟩
  have := RT.og (g := g') ob.length 0 (by omega)
  rwa [hγ] at this
end

section
variable {E : Env} {N : Nm} {Q : Exit → St → Prop} {S : St} {ops l : List Oper} {ty : TypeId} {pos : String} {after : Array Edge} {gd : Option (Nat × Bool)} {d : Nat}

theorem WL.buildSlice {t e : TypeId} {len : Nat} {parts : List (Nat × Operand)} {z : Nat} {rows : List (List D)} (hw : S.want ops ⟨some d, .buildSlice t len parts.toArray, ty, pos, after, gd⟩ = some true) (hd : Nat.blt d N.n = true)
    (ht : (E.ty t).kind = .slice e) (he : (E.ty e).known = true) (hz : (E.ty e).size = z) (hz0 : Nat.blt 0 z = true) (hlen : Nat.beq len parts.length = true) (hmax : Nat.ble (len * z) 16777216 = true)
    (hrows : rowsOf S 0 parts = some rows) (hwd : widths z rows = true)
    (k : WL E.P N ops l Q ⟨(S.set d (.og S.ob.length 0)).tm, S.ob ++ [.gr z e rows 0 false]⟩) : WL E.P N ops (⟨some d, .buildSlice t len parts.toArray, ty, pos, after, gd⟩ :: l) Q S :=
  WL.eff (by simp) hw hd (fun w0 σ0 a w g R => by
    obtain ⟨inf, zz, hinf, hsz, _, hzv, hzs, hzc⟩ := E.info he
    have hlen' := Nat.eq_of_beq_eq_true hlen
    have hmax' := Nat.le_of_ble_eq_true hmax
    have hz0' : 0 < z := by simpa using hz0
    obtain ⟨hrl, hrp⟩ := rowsOf_at hrows
    have hwa := widths_at hwd
    let vals : List (Nat × Value) := parts.map fun p => (p.1, a.eval p.2)
    have hval : ∀ (j : Nat) (p : Nat × Value), vals[j]? = some p → p.1 = 0 + j ∧ p.2.cells.size = z := fun j p hp => by
      simp only [vals, List.getElem?_map, Option.map_eq_some_iff] at hp
      obtain ⟨q, hq, rfl⟩ := hp
      have hj : j < rows.length := by rw [hrl]; exact (List.getElem?_eq_some_iff.1 hq).1
      obtain ⟨h1, h2⟩ := hrp j q _ hq (List.getElem?_eq_getElem hj)
      obtain ⟨h3, h4⟩ := hwa _ (List.getElem_mem hj)
      obtain ⟨c1, _, _⟩ := R.inv.row h2 (R.ev q.2) h4
      exact ⟨h1, by show (a.eval q.2).cells.size = z; rw [← Array.length_toList]; omega⟩
    let L : List (List Value) := vals.map fun p => p.2.cells.toList
    have hL : ∀ r ∈ L, r.length = z := fun r hr => by
      obtain ⟨j, hj⟩ := List.getElem?_of_mem hr
      simp only [L, List.getElem?_map, Option.map_eq_some_iff] at hj
      obtain ⟨p, hp, rfl⟩ := hj
      simpa using (hval j p hp).2
    have hLl : L.length = rows.length := by simp [L, vals, hrl]
    have hfl : (vals.flatMap fun p => p.2.cells.toList) = L.flatten := by simp [L, List.flatMap]
    have hlt : vals.length = len := by simp [vals, hlen']
    let zc : Array Value := if len * z = 0 then #[] else zz.cells
    have hfill := fill_rows (z := z) (len := len) vals 0 [] (((Array.range (len * z)).map fun i => zc[i % zc.size]!).toList) (by simp) hval (by simp [hlt])
    simp only [List.nil_append, Array.toArray_toList] at hfill
    rw [hfl] at hfill
    have hrun : (Instr.buildSlice t len (parts.toArray.map fun (i, x) => (i, a.eval x))).run E.P w =
        .ok (.slice (some ⟨w.heap.size, 0, none⟩) len len) (w.alloc (.cells L.flatten.toArray e)) := by
      have e1 : (parts.toArray.map fun (x : Nat × Operand) => (x.1, a.eval x.2)).toList = vals := by simp [vals]
      have hnot : ¬ len * z > 2 ^ 24 := by omega
      unfold Instr.buildSlice
      simp only [Sem.run_bind, run_underlying (E.slice ht), Result.andThen_ok, sizeOf, typeInfo, run_program, hinf, Sem.run_pure, hsz, hz]
      rw [if_neg hnot]
      simp only [Sem.run_bind, Result.andThen_ok, Sem.run_pure, pure_bind]
      by_cases h0 : len * z = 0
      · simp only [h0, if_true, Sem.run_pure, Result.andThen_ok]
        have hzc0 : zc = #[] := by simp [zc, h0]
        rw [hzc0, h0] at hfill
        rw [e1]
        simp only [hfill]
        simp [newRow]
      · simp only [h0, if_false, zeroValue, typeInfo, Sem.run_bind, run_program, hinf, Result.andThen_ok, Sem.run_pure, hzv]
        have hzc0 : zc = zz.cells := by simp [zc, h0]
        rw [hzc0] at hfill
        rw [e1]
        simp only [hfill]
        simp [newRow]
    have hrowlen : rows.length = len := by omega
    have hown : (w.alloc (.cells L.flatten.toArray e)).ownsRow w.heap.size e z (.slice (some ⟨w.heap.size, 0, none⟩) len len) len L.flatten := by simpa using World.ownsRow_lit (base := w.heap.size) (e := e) (size := z) w L.flatten.toArray len (Nat.le_refl _) (by unfold maxLen; have : len ≤ len * z := Nat.le_mul_of_pos_right _ hz0'; omega) (by simp [← List.length_flatten, flat_len L hL, hLl, hrowlen])
    obtain ⟨g', hle, I', ht'⟩ := R.inv.addGr (by rw [R.hm]; exact R.hl) (below_alloc w _) z e rows (.slice (some ⟨w.heap.size, 0, none⟩) len len) L.flatten (by rw [hrowlen]; exact hown) (fun r hr => (hwa r hr).1)
      (fun i j r x hr hx => by
        have hi : i < parts.length := by rw [← hrl]; exact (List.getElem?_eq_some_iff.1 hr).1
        obtain ⟨h1, h2⟩ := hrp i parts[i] r (List.getElem?_eq_getElem hi) hr
        obtain ⟨h3, h4⟩ := hwa r (List.mem_of_getElem? hr)
        obtain ⟨c1, c2, c3⟩ := R.inv.row h2 (R.ev parts[i].2) h4
        have hj : j < r.length := (List.getElem?_eq_some_iff.1 hx).1
        have hLi : L[i]? = some (a.eval parts[i].2).cells.toList := by simp [L, vals, hi]
        have hju : j < (a.eval parts[i].2).cells.toList.length := by omega
        exact ⟨_, by rw [flat_at L hL i j _ hLi (by omega)]; exact List.getElem?_eq_getElem hju, c2 j x _ hx (List.getElem?_eq_getElem hju)⟩)
      (fun u hu => by
        obtain ⟨r, hr, hur⟩ := List.mem_flatten.1 hu
        obtain ⟨i, hi⟩ := List.getElem?_of_mem hr
        simp only [L, vals, List.getElem?_map, Option.map_eq_some_iff] at hi
        obtain ⟨p, ⟨q, hq, rfl⟩, rfl⟩ := hi
        have hir : i < rows.length := by rw [hrl]; exact (List.getElem?_eq_some_iff.1 hq).1
        obtain ⟨h1, h2⟩ := hrp i q _ hq (List.getElem?_eq_getElem hir)
        obtain ⟨h3, h4⟩ := hwa _ (List.getElem_mem hir)
        exact (R.inv.row h2 (R.ev q.2) h4).2.2 u hur)
    exact ⟨_, _, g', by simp only [execOp, Sem.run_bind, hrun, Result.andThen_ok, Sem.run_pure], hle, I', ht'⟩) k
end

/-! ### append -/

section
variable {N : Nm} {S : St} {w0 : World} {σ0 : Bs} {ob : List Ob} {a : Act} {w : World} {g : Gh}

def nilT : T → Bool
  | .d (.v (.slice none 0 0)) => true
  | .d (.nl _) => true
  | _ => false

theorem RT.nil {t : T} {u : Value} (h : nilT t = true) (hr : RT g t u) : u = .slice none 0 0 := by
  unfold nilT at h
  split at h
  · exact hr.inv_v
  · exact hr.inv_d.inv_nl
  · cases h

/-- What is appended: its rows. -/
def srcRows (ob : List Ob) : T → Option (Nat × List (List D))
  | .d (.sl z rows) => some (z, rows)
  | .d (.nl z) => some (z, [])
  | .og k n => match ob[k]? with
    | some (.gr z _ rows m _) => bif Nat.beq m n then some (z, rows) else none
    | _ => none
  | _ => none

theorem Inv.src (I : Inv w0 σ0 ob w g) {t : T} {u : Value} {z : Nat} {rows : List (List D)} (h : srcRows ob t = some (z, rows)) (hr : RT g t u) (hz0 : 0 < z) :
    ∃ (A : Option Addr) (c : Nat) (news : List Value), u = .slice A rows.length c ∧ (A = none → rows = [] ∧ c = 0) ∧ news.length = rows.length * z ∧ (∀ ad, A = some ad → ∀ (j : Nat) (x : Value), news[j]? = some x → w.cell? (ad.add j) = some x) ∧
      (∀ x ∈ news, x.oneCell' = true) ∧ (∀ r ∈ rows, r.length = z) ∧ ∀ (i j : Nat) (r : List D) (x : D), rows[i]? = some r → r[j]? = some x → ∃ y, news[i * z + j]? = some y ∧ RD g.σ x y := by
  unfold srcRows at h
  split at h
  · simp only [Option.some.injEq, Prod.mk.injEq] at h
    obtain ⟨h1, h2⟩ := h
    have h1 := h1.symm
    have h2 := h2.symm
    subst h1 h2
    cases hr.inv_d with
    | nil _ A => exact ⟨A, 0, [], rfl, fun _ => ⟨rfl, rfl⟩, by simp, fun ad _ j x hx => by simp at hx, fun x hx => by (cases hx), fun r hr => by (cases hr), fun i j r x hr => by simp at hr⟩
    | sl z rows b off cap U hcap hm hzr hc hrr =>
      refine ⟨some ⟨b, off, none⟩, cap, (List.range (rows.length * z)).map fun q => U (q / z) (q % z), rfl, fun h => (by cases h), by simp, fun ad had j x hx => ?_, fun x hx => ?_, hzr, fun i j r x hri hx => ?_⟩
      · cases had
        simp only [List.getElem?_map, Option.map_eq_some_iff] at hx
        obtain ⟨j', hj', rfl⟩ := hx
        obtain ⟨hlt, rfl⟩ := List.getElem?_eq_some_iff.1 hj'
        simp only [List.length_range] at hlt
        rw [List.getElem_range, Addr.add_lit]
        have h1 : j / z < rows.length := Nat.div_lt_of_lt_mul (by rw [Nat.mul_comm]; exact hlt)
        have h2 : j % z < z := Nat.mod_lt _ hz0
        have := I.con _ _ _ (hc (j / z) (j % z) h1 h2).1
        rw [show off + j = off + j / z * z + j % z by rw [Nat.add_assoc, Nat.div_add_mod' j z]]
        exact this
      · simp only [List.mem_map, List.mem_range] at hx
        obtain ⟨j, hlt, rfl⟩ := hx
        have h1 : j / z < rows.length := Nat.div_lt_of_lt_mul (by rw [Nat.mul_comm]; exact hlt)
        exact (hc (j / z) (j % z) h1 (Nat.mod_lt _ hz0)).2
      · have hi : i < rows.length := (List.getElem?_eq_some_iff.1 hri).1
        have hj : j < z := by rw [← hzr r (List.mem_of_getElem? hri)]; exact (List.getElem?_eq_some_iff.1 hx).1
        have hlt : i * z + j < rows.length * z := by
          calc i * z + j < i * z + z := by omega
            _ = (i + 1) * z := by rw [Nat.add_mul]; omega
            _ ≤ rows.length * z := Nat.mul_le_mul_right _ hi
        have e1 : (i * z + j) / z = i := by rw [Nat.add_comm, Nat.add_mul_div_right _ _ hz0, Nat.div_eq_of_lt hj, Nat.zero_add]
        have e2 : (i * z + j) % z = j := by rw [Nat.add_comm, Nat.add_mul_mod_self_right, Nat.mod_eq_of_lt hj]
        refine ⟨U i j, ?_, hrr i j r x hri hx⟩
        simp [hlt, e1, e2]
  · simp only [Option.some.injEq, Prod.mk.injEq] at h
    obtain ⟨rfl, rfl⟩ := h
    have := hr.inv_d.inv_nl
    subst this
    exact ⟨none, 0, [], rfl, fun _ => ⟨rfl, rfl⟩, by simp, fun ad h => (by cases h), fun x hx => by (cases hx), fun r hr => by (cases hr), fun i j r x hr => by simp at hr⟩
  · rename_i k n
    split at h
    · rename_i z' e rows' m pub hk
      by_cases hm : m = n
      · subst hm
        rw [show Nat.beq m m = true by simp, cond_true] at h
        simp only [Option.some.injEq, Prod.mk.injEq] at h
        obtain ⟨rfl, rfl⟩ := h
        obtain ⟨_, hu⟩ := hr.inv_og
        obtain ⟨_, xs, ⟨hown, _⟩, hzr, hrr, h1, _⟩ := I.obs k _ hk
        rcases hown.2 with ⟨hv, hn⟩ | ⟨b, cap, cur, hv, _⟩
        · have hn' : rows' = [] := List.eq_nil_of_length_eq_zero hn
          subst hn'
          exact ⟨none, 0, [], by rw [hu, hv]; rfl, fun _ => ⟨rfl, rfl⟩, by simp, fun ad h => (by cases h), fun x hx => by (cases hx), fun r hr => by (cases hr), fun i j r x hr => by simp at hr⟩
        · refine ⟨some ⟨b, 0, none⟩, cap, xs, by rw [hu, hv], fun h => (by cases h), hown.1, fun ad had j x hx => ?_, h1, hzr, hrr⟩
          cases had
          exact hown.cells (by rw [hv]; rfl) j x hx
      · rw [nbeq hm] at h; cases h
    · cases h
  · cases h

/-- append to what the call has made: the object goes on. -/
theorem Inv.grow (I : Inv w0 σ0 ob w g) {w' : World} {k z n : Nat} {e : TypeId} {rows rows' : List (List D)} {xs news : List Value} {V : Value} (hk : ob[k]? = some (.gr z e rows n false))
    (hxs : w.ownsRow 0 e z (g.γ k n) rows.length xs) (hxz : ∀ r ∈ rows, r.length = z) (hxr : ∀ (i j : Nat) (r : List D) (x : D), rows[i]? = some r → r[j]? = some x → ∃ u, xs[i * z + j]? = some u ∧ RD g.σ x u) (hx1 : ∀ u ∈ xs, u.oneCell' = true)
    (hz' : ∀ r ∈ rows', r.length = z) (hr' : ∀ (i j : Nat) (r : List D) (x : D), rows'[i]? = some r → r[j]? = some x → ∃ u, news[i * z + j]? = some u ∧ RD g.σ x u) (h1' : ∀ u ∈ news, u.oneCell' = true)
    (hown : w'.ownsRow 0 e z V (rows.length + rows'.length) (xs ++ news)) (hgrow : w.grownBy w' (g.γ k n).ownBlock) (hat : V.ownBlock = (g.γ k n).ownBlock ∨ V.ownBlock = some w.heap.size) :
    ∃ g', g.le g' ∧ Inv w0 σ0 (ob.set k (.gr z e (rows ++ rows') (n + 1) false)) w' g' ∧ RT g' (.og k (n + 1)) V := by
  have hlt : k < ob.length := (List.getElem?_eq_some_iff.1 hk).1
  obtain ⟨hlim, _, ⟨_, hmine⟩, _, _, _, hσk⟩ := I.obs k _ hk
  let g' : Gh := { σ := g.σ, γ := fun j m => if j = k ∧ m = n + 1 then V else g.γ j m, lim := fun j => if j = k then n + 2 else g.lim j, foot := g.foot }
  have hle : g.le g' := ⟨fun _ _ _ h => h, fun j m hm => by
    by_cases hj : j = k
    · subst hj
      have : ¬ m = n + 1 := by omega
      simp [g', this]; omega
    · simp [g', hj, hm]⟩
  have hγ : g'.γ k (n + 1) = V := by simp [g']
  have hVb : ∀ b, V.ownBlock = some b → (g.γ k n).ownBlock = some b ∨ b = w.heap.size := fun b hb => by
    rcases hat with h | h
    · exact .inl (h ▸ hb)
    · rw [h] at hb; cases hb; exact .inr rfl
  have hσV : ∀ b, V.ownBlock = some b → ∀ o, g.σ b o = none := fun b hb o => by
    rcases hVb b hb with h | h
    · have := hσk b h; simp only [Bool.false_eq_true, if_false] at this; exact this o
    · exact I.new_none (by omega) o
  refine ⟨g', hle, I.turn hk (fun _ _ _ _ h => by cases h) (by omega) hle rfl (fun j hj => ⟨by simp [g', hj], rfl⟩) hgrow.os hgrow.tape hgrow.output hgrow.size (fun b hb hn => hgrow.block b hb (fun e => hn e.symm)) ?_ ?_, ?_⟩
  · refine ⟨by simp [g'], xs ++ news, ⟨by rw [hγ, List.length_append]; exact hown, fun b hb => ?_⟩, fun r hr => ?_, fun i j r x hr hx => ?_, fun u hu => ?_, fun b hb => ?_⟩
    · rw [hγ] at hb
      rcases hVb b hb with h | h
      · exact hmine b h
      · exact .inl (by have := I.below.size; omega)
    · rcases List.mem_append.1 hr with h | h
      · exact hxz r h
      · exact hz' r h
    · have hxl : xs.length = rows.length * z := hxs.1
      by_cases hi : i < rows.length
      · rw [List.getElem?_append_left hi] at hr
        obtain ⟨u, hu, hd⟩ := hxr i j r x hr hx
        have hlt' : i * z + j < xs.length := (List.getElem?_eq_some_iff.1 hu).1
        exact ⟨u, by rw [List.getElem?_append_left hlt']; exact hu, hd⟩
      · rw [List.getElem?_append_right (by omega)] at hr
        obtain ⟨u, hu, hd⟩ := hr' (i - rows.length) j r x hr hx
        have e2 : i * z = rows.length * z + (i - rows.length) * z := by rw [← Nat.add_mul]; congr 1; omega
        exact ⟨u, by rw [List.getElem?_append_right (by omega), show i * z + j - xs.length = (i - rows.length) * z + j by omega]; exact hu, hd⟩
    · rcases List.mem_append.1 hu with h | h
      · exact hx1 u h
      · exact h1' u h
    · simp only [Bool.false_eq_true, if_false]
      rw [hγ] at hb
      exact hσV b hb
  · intro b hb
    simp only [Gh.at, hγ] at hb
    rcases hVb b hb with h | h
    · exact .inl h
    · exact .inr (by omega)
  · have := RT.og (g := g') k (n + 1) (by simp [g'])
    rwa [hγ] at this
end

section
variable {E : Env} {N : Nm} {Q : Exit → St → Prop} {S : St} {ops l : List Oper} {ty : TypeId} {pos : String} {after : Array Edge} {gd : Option (Nat × Bool)} {d : Nat}

theorem run_append_slice {P : Program} {w : World} (base : Nat) (t ty e : TypeId) (i : TypeInfo) (zv : Value) (size bytes : Nat) (ht : P.underlying t = some (.slice e)) (hi : P.info? e = some i) (hz : i.zero = some zv)
    (hsize : i.size = size) (hby : i.bytes = bytes) (hzs : zv.cells.size = size) (hsz : 0 < size) (v : Value) (n : Nat) (xs : List Value) (hown : w.ownsRow base e size v n xs)
    (A : Option Addr) (m c : Nat) (news : List Value) (hA : A = none → m = 0 ∧ c = 0) (hl : news.length = m * size) (hnews : ∀ ad, A = some ad → ∀ (j : Nat) (u : Value), news[j]? = some u → w.cell? (ad.add j) = some u) (h1 : ∀ u ∈ news, u.oneCell' = true)
    (h63 : n + m ≤ maxLen) (hbytes : (n + m) * bytes ≤ 140737488355328) (hbase : base ≤ w.heap.size) :
    ∃ v' w', (Builtin.append_ #[t, t] ty #[v, .slice A m c]).run P w = .ok v' w' ∧ w'.ownsRow base e size v' (n + m) (xs ++ news) ∧ w.grownBy w' v.ownBlock ∧ (v'.ownBlock = v.ownBlock ∨ v'.ownBlock = some w.heap.size) := by
  cases A with
  | none =>
    obtain ⟨rfl, rfl⟩ := hA rfl
    have : news = [] := List.eq_nil_of_length_eq_zero (by simpa using hl)
    subst this
    exact ⟨v, w, run_append_owned_none w base t ty e i size ht hi v n xs hown, by simpa using hown, ⟨rfl, rfl, rfl, Nat.le_refl _, fun _ _ _ => rfl⟩, .inl rfl⟩
  | some ad =>
    obtain ⟨v', w', hr, h2, h3, _, h5⟩ := run_append_own_at (P := P) w base t ty e i zv size bytes ht hi hz hsize hby hzs hsz v n xs hown ad m c news hl (hnews ad rfl) h1 h63 hbytes hbase
    exact ⟨v', w', hr, h2, h3, h5⟩

theorem room_of {n m bytes : Nat} (hb : 1 ≤ bytes) (h : (n + m) * bytes ≤ 140737488355328) : n + m ≤ maxLen := by
  have : n + m ≤ (n + m) * bytes := Nat.le_mul_of_pos_right _ hb
  unfold maxLen; omega

/-- append to nil. -/
theorem WL.appendNil {t e : TypeId} {s x : Operand} {z : Nat} {rows : List (List D)} (hw : S.want ops ⟨some d, .call ⟨.builtin .append, #[s, x], #[t, t]⟩, ty, pos, after, gd⟩ = some true) (hd : Nat.blt d N.n = true)
    (ht : (E.ty t).kind = .slice e) (he : (E.ty e).known = true) (hz : (E.ty e).size = z) (hz0 : Nat.blt 0 z = true) (hby : Nat.ble 1 (E.ty e).bytes = true) (hs : nilT (S.ev s) = true) (hx : srcRows S.ob (S.ev x) = some (z, rows))
    (hroom : (0 + rows.length) * (E.ty e).bytes ≤ 140737488355328)
    (k : WL E.P N ops l Q ⟨(S.set d (.og S.ob.length 0)).tm, S.ob ++ [.gr z e rows 0 false]⟩) : WL E.P N ops (⟨some d, .call ⟨.builtin .append, #[s, x], #[t, t]⟩, ty, pos, after, gd⟩ :: l) Q S :=
  WL.eff (by simp) hw hd (fun w0 σ0 a w g R => by
    obtain ⟨inf, zz, hinf, hsz, hbs, hzv, hzs, hzc⟩ := E.info he
    have hz0' : 0 < z := by simpa using hz0
    have hsv := (R.ev s).nil hs
    obtain ⟨A, c, news, hxv, hA, hnl, hcell, hn1, hnz, hnr⟩ := R.inv.src hx (R.ev x) hz0'
    obtain ⟨v', w', hrun, hown, hgrow, _⟩ := run_append_slice (P := E.P) (w := w) w.heap.size t ty e inf zz z (E.ty e).bytes (E.slice ht) hinf hzv (hsz.trans hz) hbs (hzc.trans hz) hz0' (.slice none 0 0) 0 [] (World.ownsRow_nil w _ _ _)
      A rows.length c news (fun h => by obtain ⟨h1, h2⟩ := hA h; simp [h1, h2]) hnl hcell hn1 (room_of (Nat.le_of_ble_eq_true hby) hroom) hroom (Nat.le_refl _)
    have hb : Below w.heap.size w w' := ⟨hgrow.os, hgrow.tape, hgrow.output, hgrow.size, fun b hb => hgrow.block b hb (by simp [Value.ownBlock])⟩
    obtain ⟨g', hle, I', ht'⟩ := R.inv.addGr (by rw [R.hm]; exact R.hl) hb z e rows v' news (by simpa using hown) hnz hnr hn1
    exact ⟨v', w', g', by simp [execOp, resolve, invoke, builtin, hsv, hxv, hrun], hle, I', ht'⟩) k

/-- append to a slice of the call's own. -/
theorem WL.append {t e e' : TypeId} {s x : Operand} {z j n : Nat} {rows rows' : List (List D)} (hw : S.want ops ⟨some d, .call ⟨.builtin .append, #[s, x], #[t, t]⟩, ty, pos, after, gd⟩ = some true) (hd : Nat.blt d N.n = true)
    (ht : (E.ty t).kind = .slice e) (he : (E.ty e).known = true) (hz : (E.ty e).size = z) (hz0 : Nat.blt 0 z = true) (hby : Nat.ble 1 (E.ty e).bytes = true) (hs : S.ev s = .og j n) (hj : S.ob[j]? = some (.gr z e' rows n false)) (hee : Nat.beq e e' = true)
    (hx : srcRows S.ob (S.ev x) = some (z, rows')) (hroom : (rows.length + rows'.length) * (E.ty e).bytes ≤ 140737488355328)
    (k : WL E.P N ops l Q ⟨(S.set d (.og j (n + 1))).tm, S.ob.set j (.gr z e' (rows ++ rows') (n + 1) false)⟩) : WL E.P N ops (⟨some d, .call ⟨.builtin .append, #[s, x], #[t, t]⟩, ty, pos, after, gd⟩ :: l) Q S :=
  WL.eff (by simp) hw hd (fun w0 σ0 a w g R => by
    have hee' : e = e' := Nat.eq_of_beq_eq_true hee
    subst hee'
    obtain ⟨inf, zz, hinf, hsz, hbs, hzv, hzs, hzc⟩ := E.info he
    have hz0' : 0 < z := by simpa using hz0
    have hsr := R.ev s
    rw [hs] at hsr
    obtain ⟨_, hsv⟩ := hsr.inv_og
    obtain ⟨hlim, xs, ⟨hxs, _⟩, hxz, hxr, hx1, _⟩ := R.inv.obs j _ hj
    obtain ⟨A, c, news, hxv, hA, hnl, hcell, hn1, hnz, hnr⟩ := R.inv.src hx (R.ev x) hz0'
    obtain ⟨v', w', hrun, hown, hgrow, hat⟩ := run_append_slice (P := E.P) (w := w) 0 t ty e inf zz z (E.ty e).bytes (E.slice ht) hinf hzv (hsz.trans hz) hbs (hzc.trans hz) hz0' (g.γ j n) rows.length xs hxs
      A rows'.length c news (fun h => by obtain ⟨h1, h2⟩ := hA h; simp [h1, h2]) hnl hcell hn1 (room_of (Nat.le_of_ble_eq_true hby) hroom) hroom (Nat.zero_le _)
    obtain ⟨g', hle, I', ht'⟩ := R.inv.grow hj hxs hxz hxr hx1 hnz hnr hn1 hown hgrow hat
    exact ⟨v', w', g', by simp [execOp, resolve, invoke, builtin, hsv, hxv, hrun], hle, I', ht'⟩) k
end

end Go.Proofs.Yteooogngdejdgaa
