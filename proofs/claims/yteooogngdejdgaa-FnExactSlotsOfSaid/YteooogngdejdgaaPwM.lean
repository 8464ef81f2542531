/-
  The small logic, thirteenth part: from what the arguments read as to data, and the last step of a statement. Conditions: none.
-/
import Derived.Test.YteooogngdejdgaaPwL
import Derived.ProofKit
import Derived.OpenShut
import Derived.Below
import Derived.ChangeSame
import Derived.ChangeAgain
import Derived.WideKeyArgs
import Derived.Deep.Slices
import Derived.Deep.Fields
set_option linter.unusedVariables false
set_option linter.unusedSimpArgs false
namespace Go.Proofs.Yteooogngdejdgaa
open Go.RowKit Go.ChangeShapes Go.WideShapes Go.Deep

/-- Types of plain data: integers, bools, texts, slices and structs of such. -/
def tilesL (P : Program) : List Field → Nat → Nat → Bool
  | [], o, n => decide (o = n)
  | f :: r, o, n => decide (f.offset = o) && tilesL P r (o + P.cellsOf f.type) n

def plainTy (P : Program) : Nat → TypeId → Bool
  | 0, _ => false
  | n + 1, t => match P.underlying t with
    | some .bool | some (.int _) | some .string => true
    | some (.slice e) => decide (0 < P.cellsOf e) && plainTy P n e
    | some (.struct fs) => tilesL P fs.toList 0 (P.cellsOf t) && fs.toList.all fun f => plainTy P n f.type
    | _ => false

/-- Cells of such a type, as data. -/
def wfD (P : Program) : Nat → TypeId → List D → Prop
  | 0, _, _ => False
  | n + 1, t, ds => match P.underlying t with
    | some .bool => ∃ b, ds = [.v (.bool b)]
    | some (.int k) => ∃ i, ds = [.v (.int k i)] ∧ (Lit.int k i).wf = true
    | some .string => ∃ s : ByteArray, ds = [.v (.string s)] ∧ s.size ≤ maxLen
    | some (.slice e) => ∃ rows, ds = [.sl (P.cellsOf e) rows] ∧ rows.length ≤ maxLen ∧ ∀ r ∈ rows, r.length = P.cellsOf e ∧ wfD P n e r
    | some (.struct fs) => ds.length = P.cellsOf t ∧ ∀ f ∈ fs.toList, wfD P n f.type ((ds.drop f.offset).take (P.cellsOf f.type))
    | _ => False

section
variable {H : Type} {enc : TypeId × Value → H} {P : Program} {w : World}

def memOf (w : World) : Sto := fun b o => w.cell? ⟨b, o, none⟩

def RDs (σ : Sto) (ds : List D) (cs : List Value) : Prop :=
  ds.length = cs.length ∧ (∀ (i : Nat) (d : D) (u : Value), ds[i]? = some d → cs[i]? = some u → RD σ d u) ∧ ∀ u ∈ cs, u.oneCell' = true

theorem RDs.one {σ : Sto} {d : D} {u : Value} (h : RD σ d u) (h1 : u.oneCell' = true) : RDs σ [d] [u] :=
  ⟨rfl, fun i x v hx hv => by
    cases i with
    | zero => simp at hx hv; subst hx; subst hv; exact h
    | succ i => simp at hx, fun v hv => by simp at hv; subst hv; exact h1⟩

theorem RDs.app {σ : Sto} {d1 d2 : List D} {c1 c2 : List Value} (h1 : RDs σ d1 c1) (h2 : RDs σ d2 c2) : RDs σ (d1 ++ d2) (c1 ++ c2) := by
  obtain ⟨l1, r1, o1⟩ := h1
  obtain ⟨l2, r2, o2⟩ := h2
  refine ⟨by simp [l1, l2], fun i d u hd hu => ?_, fun u hu => ?_⟩
  · by_cases hi : i < d1.length
    · rw [List.getElem?_append_left hi] at hd
      rw [List.getElem?_append_left (by omega)] at hu
      exact r1 i d u hd hu
    · rw [List.getElem?_append_right (by omega)] at hd
      rw [List.getElem?_append_right (by omega), ← l1] at hu
      exact r2 _ d u hd hu
  · rcases List.mem_append.1 hu with h | h
    · exact o1 u h
    · exact o2 u h

theorem fields_rd {n : Nat} {cs : List Value} {N : Nat} (hcs : cs.length = N)
    (ih : ∀ (t : TypeId) (cs : List Value) (x : DataW H × List MemPlace), DataW.trod enc P w 0 (fun _ => true) true n t cs = some x → plainTy P n t = true → ∃ ds, RDs (memOf w) ds cs ∧ wfD P n t ds) :
    ∀ (fl : List Field) (o : Nat), o ≤ N → tilesL P fl o N = true → (∀ f ∈ fl, plainTy P n f.type = true ∧ ∃ x, DataW.trod enc P w 0 (fun _ => true) true n f.type ((cs.drop f.offset).take (P.cellsOf f.type)) = some x ∧ ((cs.drop f.offset).take (P.cellsOf f.type)).length = P.cellsOf f.type) →
      ∃ ds, RDs (memOf w) ds (cs.drop o) ∧ ∀ f ∈ fl, o ≤ f.offset ∧ wfD P n f.type ((ds.drop (f.offset - o)).take (P.cellsOf f.type))
  | [], o, _, ht, _ => by
    simp only [tilesL, decide_eq_true_eq] at ht
    refine ⟨[], ?_, fun f hf => by cases hf⟩
    rw [List.drop_eq_nil_of_le (by omega)]
    exact ⟨rfl, fun i d u hd => by simp at hd, fun u hu => by cases hu⟩
  | f :: r, o, ho, ht, hf => by
    simp only [tilesL, Bool.and_eq_true, decide_eq_true_eq] at ht
    obtain ⟨e, ht⟩ := ht
    obtain ⟨hp, x, hx, hlen⟩ := hf f (List.mem_cons_self ..)
    have hle : o + P.cellsOf f.type ≤ N := by
      have : ((cs.drop f.offset).take (P.cellsOf f.type)).length ≤ (cs.drop f.offset).length := List.length_take_le' _ _
      simp only [List.length_drop] at this
      omega
    obtain ⟨d1, h1, w1⟩ := ih _ _ _ hx hp
    obtain ⟨d2, h2, w2⟩ := fields_rd hcs ih r (o + P.cellsOf f.type) hle ht fun g hg => hf g (List.mem_cons_of_mem _ hg)
    subst e
    have hl1 : d1.length = P.cellsOf f.type := h1.1.trans hlen
    refine ⟨d1 ++ d2, ?_, fun g hg => ?_⟩
    · have := h1.app h2
      rwa [← List.drop_drop, List.take_append_drop] at this
    · rcases List.mem_cons.1 hg with rfl | hg
      · refine ⟨Nat.le_refl _, ?_⟩
        rw [Nat.sub_self, List.drop_zero, List.take_append_of_le_length (by omega), List.take_of_length_le (by omega)]
        exact w1
      · obtain ⟨ha, hb⟩ := w2 g hg
        refine ⟨by omega, ?_⟩
        rw [List.drop_append, List.drop_eq_nil_of_le (by omega), List.nil_append, hl1]
        rw [show g.offset - f.offset - P.cellsOf f.type = g.offset - (f.offset + P.cellsOf f.type) by omega]
        exact hb

theorem choose_rows {n z : Nat} {e : TypeId} {b off : Nat} : ∀ (m : Nat) (cs : Nat → List Value), (∀ i, i < m → ∃ ds, RDs (memOf w) ds (cs i) ∧ wfD P n e ds) →
    ∃ rows : List (List D), rows.length = m ∧ ∀ i r, rows[i]? = some r → RDs (memOf w) r (cs i) ∧ wfD P n e r
  | 0, cs, _ => ⟨[], rfl, fun i r h => by simp at h⟩
  | m + 1, cs, h => by
    obtain ⟨rows, hl, hr⟩ := choose_rows (z := z) (b := b) (off := off) m cs fun i hi => h i (by omega)
    obtain ⟨d, hd⟩ := h m (by omega)
    refine ⟨rows ++ [d], by simp [hl], fun i r hi => ?_⟩
    by_cases hlt : i < rows.length
    · rw [List.getElem?_append_left hlt] at hi; exact hr i r hi
    · rw [List.getElem?_append_right (by omega)] at hi
      obtain ⟨hz, rfl⟩ := List.getElem?_eq_some_iff.1 hi
      simp only [List.length_singleton] at hz
      have : i = m := by omega
      subst this
      simpa using hd

theorem rd_of_trod : ∀ (n : Nat) (t : TypeId) (cs : List Value) (x : DataW H × List MemPlace), DataW.trod enc P w 0 (fun _ => true) true n t cs = some x → plainTy P n t = true →
    ∃ ds, RDs (memOf w) ds cs ∧ wfD P n t ds
  | 0, t, cs, x, h, _ => by simp [DataW.trod] at h
  | n + 1, t, cs, x, h, hp => by
    unfold plainTy at hp
    unfold wfD
    split at hp
    · rename_i hu
      obtain ⟨b, rfl, _⟩ := DataW.trod_bool hu h
      exact ⟨_, RDs.one (.v _) rfl, b, rfl⟩
    · rename_i k hu
      obtain ⟨i, rfl, _, hw⟩ := DataW.trod_int hu h
      exact ⟨_, RDs.one (.v _) rfl, i, rfl, hw⟩
    · rename_i hu
      obtain ⟨s, rfl, _, hs⟩ := DataW.trod_string hu h
      exact ⟨_, RDs.one (.v _) rfl, s, rfl, hs⟩
    · rename_i e hu
      simp only [Bool.and_eq_true, decide_eq_true_eq] at hp
      obtain ⟨hz, hp⟩ := hp
      rcases DataW.trod_slice hu h with ⟨rfl, _⟩ | ⟨a, len, cap, elems, rest, n', hn, rfl, _, hb, hl, hm, hlen, hel, hsp, _⟩
      · exact ⟨[.sl (P.cellsOf e) []], RDs.one (.nil _ _) rfl, [], rfl, by simp [maxLen], fun r hr => by cases hr⟩
      · obtain rfl : n' = n := by omega
        have hcell : ∀ i, i < cap → ∃ cs', w.cells? 0 (a.add (i * P.cellsOf e)) (P.cellsOf e) = some cs' ∧ ∃ x, DataW.trod enc P w 0 (fun _ => true) true n' e cs' = some x := fun i hi => by
          by_cases hil : i < len
          · have := hel i hil
            obtain ⟨y, hy⟩ : ∃ y, elems[i]? = some y := ⟨_, List.getElem?_eq_getElem (by omega)⟩
            rw [hy] at this
            obtain ⟨cs', h1, h2⟩ := Option.bind_eq_some_iff.1 this
            exact ⟨cs', h1, _, h2⟩
          · obtain ⟨hrl, hr⟩ := hsp rfl
            have := hr (i - len) (by omega)
            rw [show len + (i - len) = i by omega] at this
            obtain ⟨y, hy⟩ : ∃ y, rest[i - len]? = some y := ⟨_, List.getElem?_eq_getElem (by omega)⟩
            rw [hy] at this
            obtain ⟨cs', h1, h2⟩ := Option.bind_eq_some_iff.1 this
            exact ⟨cs', h1, _, h2⟩
        by_cases hc0 : cap = 0
        · have : len = 0 := by omega
          subst this; subst hc0
          exact ⟨[.sl (P.cellsOf e) []], RDs.one (.nil _ _) rfl, [], rfl, by simp [maxLen], fun r hr => by cases hr⟩
        · have hspot : a.spot = none := by
            obtain ⟨cs', h1, _⟩ := hcell 0 (by omega)
            have := (World.cells?_some h1).2.2 0 hz
            have hlt : 0 < cs'.length := by rw [(World.cells?_some h1).2.1]; exact hz
            rw [List.getElem?_eq_getElem hlt] at this
            have e0 : (a.add (0 * P.cellsOf e)).add 0 = a := by simp [Addr.add]
            rw [e0] at this
            unfold World.cell? at this
            split at this
            · cases hs : a.spot with
              | none => rfl
              | some q => rw [hs] at this; simp at this
            · cases this
          obtain ⟨b, off, spot⟩ := a
          simp only at hspot
          subst hspot
          let CS : Nat → List Value := fun i => (w.cells? 0 (Addr.add ⟨b, off, none⟩ (i * P.cellsOf e)) (P.cellsOf e)).getD []
          have hCS : ∀ i, i < len → w.cells? 0 (Addr.add ⟨b, off, none⟩ (i * P.cellsOf e)) (P.cellsOf e) = some (CS i) := fun i hi => by
            obtain ⟨cs', h1, _⟩ := hcell i (by omega)
            simp [CS, h1]
          obtain ⟨rows, hrl, hr⟩ := choose_rows (w := w) (P := P) (n := n') (z := 0) (e := e) (b := 0) (off := 0) len CS fun i hi => by
            obtain ⟨cs', h1, x, h2⟩ := hcell i (by omega)
            have : CS i = cs' := by simp [CS, h1]
            rw [this]
            exact rd_of_trod n' e cs' x h2 hp
          subst hrl
          have hlenr : ∀ r ∈ rows, r.length = P.cellsOf e := fun r hmem => by
            obtain ⟨i, hi⟩ := List.getElem?_of_mem hmem
            have hil : i < rows.length := (List.getElem?_eq_some_iff.1 hi).1
            rw [(hr i r hi).1.1]
            exact (World.cells?_some (hCS i hil)).2.1
          refine ⟨[.sl (P.cellsOf e) rows], RDs.one (.sl _ rows b off cap (fun i j => (CS i).getD j undef) hl hm hlenr (fun i j hi hj => ?_) fun i j r x hri hx => ?_) rfl, rows, rfl, by omega, fun r hmem => ⟨hlenr r hmem, ?_⟩⟩
          · have h1 := (World.cells?_some (hCS i hi)).2.2 j hj
            have hjl : j < (CS i).length := by rw [(World.cells?_some (hCS i hi)).2.1]; exact hj
            rw [List.getElem?_eq_getElem hjl] at h1
            simp only [Addr.add_lit] at h1
            have e1 : (CS i).getD j undef = (CS i)[j] := by simp [List.getD_eq_getElem?_getD, hjl]
            refine ⟨?_, ?_⟩
            · show w.cell? _ = _
              rw [h1, e1]
            · rw [e1]
              obtain ⟨r, hri⟩ : ∃ r, rows[i]? = some r := ⟨_, List.getElem?_eq_getElem hi⟩
              exact (hr i r hri).1.2.2 _ (List.getElem_mem hjl)
          · have hil : i < rows.length := (List.getElem?_eq_some_iff.1 hri).1
            have hjl : j < (CS i).length := by
              rw [← (hr i r hri).1.1]; exact (List.getElem?_eq_some_iff.1 hx).1
            have e1 : (CS i).getD j undef = (CS i)[j] := by simp [List.getD_eq_getElem?_getD, hjl]
            rw [e1]
            exact (hr i r hri).1.2.1 j x _ hx (List.getElem?_eq_getElem hjl)
          · obtain ⟨i, hi⟩ := List.getElem?_of_mem hmem
            exact (hr i r hi).2
    · rename_i fs hu
      simp only [Bool.and_eq_true, List.all_eq_true] at hp
      obtain ⟨ht, hp⟩ := hp
      obtain ⟨xs, n', hn, _, hlen, hxl, hg⟩ := DataW.trod_struct hu h
      obtain rfl : n' = n := by omega
      have htl : ∀ (fl : List Field) (o : Nat), tilesL P fl o (P.cellsOf t) = true → o ≤ P.cellsOf t ∧ ∀ f ∈ fl, f.offset + P.cellsOf f.type ≤ P.cellsOf t := by
        intro fl
        induction fl with
        | nil => intro o h; simp only [tilesL, decide_eq_true_eq] at h; exact ⟨by omega, fun f hf => by cases hf⟩
        | cons f r ih =>
          intro o h
          simp only [tilesL, Bool.and_eq_true, decide_eq_true_eq] at h
          obtain ⟨h1, h2⟩ := ih _ h.2
          refine ⟨by omega, fun g hg => ?_⟩
          rcases List.mem_cons.1 hg with rfl | hg
          · omega
          · exact h2 g hg
      obtain ⟨ds, h1, h2⟩ := fields_rd (w := w) (P := P) (enc := enc) hlen (fun t cs x => rd_of_trod n' t cs x) fs.toList 0 (Nat.zero_le _) ht fun f hf => by
        refine ⟨hp f hf, ?_⟩
        obtain ⟨i, hi⟩ := List.getElem?_of_mem hf
        have hi' : fs[i]? = some f := by simpa using hi
        have hlt : i < xs.length := by rw [hxl]; exact (Array.getElem?_eq_some_iff.1 hi').1
        have := hg i f hi'
        rw [List.getElem?_eq_getElem hlt] at this
        refine ⟨_, this, ?_⟩
        have := (htl _ _ ht).2 f hf
        simp [hlen]
        omega
      rw [List.drop_zero] at h1
      exact ⟨ds, h1, by rw [h1.1, hlen], fun f hf => by simpa using (h2 f hf).2⟩
    · cases hp
end

/-! ### arguments -/

/-- One argument of a type of plain data. -/
def wfA (P : Program) (t : TypeId) (x : D) : Prop :=
  match P.underlying t with
  | some (.struct _) => ∃ ds, x = .agg ds ∧ ∃ n, wfD P n t ds
  | _ => ∃ n, wfD P n t [x]

def wfAs (P : Program) : List TypeId → List D → Prop
  | [], [] => True
  | t :: ts, x :: xs => wfA P t x ∧ wfAs P ts xs
  | _, _ => False

section
variable {H : Type} {enc : TypeId × Value → H} {P : Program} {w : World}

theorem wfA_s {t : TypeId} (hu : P.underlying t = some .string) {x : D} (h : wfA P t x) : ∃ s : ByteArray, s.size ≤ maxLen ∧ x = .v (.string s) := by
  unfold wfA at h
  rw [hu] at h
  obtain ⟨n, h⟩ := h
  cases n with
  | zero => exact h.elim
  | succ n =>
    unfold wfD at h
    rw [hu] at h
    obtain ⟨s, h, hs⟩ := h
    simp at h
    exact ⟨s, hs, h⟩

theorem wfA_i {k : IntKind} {t : TypeId} (hu : P.underlying t = some (.int k)) {x : D} (h : wfA P t x) : ∃ i : Int, (Lit.int k i).wf = true ∧ x = .v (.int k i) := by
  unfold wfA at h
  rw [hu] at h
  obtain ⟨n, h⟩ := h
  cases n with
  | zero => exact h.elim
  | succ n =>
    unfold wfD at h
    rw [hu] at h
    obtain ⟨s, h, hs⟩ := h
    simp at h
    exact ⟨s, hs, h⟩

theorem wfA_sl {t e : TypeId} (hu : P.underlying t = some (.slice e)) {x : D} (h : wfA P t x) :
    ∃ rows, x = .sl (P.cellsOf e) rows ∧ rows.length ≤ maxLen ∧ ∃ n, ∀ r ∈ rows, r.length = P.cellsOf e ∧ wfD P n e r := by
  unfold wfA at h
  rw [hu] at h
  obtain ⟨n, h⟩ := h
  cases n with
  | zero => exact h.elim
  | succ n =>
    unfold wfD at h
    rw [hu] at h
    obtain ⟨rows, h, hm, hr⟩ := h
    simp at h
    exact ⟨rows, h, hm, n, hr⟩

theorem plain_mono : ∀ (n : Nat) (t : TypeId), plainTy P n t = true → plainTy P (n + 1) t = true
  | 0, t, h => by simp [plainTy] at h
  | n + 1, t, h => by
    unfold plainTy at h ⊢
    split at h
    · trivial
    · trivial
    · trivial
    · rename_i e hu
      simp only [Bool.and_eq_true] at h ⊢
      exact ⟨h.1, plain_mono n e h.2⟩
    · simp only [Bool.and_eq_true, List.all_eq_true] at h ⊢
      exact ⟨h.1, fun f hf => plain_mono n f.type (h.2 f hf)⟩
    · cases h

theorem plain_le {n m : Nat} (h : n ≤ m) {t : TypeId} (hp : plainTy P n t = true) : plainTy P m t = true := by
  induction h with
  | refl => exact hp
  | step _ ih => exact plain_mono _ t ih

theorem rd_arg {n : Nat} {t : TypeId} {v : Value} {d : DataW H} {p : List MemPlace} (hp : plainTy P n t = true) (h : DataW.Trod enc P w 0 (fun _ => true) true t v d p)
    (hv : Value.okWide P w .any 0 t v) : ∃ x : D, RD (memOf w) x v ∧ wfA P t x := by
  obtain ⟨m, hm⟩ := h
  obtain ⟨ds, ⟨hl, hr, ho⟩, hw⟩ := rd_of_trod (max n m) t _ _ (DataW.trod_le (Nat.le_max_right ..) hm) (plain_le (Nat.le_max_left ..) hp)
  unfold wfA
  split
  · rename_i fs hu
    obtain ⟨cs, rfl, hsz⟩ := okWide_struct hu hv
    obtain ⟨cs⟩ := cs
    exact ⟨.agg ds, .agg ds cs hl hr, ds, rfl, _, hw⟩
  · rename_i hns
    have h1 : ∃ x, ds = [x] := by
      cases hmx : max n m with
      | zero => rw [hmx] at hw; exact hw.elim
      | succ q =>
        rw [hmx] at hw
        unfold wfD at hw
        split at hw
        · obtain ⟨b, rfl⟩ := hw; exact ⟨_, rfl⟩
        · obtain ⟨b, rfl, _⟩ := hw; exact ⟨_, rfl⟩
        · obtain ⟨b, rfl, _⟩ := hw; exact ⟨_, rfl⟩
        · obtain ⟨rows, rfl, _⟩ := hw; exact ⟨_, rfl⟩
        · rename_i fs hu; exact (hns fs hu).elim
        · exact hw.elim
    obtain ⟨x, rfl⟩ := h1
    have hcs : v.cells.toList = [v] := by
      cases v with
      | agg cs =>
        obtain ⟨l⟩ := cs
        simp only [Value.cells] at hl
        exfalso
        have hok := hv
        unfold Value.okWide at hok
        split at hok
        · rename_i fs hu; exact hns fs hu
        · rename_i k e hu
          cases hmx : max n m with
          | zero => rw [hmx] at hw; exact hw.elim
          | succ q => rw [hmx] at hw; unfold wfD at hw; rw [hu] at hw; exact hw
        · unfold Cell.okWide at hok
          split at hok
          all_goals first | (unfold Cell.ok at hok; split at hok <;> simp_all; done) | simp_all
      | _ => rfl
    rw [hcs] at hr
    exact ⟨x, hr 0 x v rfl rfl, _, hw⟩

theorem rd_args {n : Nat} : ∀ {ts : List TypeId} {vs : List Value} {ds : List (DataW H)} {p : List MemPlace}, ts.all (plainTy P n) = true → DataW.TrodAll enc P w 0 (fun _ => true) true ts vs ds p →
    (∀ (j : Nat) (t : TypeId) (v : Value), ts[j]? = some t → vs[j]? = some v → Value.okWide P w .any 0 t v) →
    ∃ xs : List D, vs.length = xs.length ∧ wfAs P ts xs ∧ ∀ (i : Nat) (x : D) (u : Value), xs[i]? = some x → vs[i]? = some u → RD (memOf w) x u
  | [], [], [], _, _, _, _ => ⟨[], rfl, trivial, fun i x u h => by simp at h⟩
  | t :: ts, v :: vs, d :: ds, p, hp, ⟨p1, p2, h1, h2, _⟩, hv => by
    simp only [List.all_cons, Bool.and_eq_true] at hp
    obtain ⟨x, hx, hw⟩ := rd_arg hp.1 h1 (hv 0 t v rfl rfl)
    obtain ⟨xs, hl, hws, hr⟩ := rd_args hp.2 h2 fun j t v ht hv' => hv (j + 1) t v (by simpa using ht) (by simpa using hv')
    refine ⟨x :: xs, by simp [hl], ⟨hw, hws⟩, fun i y u hy hu => ?_⟩
    cases i with
    | zero => simp at hy hu; subst hy; subst hu; exact hx
    | succ i => exact hr i y u (by simpa using hy) (by simpa using hu)

theorem stay_args {W' : World} {sp : Nat → Bool} (hl : laidOutB P = true) : ∀ {ts : List TypeId} {vs : List Value} {ds : List (DataW H)} {p : List MemPlace}, (ts.all fun t => P.readableRec t && decide (t < P.types.size)) = true →
    DataW.TrodAll enc P w 0 (fun _ => true) true ts vs ds p → (∀ q ∈ p, w.sameAt W' q ∧ sp q.block = true) → DataW.TrodAll enc P W' 0 sp true ts vs ds p
  | [], [], [], _, _, h, _ => h
  | t :: ts, v :: vs, d :: ds, p, hp, ⟨p1, p2, h1, h2, e⟩, hs => by
    subst e
    simp only [List.all_cons, Bool.and_eq_true, decide_eq_true_eq] at hp
    refine ⟨p1, p2, WideElems.Trod_stays hl hp.1.1 hp.1.2 h1 (fun q hq => (hs q (List.mem_append_left _ hq)).1) (fun q hq => (hs q (List.mem_append_left _ hq)).2),
      stay_args hl (by simpa using hp.2) h2 fun q hq => hs q (List.mem_append_right _ hq), rfl⟩
end

/-! ### the last step -/

section
variable {H : Type} {enc : TypeId × Value → H} {P : Program}

theorem post_of_below {f : Func} {s : ChangeSpec} {apart fresh handsOn again : Bool} {W W' : World} {args : Array Value} {v : Value} {ds gs : List (DataW H)} {before pa pv : List MemPlace}
    (hW : DataW.Whole enc P f.params.toList s.vars apart W args.toList ds gs before)
    (hres : ∀ (b : Nat) (sp : Nat → Bool) (hd : Bool), DataW.TrodAll enc P W' b sp hd f.resultTypes.toList (v.resultList f.resultTypes.size) (s.fn H (ds ++ gs)).results [])
    (hargs : ∀ sp : Nat → Bool, (∀ p ∈ before, sp p.block = true) → DataW.TrodAll enc P W' 0 sp true f.params.toList args.toList (s.fn H (ds ++ gs)).args pa)
    (hvars : ∀ sp : Nat → Bool, (∀ p ∈ before, sp p.block = true) → DataW.TrodVars enc P W' sp s.vars (s.fn H (ds ++ gs)).vars pv)
    (hps : before = pa ++ pv) (hb : Below W.heap.size W W')
    (hok : ∀ (j : Nat) (t : TypeId) (r : Value), f.resultTypes[j]? = some t → (v.resultList f.resultTypes.size)[j]? = some r → Value.okWide P W' .any 0 t r) :
    s.post enc P f apart fresh handsOn again W args v W' := by
  have hlt : ∀ p ∈ before, p.block < W.heap.size := fun p hp => hW.lt p hp
  have hold : ∀ p ∈ before, (fun b => decide (b < W.heap.size)) p.block = true := fun p hp => by simpa using hlt p hp
  refine ⟨ds, gs, before, [], pa, pv, hW, hres _ _ _, hargs _ hold, hvars _ hold, World.keptBut_mono (fun p hp => ⟨hp, ?_⟩) (hb.frame (· ∈ before)), fun _ => ?_⟩
  · rw [hps, List.mem_append] at hp
    exact Or.inr hp
  · obtain ⟨_, _, _, _, _, hz, hn⟩ := hW
    refine ⟨hok, _, _, ([] ++ pa) ++ pv, ⟨[] ++ pa, pv, trodAll_append (hargs _ (fun _ _ => rfl)) (hres _ _ _), hvars _ (fun _ _ => rfl), rfl, ?_, ?_⟩, ?_⟩
    · intro b off hp
      have hin : MemPlace.cell b off ∈ before := by rw [hps]; simpa using hp
      rw [hb.frozen (hlt _ hin)]
      exact hz b off hin
    · intro ha
      have := hn ha
      rw [hps] at this
      simpa using this
    · intro p hp _
      rw [hps]
      simpa using hp

/-- A law of plain arguments that returns true whatever they are: the step that the statement asks. -/
theorem law_body {f : FuncId} {fn : Func} {s : ChangeSpec} {apart fresh handsOn again : Bool} {n : Nat} {W : World} {args : Array Value} {ds gs : List (DataW H)} {before : List MemPlace} {tb : TypeId}
    (hl : laidOutB P = true) (hp : fn.params.toList.all (plainTy P n) = true) (hr : (fn.params.toList.all fun t => P.readableRec t && decide (t < P.types.size)) = true)
    (hrt : fn.resultTypes = #[tb]) (hb : P.underlying tb = some .bool) (hvars : s.vars = [])
    (hs : ∀ ds : List (DataW H), ds.length = fn.params.toList.length → s.fn H (ds ++ []) = { results := [.lit (.bool true)], args := ds })
    (hval : ∀ (j : Nat) t v, fn.params[j]? = some t → args[j]? = some v → Value.okWide P W .any 0 t v)
    (hW : DataW.Whole enc P fn.params.toList s.vars apart W args.toList ds gs before)
    (hfun : ∀ xs, wfAs P fn.params.toList xs → Fun P f xs (.d (.v (.bool true))) []) :
    Calls P f args W fun e W' => ∃ v, e = .returned v ∧ s.post enc P fn apart fresh handsOn again W args v W' := by
  have hW' := hW
  obtain ⟨p, q, hA, hV, rfl, hfz, hnd⟩ := hW
  rw [hvars] at hV
  obtain ⟨rfl, rfl⟩ := trodVars_none hV
  obtain ⟨xs, hlen, hwf, hrd⟩ := rd_args hp hA fun j t v ht hv => hval j t v (by simpa using ht) (by simpa using hv)
  have hdl : ds.length = fn.params.toList.length := by
    have : ∀ {ts : List TypeId} {vs : List Value} {ds : List (DataW H)} {p : List MemPlace}, DataW.TrodAll enc P W 0 (fun _ => true) true ts vs ds p → ds.length = ts.length := by
      intro ts
      induction ts with
      | nil => intro vs ds p h; cases vs <;> cases ds <;> first | rfl | exact h.elim
      | cons t ts ih =>
        intro vs ds p h
        cases vs with
        | nil => cases ds <;> exact h.elim
        | cons v vs =>
          cases ds with
          | nil => exact h.elim
          | cons d ds => obtain ⟨_, _, _, h2, _⟩ := h; simp [ih h2]
    exact this hA
  have hc := (hfun xs hwf).raw W (memOf W) args.toList (fun b o u h => h) hlen hrd
  rw [show args.toList.toArray = args by simp] at hc
  refine hc.mono fun e W' ⟨v, g, he, I, _, hv⟩ => ?_
  have hv' := hv.inv_v
  subst hv'
  refine ⟨_, he, post_of_below (pa := p) (pv := []) hW' (fun b sp hd => ?_) (fun sp hsp => ?_) (fun sp hsp => ?_) rfl I ?_⟩
  · rw [hs ds hdl, hrt]
    exact trodAll_cons_mk (p := []) (p' := []) ⟨1, by simp [DataW.trod, Value.cells, hb]⟩ trodAll_mk0
  · rw [hs ds hdl]
    refine stay_args hl hr hA fun x hx => ⟨I.same (hW'.lt x (List.mem_append_left _ hx)), hsp x (List.mem_append_left _ hx)⟩
  · rw [hs ds hdl, hvars]; rfl
  · exact ok_one hrt rfl (by simp [Value.okWide, hb, Cell.okWide, Cell.ok])
end
end Go.Proofs.Yteooogngdejdgaa
