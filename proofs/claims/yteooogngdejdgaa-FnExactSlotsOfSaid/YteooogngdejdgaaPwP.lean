/-
  The small logic, sixteenth part: what arguments of structs of one-cell fields are. Conditions: none.
-/
import Derived.Test.YteooogngdejdgaaPwM
import Derived.Test.YteooogngdejdgaaPwO
set_option linter.unusedVariables false
set_option linter.unusedSimpArgs false
namespace Go.Proofs.Yteooogngdejdgaa
open Go.RowKit

section
variable {P : Program}

def oneFrom (P : Program) : List Field → Nat → Option (List TypeId)
  | [], _ => some []
  | f :: r, i => bif decide (f.offset = i) && decide (P.cellsOf f.type = 1) then (match oneFrom P r (i + 1) with | some ts => some (f.type :: ts) | none => none) else none

/-- The types of a struct's fields, where each has one cell. -/
def oneFields (P : Program) (t : TypeId) : Option (List TypeId) :=
  match P.underlying t with
  | some (.struct fs) => oneFrom P fs.toList 0
  | _ => none

def wfL (P : Program) (n : Nat) : List TypeId → List D → Prop
  | [], [] => True
  | t :: ts, x :: xs => wfD P n t [x] ∧ wfL P n ts xs
  | _, _ => False

theorem wfL_of {n : Nat} : ∀ (fl : List Field) (i : Nat) (ds : List D) (ts : List TypeId), oneFrom P fl i = some ts → (∀ f ∈ fl, wfD P n f.type ((ds.drop f.offset).take (P.cellsOf f.type))) → ds.length = i + fl.length →
    wfL P n ts (ds.drop i)
  | [], i, ds, ts, h, _, hl => by
    simp only [oneFrom, Option.some.injEq] at h
    subst h
    rw [List.drop_eq_nil_of_le (by simp at hl; omega)]
    trivial
  | f :: r, i, ds, ts, h, hf, hl => by
    simp only [List.length_cons] at hl
    unfold oneFrom at h
    cases hc : (decide (f.offset = i) && decide (P.cellsOf f.type = 1)) with
    | false => rw [hc] at h; cases h
    | true =>
      rw [hc, cond_true] at h
      simp only [Bool.and_eq_true, decide_eq_true_eq] at hc
      split at h
      · rename_i ts' hts
        simp only [Option.some.injEq] at h
        subst h
        have h1 := hf f (List.mem_cons_self ..)
        have h2 := wfL_of r (i + 1) ds ts' hts (fun g hg => hf g (List.mem_cons_of_mem _ hg)) (by omega)
        have hlt : i < ds.length := by omega
        rw [hc.1, hc.2, List.drop_eq_getElem_cons hlt] at h1
        rw [List.drop_eq_getElem_cons hlt]
        exact ⟨h1, h2⟩
      · cases h

theorem wfD_fields {n : Nat} {t : TypeId} {ds : List D} {ts : List TypeId} (ho : oneFields P t = some ts) (hc : P.cellsOf t = ts.length) (h : wfD P n t ds) : ∃ m, wfL P m ts ds := by
  cases n with
  | zero => exact h.elim
  | succ n =>
    unfold wfD at h
    unfold oneFields at ho
    split at ho
    · rename_i fs hu
      rw [hu] at h
      obtain ⟨hl, hf⟩ := h
      have hlen : ∀ (fl : List Field) (i : Nat) (ts : List TypeId), oneFrom P fl i = some ts → ts.length = fl.length := by
        intro fl
        induction fl with
        | nil => intro i ts h; simp only [oneFrom, Option.some.injEq] at h; subst h; rfl
        | cons f r ih =>
          intro i ts h
          unfold oneFrom at h
          cases hc : (decide (f.offset = i) && decide (P.cellsOf f.type = 1)) with
          | false => rw [hc] at h; cases h
          | true =>
            rw [hc, cond_true] at h
            split at h
            · rename_i ts' hts
              simp only [Option.some.injEq] at h
              subst h
              simp [ih _ _ hts]
            · cases h
      have := wfL_of (n := n) fs.toList 0 ds ts ho hf (by rw [hl, hc, hlen _ _ _ ho]; omega)
      exact ⟨n, by simpa using this⟩
    · cases ho

theorem wfD_int {n : Nat} {k : IntKind} {t : TypeId} {x : D} (hu : P.underlying t = some (.int k)) (h : wfD P n t [x]) : ∃ i : Int, (Lit.int k i).wf = true ∧ x = .v (.int k i) := by
  cases n with
  | zero => exact h.elim
  | succ n =>
    unfold wfD at h
    rw [hu] at h
    obtain ⟨s, h, hs⟩ := h
    simp at h
    exact ⟨s, hs, h⟩

theorem wfD_bool {n : Nat} {t : TypeId} {x : D} (hu : P.underlying t = some .bool) (h : wfD P n t [x]) : ∃ b : Bool, x = .v (.bool b) := by
  cases n with
  | zero => exact h.elim
  | succ n =>
    unfold wfD at h
    rw [hu] at h
    obtain ⟨s, h⟩ := h
    simp at h
    exact ⟨s, h⟩

theorem wfD_str {n : Nat} {t : TypeId} {x : D} (hu : P.underlying t = some .string) (h : wfD P n t [x]) : ∃ s : ByteArray, s.size ≤ maxLen ∧ x = .v (.string s) := by
  cases n with
  | zero => exact h.elim
  | succ n =>
    unfold wfD at h
    rw [hu] at h
    obtain ⟨s, h, hs⟩ := h
    simp at h
    exact ⟨s, hs, h⟩

theorem wfD_sl {n : Nat} {t e : TypeId} {x : D} (hu : P.underlying t = some (.slice e)) (h : wfD P n t [x]) :
    ∃ rows, x = .sl (P.cellsOf e) rows ∧ rows.length ≤ maxLen ∧ ∃ n, ∀ r ∈ rows, r.length = P.cellsOf e ∧ wfD P n e r := by
  cases n with
  | zero => exact h.elim
  | succ n =>
    unfold wfD at h
    rw [hu] at h
    obtain ⟨rows, h, hm, hr⟩ := h
    simp at h
    exact ⟨rows, h, hm, n, hr⟩

theorem wfA_one {t : TypeId} {x : D} (hu : ∀ fs, P.underlying t ≠ some (.struct fs)) (h : wfA P t x) : ∃ n, wfD P n t [x] := by
  unfold wfA at h
  split at h
  · rename_i fs h'; exact (hu fs h').elim
  · exact h

theorem wfA_struct {t : TypeId} {x : D} {ts : List TypeId} (ho : oneFields P t = some ts) (hc : P.cellsOf t = ts.length) (h : wfA P t x) : ∃ m ds, x = .agg ds ∧ wfL P m ts ds := by
  unfold wfA at h
  split at h
  · obtain ⟨ds, rfl, n, hw⟩ := h
    obtain ⟨m, hm⟩ := wfD_fields ho hc hw
    exact ⟨m, ds, rfl, hm⟩
  · rename_i hns
    unfold oneFields at ho
    split at ho
    · rename_i fs hu; exact (hns fs hu).elim
    · cases ho

/-- Rows that are all of one form are a list's image. -/
theorem rows_map {α : Type} {f : α → List D} {rows : List (List D)} {p : α → Prop} (h : ∀ r ∈ rows, ∃ c, p c ∧ r = f c) : ∃ cs : List α, rows = cs.map f ∧ ∀ c ∈ cs, p c := by
  induction rows with
  | nil => exact ⟨[], rfl, fun c hc => by cases hc⟩
  | cons r rs ih =>
    obtain ⟨c, hc, rfl⟩ := h r (List.mem_cons_self ..)
    obtain ⟨cs, rfl, hcs⟩ := ih fun q hq => h q (List.mem_cons_of_mem _ hq)
    exact ⟨c :: cs, rfl, fun x hx => by
      rcases List.mem_cons.1 hx with rfl | hx
      · exact hc
      · exact hcs x hx⟩
end
end Go.Proofs.Yteooogngdejdgaa
