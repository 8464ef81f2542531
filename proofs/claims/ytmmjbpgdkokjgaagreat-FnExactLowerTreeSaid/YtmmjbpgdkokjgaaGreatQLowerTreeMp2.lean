/-
  Texts of this claim in one. Conditions: none.
-/
import Derived.Test.YtmmjbpgdkokjgaaGreatQLowerTreePgF
import Derived.Test.YtmmjbpgdkokjgaaGreatQLowerTreePgE
import Derived.Test.YtmmjbpgdkokjgaaGreatQLowerTreeMp1
import Derived.Test.YtmmjbpgdkokjgaaGreatQLowerTreeLwJ
section
set_option linter.unusedVariables false
set_option linter.unusedSimpArgs false
set_option maxRecDepth 100000
namespace Go.Proofs.YtmmjbpgdkokjgaaGreat
open Go.RowKit

/-- A value of a slice of values, in a drawn region with effects. -/
theorem WE.ixP' {N : Nm} {K : (Nat → T) → Prop} {tm : Nat → T} {ops l : List Oper} {ty : TypeId} {pos : String} {after : Array Edge} {gd : Option (Nat × Bool)} {d w : Nat} {ps : List (Nat × List Nat)} {p : List Nat} {obF : Nat → List Ob} {xs : List V} {t : TypeId} {x ix : Operand} {i : Int}
    (k : WE env.P N ops obF K ps l (upd tm d (.ea (V.rowP (xs.getD i.toNat default)) 0)))
    (h : AllF p (fun g => OpS1 env.P N ops ⟨some d, .indexAddr t x ix, ty, pos, after, gd⟩ tm (.ea (V.rowP (xs.getD i.toNat default)) 0) (obF g) (obF (g + w))) := by first | exact .n | (refine .c (OpS1.ixm (E := env) (f := V.row) (by exact rfl) (by exact rfl) (by exact rfl) (by exact rfl) (by exact rfl) (by exact rfl) (by exact rfl) (by exact V.row_eq) (by first | exact trivial | (simp only [inRange, List.length_map, List.length_set]; omega) | omega | assumption)) ?_; first | exact .n | (refine .c (OpS1.ixm (E := env) (f := V.row) (by exact rfl) (by exact rfl) (by exact rfl) (by exact rfl) (by exact rfl) (by exact rfl) (by exact rfl) (by exact V.row_eq) (by first | exact trivial | (simp only [inRange, List.length_map, List.length_set]; omega) | omega | assumption)) ?_; first | exact .n | (refine .c (OpS1.ixm (E := env) (f := V.row) (by exact rfl) (by exact rfl) (by exact rfl) (by exact rfl) (by exact rfl) (by exact rfl) (by exact rfl) (by exact V.row_eq) (by first | exact trivial | (simp only [inRange, List.length_map, List.length_set]; omega) | omega | assumption)) ?_; first | exact .n | (refine .c (OpS1.ixm (E := env) (f := V.row) (by exact rfl) (by exact rfl) (by exact rfl) (by exact rfl) (by exact rfl) (by exact rfl) (by exact rfl) (by exact V.row_eq) (by first | exact trivial | (simp only [inRange, List.length_map, List.length_set]; omega) | omega | assumption)) ?_; first | exact .n | (refine .c (OpS1.ixm (E := env) (f := V.row) (by exact rfl) (by exact rfl) (by exact rfl) (by exact rfl) (by exact rfl) (by exact rfl) (by exact rfl) (by exact V.row_eq) (by first | exact trivial | (simp only [inRange, List.length_map, List.length_set]; omega) | omega | assumption)) ?_; first | exact .n | (refine .c (OpS1.ixm (E := env) (f := V.row) (by exact rfl) (by exact rfl) (by exact rfl) (by exact rfl) (by exact rfl) (by exact rfl) (by exact rfl) (by exact V.row_eq) (by first | exact trivial | (simp only [inRange, List.length_map, List.length_set]; omega) | omega | assumption)) ?_; first | exact .n | (refine .c (OpS1.ixm (E := env) (f := V.row) (by exact rfl) (by exact rfl) (by exact rfl) (by exact rfl) (by exact rfl) (by exact rfl) (by exact rfl) (by exact V.row_eq) (by first | exact trivial | (simp only [inRange, List.length_map, List.length_set]; omega) | omega | assumption)) ?_; first | exact .n | (refine .c (OpS1.ixm (E := env) (f := V.row) (by exact rfl) (by exact rfl) (by exact rfl) (by exact rfl) (by exact rfl) (by exact rfl) (by exact rfl) (by exact V.row_eq) (by first | exact trivial | (simp only [inRange, List.length_map, List.length_set]; omega) | omega | assumption)) ?_; exact .n))))))))) :
    WE env.P N ops obF K ((w, p) :: ps) (⟨some d, .indexAddr t x ix, ty, pos, after, gd⟩ :: l) tm :=
  .mk _ h k

/-! ### keys in order -/

def objV (ks : List ByteArray) (vs : List V) : V := .mk 6 0 noS ks vs
end Go.Proofs.YtmmjbpgdkokjgaaGreat
end

section
set_option linter.unusedVariables false
set_option linter.unusedSimpArgs false
set_option maxRecDepth 100000
namespace Go.Proofs.YtmmjbpgdkokjgaaGreat
open Go.RowKit

def objK (keys : List ByteArray) : Nat → List ByteArray
  | 0 => []
  | i + 1 => insK (keys.getD i default) (objK keys i)
def objX {α : Type} [Inhabited α] (keys : List ByteArray) (vals : List α) : Nat → List α
  | 0 => []
  | i + 1 => insX (keys.getD i default) (vals.getD i default) (objK keys i) (objX keys vals i)

end Go.Proofs.YtmmjbpgdkokjgaaGreat
end

section
set_option linter.unusedVariables false
set_option linter.unusedSimpArgs false
set_option maxRecDepth 100000
namespace Go.Proofs.YtmmjbpgdkokjgaaGreat
open Go.RowKit

/-- Of each key the last value, of the first i. -/
def lastM (keys : List ByteArray) (vals : List V) : Nat → ByteArray → Option V
  | 0, _ => none
  | i + 1, x => if x = keys.getD i default then some (vals.getD i default) else lastM keys vals i x

def lastD (keys : List ByteArray) (vals : List V) (i : Nat) (x : ByteArray) : Option D := (lastM keys vals i x).map fun v => .agg v.rowP

theorem lastD_step (keys : List ByteArray) (vals : List V) (i : Nat) : (fun x => if x = keys.getD i default then some (.agg (vals.getD i default).rowP) else lastD keys vals i x) = lastD keys vals (i + 1) := by
  funext x
  simp only [lastD, lastM]
  split <;> rfl

theorem objK_mem (keys : List ByteArray) (vals : List V) : ∀ (i : Nat) (x : ByteArray), x ∈ objK keys i ↔ (lastM keys vals i x).isSome = true
  | 0, x => by simp [objK, lastM]
  | i + 1, x => by
    rw [objK, insK_mem, objK_mem keys vals i x, lastM]
    by_cases e : x = keys.getD i default
    · rw [if_pos e]; simp [e]
    · rw [if_neg e]; exact ⟨fun h => h.resolve_left e, .inr⟩

theorem objK_incr' (keys : List ByteArray) : ∀ i : Nat, incr (objK keys i)
  | 0 => trivial
  | i + 1 => insK_incr _ (objK_incr' keys i)

theorem insX_cons {α : Type} (key : ByteArray) (x : α) (a : ByteArray) (r : List ByteArray) (b : α) (s : List α) :
    insX key x (a :: r) (b :: s) = if lessK a key = true then b :: insX key x r s else if a = key then x :: s else x :: b :: s := by
  unfold insX
  by_cases h : lessK a key = true
  · have hp : posK key (a :: r) = posK key r + 1 := by rw [posK_cons, if_pos h]
    have hh : hasK (a :: r) key = hasK r key := by simp [hasK, hp]
    rw [if_pos h, hh, hp]
    split <;> simp
  · have hp : posK key (a :: r) = 0 := by rw [posK_cons, if_neg h]
    rw [if_neg h, hp]
    by_cases e : a = key
    · have hh : hasK (a :: r) key = true := by rw [hasK, hp]; simp [e]
      rw [if_pos hh, if_pos e]
      rfl
    · have hh : hasK (a :: r) key = false := by rw [hasK, hp]; simp [e]
      rw [if_neg (by rw [hh]; simp), if_neg e]
      rfl

theorem insX_nil {α : Type} (key : ByteArray) (x : α) : insX key x [] [] = [x] := by simp [insX, hasK, posK]

theorem ins_zip {α : Type} (key : ByteArray) (x : α) : ∀ (ks : List ByteArray) (xs : List α), incr ks → ks.length = xs.length → ∀ p, p ∈ (insK key ks).zip (insX key x ks xs) → p = (key, x) ∨ (p.1 ≠ key ∧ p ∈ ks.zip xs)
  | [], [], _, _, p, hp => by
    rw [insK_nil, insX_nil] at hp
    exact .inl (by simpa using hp)
  | [], _ :: _, _, h, _, _ => by simp at h
  | _ :: _, [], _, h, _, _ => by simp at h
  | a :: r, b :: s, hi, hl, p, hp => by
    obtain ⟨ha, hr⟩ := incr_cons.1 hi
    have hmem : ∀ q : ByteArray × α, q ∈ r.zip s → q.1 ∈ r := fun q hq => (List.of_mem_zip (a := q.1) (b := q.2) hq).1
    rw [insK_cons, insX_cons] at hp
    by_cases h : lessK a key = true
    · rw [if_pos h, if_pos h, List.zip_cons_cons] at hp
      rcases List.mem_cons.1 hp with rfl | hp
      · exact .inr ⟨fun e => (by
          simp only at e
          rw [e, lessK_irrefl] at h
          cases h), by simp⟩
      · rcases ins_zip key x r s hr (by simpa using hl) p hp with h1 | ⟨h1, h2⟩
        · exact .inl h1
        · exact .inr ⟨h1, by simp [h2]⟩
    · rw [if_neg h, if_neg h] at hp
      by_cases e : a = key
      · rw [if_pos e, if_pos e, List.zip_cons_cons] at hp
        rcases List.mem_cons.1 hp with rfl | hp
        · exact .inl (by rw [e])
        · refine .inr ⟨fun e' => ?_, by simp [hp]⟩
          have := ha _ (hmem p hp)
          rw [e', e, lessK_irrefl] at this; cases this
      · rw [if_neg e, if_neg e, List.zip_cons_cons] at hp
        rcases List.mem_cons.1 hp with rfl | hp
        · exact .inl rfl
        · have hka : lessK key a = true := by
            cases hh : lessK key a
            · exact absurd (lessK_tri (by simpa using h) hh) e
            · rfl
          refine .inr ⟨fun e' => ?_, hp⟩
          rw [List.zip_cons_cons] at hp
          rcases List.mem_cons.1 hp with rfl | hp
          · exact e e'
          · have := lessK_trans hka (ha _ (hmem p hp))
            rw [e', lessK_irrefl] at this; cases this

theorem objX_length {α : Type} [Inhabited α] (keys : List ByteArray) (vals : List α) : ∀ i : Nat, (objK keys i).length = (objX keys vals i).length
  | 0 => rfl
  | i + 1 => (insX_length _ _ _ _ (objX_length keys vals i).symm).symm

theorem obj_zip (keys : List ByteArray) (vals : List V) : ∀ (i : Nat) (p : ByteArray × V), p ∈ (objK keys i).zip (objX keys vals i) → lastM keys vals i p.1 = some p.2
  | 0, p, hp => by simp [objK] at hp
  | i + 1, p, hp => by
    rcases ins_zip _ _ _ _ (objK_incr' keys i) (objX_length keys vals i) p hp with rfl | ⟨h1, h2⟩
    · simp [lastM]
    · rw [lastM, if_neg h1]
      exact obj_zip keys vals i p h2

theorem obj_at (keys : List ByteArray) (vals : List V) {i j : Nat} (hj : j < (objK keys i).length) : lastM keys vals i ((objK keys i).getD j default) = some ((objX keys vals i).getD j default) := by
  have hx := objX_length keys vals i
  have := obj_zip keys vals i ((objK keys i).getD j default, (objX keys vals i).getD j default) (by
    rw [List.mem_iff_getElem?]
    refine ⟨j, ?_⟩
    simp [List.getElem?_zip_eq_some, hj, hx ▸ hj])
  exact this

/-- What was collected, in order. -/
theorem srt_obj (keys : List ByteArray) (vals : List V) {i : Nat} {ks : List ByteArray} (hn : ks.Nodup) (hm : ∀ x, x ∈ ks ↔ (lastM keys vals i x).isSome = true) : srt ks = objK keys i :=
  incr_ext (srt_incr hn) (objK_incr' keys i) fun x => by rw [(srt_perm ks).mem_iff, hm, objK_mem keys vals]

theorem objK_len (keys : List ByteArray) : ∀ i : Nat, (objK keys i).length ≤ i
  | 0 => by simp [objK]
  | i + 1 => by
    have := insK_length (keys.getD i default) (objK keys i)
    have := objK_len keys i
    rw [objK]; omega

theorem objK_sub (keys : List ByteArray) : ∀ i : Nat, i ≤ keys.length → ∀ x ∈ objK keys i, x ∈ keys
  | 0, _, x, h => by simp [objK] at h
  | i + 1, hi, x, h => by
    rw [objK, insK_mem] at h
    rcases h with rfl | h
    · exact getD_mem' (by omega)
    · exact objK_sub keys i (by omega) x h

theorem among_appM (ks : List ByteArray) (y z : ByteArray) : among (ks ++ [y]) z = (among ks z || decide (z = y)) := by
  induction ks with
  | nil => simp [among]
  | cons a r ih => simp only [List.cons_append, among, ih, Bool.or_assoc]

theorem nodup_len : ∀ {ks l : List ByteArray}, ks.Nodup → (∀ x ∈ ks, x ∈ l) → ks.length ≤ l.length
  | [], _, _, _ => Nat.zero_le _
  | a :: r, l, hn, h => by
    have ha := h a (List.mem_cons_self ..)
    have h1 := List.nodup_cons.1 hn
    have := nodup_len (l := l.filter fun x => !decide (x = a)) h1.2 fun x hx => List.mem_filter.2 ⟨h x (List.mem_cons_of_mem _ hx), by
      have : x ≠ a := fun e => by subst e; exact h1.1 hx
      simp [this]⟩
    have h2 : (l.filter fun x => !decide (x = a)).length < l.length := List.length_filter_lt_length_iff_exists.2 ⟨a, ha, by simp⟩
    rw [List.length_cons]
    omega

end Go.Proofs.YtmmjbpgdkokjgaaGreat
end
