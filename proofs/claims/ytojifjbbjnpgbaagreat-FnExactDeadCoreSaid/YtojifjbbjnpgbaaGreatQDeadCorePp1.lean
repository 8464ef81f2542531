/-
  A core as parts within parts: what its nodes in order are. Conditions: none.
-/
import Derived.Test.YtojifjbbjnpgbaaGreatQDeadCoreNe2
set_option linter.unusedVariables false
set_option linter.unusedSimpArgs false
set_option maxRecDepth 100000
namespace Go.Proofs.YtojifjbbjnpgbaaGreat
open Go.RowKit

inductive Pt where
  | mk (n : Co) (kids : List Pt)
  deriving Inhabited

def Pt.n : Pt → Co
  | .mk n _ => n
def Pt.kids : Pt → List Pt
  | .mk _ kids => kids

mutual
def Pt.row : Pt → List D
  | .mk n kids => n.row ++ [.sl 7 (Pt.rows kids)]
def Pt.rows : List Pt → List (List D)
  | [] => []
  | p :: r => p.row :: Pt.rows r
end
theorem Pt.rows_map : ∀ l : List Pt, Pt.rows l = l.map Pt.row
  | [] => by simp [Pt.rows]
  | p :: r => by simp [Pt.rows, Pt.rows_map r]
def Pt.rowP (p : Pt) : List D := [dI p.n.op, dI p.n.a, dI p.n.b, dI p.n.c, dI p.n.num, cellsD p.n.val, .sl 7 (p.kids.map Pt.row)]
theorem Pt.row_eq : ∀ p : Pt, p.row = p.rowP
  | .mk n kids => by simp only [Pt.row, Pt.rows_map]; rfl

mutual
def Pt.count : Pt → Nat
  | .mk _ kids => Pt.counts kids + 1
def Pt.counts : List Pt → Nat
  | [] => 0
  | p :: r => p.count + Pt.counts r
end
theorem Pt.count_eq (p : Pt) : p.count = Pt.counts p.kids + 1 := by cases p; rfl
theorem Pt.counts_ge {l : List Pt} (p : Pt) (h : p ∈ l) : p.count ≤ Pt.counts l := by
  induction l with
  | nil => cases h
  | cons a r ih =>
    simp only [Pt.counts]
    rcases List.mem_cons.1 h with rfl | h
    · omega
    · have := ih h; omega

/-- A node that names these. -/
def Co.put (n : Co) (es : List Int) : Co := ⟨n.op, es.getD 0 n.a, es.getD 1 n.b, es.getD 2 n.c, n.num, n.val⟩

mutual
/-- The nodes of a part behind so many others. -/
def Pt.flat : Pt → Nat → List Co
  | .mk n kids, b => Pt.flats kids b ++ [n.put (Pt.ends kids b)]
def Pt.flats : List Pt → Nat → List Co
  | [], _ => []
  | p :: r, b => p.flat b ++ Pt.flats r (b + p.count)
def Pt.ends : List Pt → Nat → List Int
  | [], _ => []
  | p :: r, b => (((b + p.count : Nat) : Int) - 1) :: Pt.ends r (b + p.count)
end

mutual
theorem Pt.flat_length : ∀ (p : Pt) (b : Nat), (p.flat b).length = p.count
  | .mk n kids, b => by simp [Pt.flat, Pt.count, Pt.flats_length kids b]
theorem Pt.flats_length : ∀ (l : List Pt) (b : Nat), (Pt.flats l b).length = Pt.counts l
  | [], _ => rfl
  | p :: r, b => by simp [Pt.flats, Pt.counts, Pt.flat_length p b, Pt.flats_length r (b + p.count)]
end
theorem Pt.ends_length : ∀ (l : List Pt) (b : Nat), (Pt.ends l b).length = l.length
  | [], _ => rfl
  | p :: r, b => by simp [Pt.ends, Pt.ends_length r]
theorem Pt.flat_eq (p : Pt) (b : Nat) : p.flat b = Pt.flats p.kids b ++ [p.n.put (Pt.ends p.kids b)] := by cases p; simp [Pt.flat, Pt.kids, Pt.n]

theorem Pt.counts_app : ∀ (l m : List Pt), Pt.counts (l ++ m) = Pt.counts l + Pt.counts m
  | [], m => by simp [Pt.counts]
  | p :: r, m => by simp only [List.cons_append, Pt.counts, Pt.counts_app r m]; omega
theorem Pt.flats_app : ∀ (l m : List Pt) (b : Nat), Pt.flats (l ++ m) b = Pt.flats l b ++ Pt.flats m (b + Pt.counts l)
  | [], m, b => by simp [Pt.flats, Pt.counts]
  | p :: r, m, b => by simp only [List.cons_append, Pt.flats, Pt.flats_app r m, List.append_assoc, Pt.counts, Nat.add_assoc]
theorem Pt.ends_app : ∀ (l m : List Pt) (b : Nat), Pt.ends (l ++ m) b = Pt.ends l b ++ Pt.ends m (b + Pt.counts l)
  | [], m, b => by simp [Pt.ends, Pt.counts]
  | p :: r, m, b => by simp only [List.cons_append, Pt.ends, Pt.ends_app r m, Pt.counts, Nat.add_assoc]

theorem Pt.flats_step {l : List Pt} {i : Nat} (b : Nat) (hi : i < l.length) : Pt.flats (l.take (i + 1)) b = Pt.flats (l.take i) b ++ (l.getD i default).flat (b + Pt.counts (l.take i)) := by
  rw [take_step hi, Pt.flats_app]
  simp [Pt.flats]
theorem Pt.ends_step {l : List Pt} {i : Nat} (b : Nat) (hi : i < l.length) : Pt.ends (l.take (i + 1)) b = Pt.ends (l.take i) b ++ [((b + Pt.counts (l.take i) + (l.getD i default).count : Nat) : Int) - 1] := by
  rw [take_step hi, Pt.ends_app]
  simp [Pt.ends]
theorem Pt.counts_step {l : List Pt} {i : Nat} (hi : i < l.length) : Pt.counts (l.take (i + 1)) = Pt.counts (l.take i) + (l.getD i default).count := by
  rw [take_step hi, Pt.counts_app]
  simp [Pt.counts]
theorem Pt.counts_le (l : List Pt) (i : Nat) : Pt.counts (l.take i) ≤ Pt.counts l := by
  have := Pt.counts_app (l.take i) (l.drop i)
  rw [List.take_append_drop] at this
  omega

end Go.Proofs.YtojifjbbjnpgbaaGreat
