/-
  A core as parts within parts: what its nodes in order are. Conditions: none.
-/
import Derived.Test.YtmmjbpgdkokjgaaQCompileCoreNe2
set_option linter.unusedVariables false
set_option linter.unusedSimpArgs false
set_option maxRecDepth 100000
namespace Go.Proofs.Ytmmjbpgdkokjgaa
open Go.RowKit

inductive Pt where
  | mk (n : Co) (kids : List Pt)
  deriving Inhabited

def Pt.n : Pt → Co
  | .mk n _ => n
def Pt.kids : Pt → List Pt
  | .mk _ kids => kids

mutual
def Pt.row : Pt → List D
  | .mk n kids => n.row ++ [.sl 7 (Pt.rows kids)]
def Pt.rows : List Pt → List (List D)
  | [] => []
  | p :: r => p.row :: Pt.rows r
end
theorem Pt.rows_map : ∀ l : List Pt, Pt.rows l = l.map Pt.row
  | [] => by simp [Pt.rows]
  | p :: r => by simp [Pt.rows, Pt.rows_map r]
def Pt.rowP (p : Pt) : List D := [dI p.n.op, dI p.n.a, dI p.n.b, dI p.n.c, dI p.n.num, cellsD p.n.val, .sl 7 (p.kids.map Pt.row)]
theorem Pt.row_eq : ∀ p : Pt, p.row = p.rowP
  | .mk n kids => by simp only [Pt.row, Pt.rows_map]; rfl

mutual
def Pt.count : Pt → Nat
  | .mk _ kids => Pt.counts kids + 1
def Pt.counts : List Pt → Nat
  | [] => 0
  | p :: r => p.count + Pt.counts r
end
theorem Pt.counts_ge {l : List Pt} (p : Pt) (h : p ∈ l) : p.count ≤ Pt.counts l := by
  induction l with
  | nil => cases h
  | cons a r ih =>
    simp only [Pt.counts]
    rcases List.mem_cons.1 h with rfl | h
    · omega
    · have := ih h; omega

/-- A node that names these. -/
def Co.put (n : Co) (es : List Int) : Co := ⟨n.op, es.getD 0 n.a, es.getD 1 n.b, es.getD 2 n.c, n.num, n.val⟩

mutual
/-- The nodes of a part behind so many others. -/
def Pt.flat : Pt → Nat → List Co
  | .mk n kids, b => Pt.flats kids b ++ [n.put (Pt.ends kids b)]
def Pt.flats : List Pt → Nat → List Co
  | [], _ => []
  | p :: r, b => p.flat b ++ Pt.flats r (b + p.count)
def Pt.ends : List Pt → Nat → List Int
  | [], _ => []
  | p :: r, b => (((b + p.count : Nat) : Int) - 1) :: Pt.ends r (b + p.count)
end

end Go.Proofs.Ytmmjbpgdkokjgaa
