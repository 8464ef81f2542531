/-
  Texts of this claim in one. Conditions: none.
-/
import Derived.Test.YthaakpbdijhgiaaGreatDoorQTokensEnv
import Derived.Test.YthaakpbdijhgiaaGreatDoorQTokensV1
import Derived.Test.YthaakpbdijhgiaaGreatDoorQTokensPgD
import Derived.Test.YthaakpbdijhgiaaGreatDoorQTokensVal
section
set_option linter.unusedVariables false
set_option linter.unusedSimpArgs false
set_option maxRecDepth 100000
namespace Go.Proofs.YthaakpbdijhgiaaGreatDoor
open Go.RowKit

inductive V where
  | mk (kind num : Int) (text : ByteArray) (keys : List ByteArray) (kids : List V)
  deriving Inhabited

abbrev keyRow (k : ByteArray) : List D := [dS k]

mutual
def V.row : V → List D
  | .mk k n t ks kids => [dI k, dI n, dS t, .sl 1 (ks.map keyRow), .sl 5 (V.rows kids)]
def V.rows : List V → List (List D)
  | [] => []
  | v :: r => V.row v :: V.rows r
end

def V.zero : V := .mk 0 0 noS [] []

end Go.Proofs.YthaakpbdijhgiaaGreatDoor
end

section
set_option linter.unusedVariables false
set_option linter.unusedSimpArgs false
set_option maxRecDepth 100000
namespace Go.Proofs.YthaakpbdijhgiaaGreatDoor
open Go.RowKit

mutual
def V.depth : V → Int
  | .mk _ _ _ _ kids => V.depths kids + 1
def V.depths : List V → Int
  | [] => 0
  | v :: r => max (V.depth v) (V.depths r)
end

mutual
def V.count : V → Nat
  | .mk _ _ _ _ kids => V.counts kids + 1
def V.counts : List V → Nat
  | [] => 0
  | v :: r => V.count v + V.counts r
end

def V.kind : V → Int | .mk k _ _ _ _ => k
def V.num : V → Int | .mk _ n _ _ _ => n
def V.text : V → ByteArray | .mk _ _ t _ _ => t
def V.kids : V → List V | .mk _ _ _ _ kids => kids

end Go.Proofs.YthaakpbdijhgiaaGreatDoor
end

section
set_option linter.unusedVariables false
set_option linter.unusedSimpArgs false
set_option maxRecDepth 100000
namespace Go.Proofs.YthaakpbdijhgiaaGreatDoor
open Go.RowKit

structure Tk where
  kind : Int
  pos : Int
  num : Int
  text : ByteArray
  deriving Inhabited, DecidableEq

def Tk.row (n : Tk) : List D := [dI n.kind, dI n.pos, dI n.num, dS n.text]
abbrev toksD (ns : List Tk) : D := .sl 4 (ns.map Tk.row)

end Go.Proofs.YthaakpbdijhgiaaGreatDoor
end
