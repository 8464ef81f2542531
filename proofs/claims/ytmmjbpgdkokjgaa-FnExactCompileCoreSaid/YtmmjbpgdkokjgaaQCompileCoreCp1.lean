/-
  What instructions a core becomes; no program in sight. Conditions: none.
-/
import Derived.Test.YtmmjbpgdkokjgaaQCompileCorePgG
set_option linter.unusedVariables false
set_option linter.unusedSimpArgs false
set_option maxRecDepth 100000
namespace Go.Proofs.Ytmmjbpgdkokjgaa
open Go.RowKit

structure Ins where
  op : Int
  arg : Int
  val : List Cell
  deriving Inhabited
def Ins.row (x : Ins) : List D := [dI x.op, dI x.arg, cellsD x.val]

/-- What was made so far: instructions, registers. -/
structure Cst where
  L : List Ins
  many : Int

def Cst.put (s : Cst) (op arg : Int) : Cst := ⟨s.L ++ [⟨op, arg, []⟩], s.many⟩
def Cst.val (s : Cst) (op : Int) (v : List Cell) : Cst := ⟨s.L ++ [⟨op, 0, v⟩], s.many⟩
def Cst.here (s : Cst) (i : Nat) : Cst := ⟨s.L.set i { s.L.getD i default with arg := s.L.length }, s.many⟩
def Cst.reg (s : Cst) : Cst := ⟨s.L, s.many + 1⟩
theorem Cst.put_len (s : Cst) (op arg : Int) : (s.put op arg).L.length = s.L.length + 1 := by simp [Cst.put]
theorem Cst.val_len (s : Cst) (op : Int) (v : List Cell) : (s.val op v).L.length = s.L.length + 1 := by simp [Cst.val]
theorem Cst.here_len (s : Cst) (i : Nat) : (s.here i).L.length = s.L.length := by simp [Cst.here]
theorem Cst.reg_len (s : Cst) : s.reg.L.length = s.L.length := rfl
theorem Cst.put_many (s : Cst) (op arg : Int) : (s.put op arg).many = s.many := rfl
theorem Cst.reg_many (s : Cst) : s.reg.many = s.many + 1 := rfl

abbrev arrV0 : List Cell := [⟨5, 0, noS, noS, 0⟩]
abbrev nulV0 : List Cell := [⟨0, 0, noS, noS, 0⟩]
abbrev falV0 : List Cell := [⟨1, 0, noS, noS, 0⟩]
abbrev truV0 : List Cell := [⟨2, 0, noS, noS, 0⟩]

section
variable (go : Int → List Int → Cst → Cst) (n : Co) (regs : List Int) (s : Cst)
def cBoth (a b : Int) : Cst := go b regs ((go a regs (s.put 1 0)).put 4 0)
def cChoice3 (s1 s2 : Cst) : Cst := (go n.c regs ((s2.put 10 0).here s1.L.length)).here s2.L.length
def cChoice2 (s1 : Cst) : Cst := cChoice3 go n regs s1 (go n.b regs (s1.put 11 0))
def cChoice : Cst := cChoice2 go n regs (go n.a regs (s.put 1 0))
def cComma2 (s1 : Cst) : Cst := (go n.b regs ((s1.put 10 0).here s.L.length)).here s1.L.length
def cComma : Cst := cComma2 go n regs s (go n.a regs (s.put 12 0))
def cTry : Cst := (go n.a regs (s.put 13 0)).here s.L.length
def cList2 (s1 : Cst) (r : Int) : Cst := (((((go n.a regs (s1.put 12 0)).put 18 r).put 15 0).here s1.L.length).put 2 0).put 17 r
def cList : Cst := cList2 go n regs ((s.reg.val 3 arrV0).put 16 s.many) s.many
def cRed3 (s1 s3 : Cst) (t : Int) : Cst := ((s3.here s1.L.length).put 2 0).put 17 t
def cRed2 (s1 : Cst) (t r : Int) : Cst := cRed3 s1 (((go n.c (regs.set n.num.toNat r) (((((go n.a regs (s1.put 12 0)).put 16 r).put 17 t).val 3 nulV0).put 16 t)).put 16 t).put 15 0) t
def cRed : Cst := cRed2 go n regs ((go n.b regs (s.reg.reg.put 1 0)).put 16 s.many) s.many s.reg.many
def cAlt5 (s3 s5 : Cst) : Cst := (go n.b regs (((s5.put 11 0).put 15 0).here s5.L.length)).here s3.L.length
def cAlt3 (s1 s2 s3 : Cst) (f : Int) : Cst := cAlt5 go n regs s3 (((((s3.put 10 0).here s2.L.length).put 15 0).here s1.L.length).put 17 f)
def cAlt2 (s1 s2 : Cst) (f : Int) : Cst := cAlt3 go n regs s1 s2 (((s2.put 11 0).val 3 truV0).put 16 f) f
def cAlt1 (s1 : Cst) (f : Int) : Cst := cAlt2 go n regs s1 ((go n.a regs (s1.put 14 0)).put 1 0) f
def cAlt : Cst := cAlt1 go n regs ((s.reg.val 3 falV0).put 16 s.many) s.many
def cAs : Cst := go n.b (regs.set n.num.toNat s.many) ((go n.a regs (s.reg.put 1 0)).put 16 s.many)

def cNode : Cst :=
  if n.op = 2 then (s.put 2 0).val 3 n.val
  else if n.op = 17 then s.put 15 0
  else if n.op = 15 then (s.put 2 0).put 17 (regs.getD n.num.toNat default)
  else if n.op = 16 then s.put 8 n.num
  else if n.op = 3 then go n.b regs (go n.a regs s)
  else if n.op = 4 then cComma go n regs s
  else if n.op = 6 then (cBoth go regs s n.b n.a).put 5 n.num
  else if n.op = 7 then (cBoth go regs s n.a n.b).put 6 0
  else if n.op = 11 then (cBoth go regs s n.a n.b).val 9 n.val
  else if n.op = 8 then (go n.a regs s).put 7 0
  else if n.op = 9 then cTry go n regs s
  else if n.op = 10 then cList go n regs s
  else if n.op = 12 then cChoice go n regs s
  else if n.op = 14 then cAs go n regs s
  else if n.op = 13 then cRed go n regs s
  else if n.op = 5 then cAlt go n regs s
  else s
end

def cmpM (cs : List Co) : Nat → Nat → List Int → Cst → Cst
  | 0, _, _, s => s
  | f + 1, k, regs, s => cNode (fun j r s => cmpM cs f j.toNat r s) (cs.getD k default) regs s

end Go.Proofs.Ytmmjbpgdkokjgaa
