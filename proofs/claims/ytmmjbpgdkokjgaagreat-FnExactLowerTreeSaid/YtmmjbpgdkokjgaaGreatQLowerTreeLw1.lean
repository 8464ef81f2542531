/-
  Texts of this claim in one. Conditions: none.
-/
import Derived.Test.YtmmjbpgdkokjgaaGreatQLowerTreeTrC
import Derived.Test.YtmmjbpgdkokjgaaGreatQLowerTreePp1
section
set_option linter.unusedVariables false
set_option linter.unusedSimpArgs false
set_option maxRecDepth 100000
namespace Go.Proofs.YtmmjbpgdkokjgaaGreat
open Go.RowKit

theorem treeM_ok {ns : List Nd} (h : treeM ns = 0) : (1 ≤ ns.length ∧ ns.length ≤ 200) ∧ codeFrom (nodeCode ns) ns.length 0 = 0 ∧ full (nmT ns) (ns.length - 1) = List.range ns.length ∧ nestM (nmT ns) (ns.length - 1) ≤ 30 := by
  unfold treeM at h
  split at h
  · cases h
  rename_i h1
  have h1 := Classical.not_not.1 h1
  split at h
  · rename_i h2; exact absurd h h2
  rename_i h2
  split at h
  · cases h
  rename_i h3
  split at h
  · cases h
  rename_i h4
  refine ⟨h1, Classical.not_not.1 h2, ?_, by omega⟩
  have := begM_zero.1 (Classical.not_not.1 h3)
  rw [this, show ns.length - 1 + 1 = ns.length by omega]

noncomputable def scopeL (ns : List Nd) : List Nat := badM ns ns.length (ns.length - 1) []
noncomputable def scopeC (ns : List Nd) : Int := if treeM ns = 0 then (if 0 ≤ headI (scopeL ns) then 4 else 0) else treeM ns
noncomputable def scopeV (ns : List Nd) : Int := if treeM ns = 0 ∧ 0 ≤ headI (scopeL ns) then headI (scopeL ns) else 0

set_option maxHeartbeats 2000000 in
theorem ScopeFault_fn (ns : List Nd) (hf : fitsT ns) : Fun env.P 17 [nodesD ns] (.d (intP (scopeC ns) (scopeV ns))) [] := by
  have ht := TreeFault_fn ns hf.2 hf.1
  have hs := sizeN_fn ns
  unfold scopeC scopeV
  by_cases h0 : treeM ns = 0
  · obtain ⟨⟨h1, h2⟩, h3, h4, h5⟩ := treeM_ok h0
    have hc := unknown_fn ns (by omega) (nmOK_of h3) ns.length (ns.length - 1) [] (by omega) (by omega) (by simp; omega)
    rw [show ((ns.length - 1 : Nat) : Int) = ((ns.map Nd.row).length : Int) - 1 by simp; omega] at hc
    change Fun env.P _ [_, _, .sl 1 []] (.d (dI (headI (scopeL ns)))) [] at hc
    rw [if_pos h0]
    rw [h0] at ht ⊢
    simp only [true_and]
    generalize headI (scopeL ns) = c at hc ⊢
    refine Fun.intro Tryz.func17 rfl (by kernel_rfl) rfl ?_
    repeat' (first | refine W.seq ?_ | refine W.rg ?_ | refine W.skip ?_ | refine W.cond_false' ?_ | refine WG.nil ?_ | refine WG.run' (E := env) ?_ | refine WG.c (E := env) rfl rfl (ht) rfl rfl ?_ | refine WG.c (E := env) rfl rfl (hs) rfl rfl ?_ | refine WG.c (E := env) rfl rfl (hc) rfl rfl ?_ | ((refine W.cond' (fun h => ?_) fun h => ?_) <;> (try simp only [atS, List.length_map, beq_self_eq_true] at h) <;> (try (exfalso; first | contradiction | omega))))
    all_goals (refine W.ret ?_; (first | refine RetQ.d' ?_))
    · rw [if_pos (by omega), if_pos (by omega)]; rfl
    · rw [if_neg (by omega), if_neg (by omega)]; rfl
  · rw [if_neg h0, if_neg (fun h => h0 h.1)]
    generalize treeM ns = c at ht h0 ⊢
    refine Fun.intro Tryz.func17 rfl (by kernel_rfl) rfl ?_
    repeat' (first | refine W.seq ?_ | refine W.rg ?_ | refine W.skip ?_ | refine W.cond_false' ?_ | refine WG.nil ?_ | refine WG.run' (E := env) ?_ | refine WG.c (E := env) rfl rfl (ht) rfl rfl ?_ | refine WG.c (E := env) rfl rfl (hs) rfl rfl ?_ | ((refine W.cond' (fun h => ?_) fun h => ?_) <;> (try simp only [atS, List.length_map, beq_self_eq_true] at h) <;> (try (exfalso; first | contradiction | omega))))
    all_goals (refine W.ret ?_; (first | refine RetQ.d' ?_))
    all_goals rfl

set_option maxHeartbeats 2000000 in
theorem ScopeFaultS_fn (ns : List Nd) (hf : fitsT ns) : Fun env.P 14 [nodesD ns] (.d (intP (scopeC ns) (scopeV ns))) [] := by
  have ht := TreeFaultS_fn ns hf.2 hf.1
  unfold scopeC scopeV
  by_cases h0 : treeM ns = 0
  · obtain ⟨⟨h1, h2⟩, h3, h4, h5⟩ := treeM_ok h0
    have hc := l5Scope_fn ns (by omega) (nmOK_of h3) ns.length (ns.length - 1) [] [] (by omega) (by omega) (by simp; omega) (by rw [h4]; simp; omega)
    rw [show ((ns.length - 1 : Nat) : Int) = ((ns.map Nd.row).length : Int) - 1 by simp; omega, List.nil_append] at hc
    change FunQ env.P _ [_, _, .d (.sl 1 []), _] _ (just _ [_, .gr 1 _ (natRows (scopeL ns)) 0 false]) at hc
    rw [if_pos h0]
    rw [h0] at ht ⊢
    simp only [true_and]
    cases hsl : scopeL ns with
    | nil =>
      rw [hsl] at hc
      rw [if_neg (by simp [headI]), if_neg (by simp [headI])]
      refine Fun.intro Tryz.func14 rfl (by kernel_rfl) rfl ?_
      repeat' (first | refine W.seq ?_ | refine W.rg ?_ | refine W.skip ?_ | refine W.cond_false' ?_ | refine WG.nil ?_ | refine WG.run' (E := env) ?_ | refine WG.ixo' (E := env) ?_ | refine WG.legm' (E := env) ?_ | refine WG.cqN (E := env) (t' := .og 2 0) (ob2 := [.pv [.d (dI 0), .d (dI 0)], .dead, .gr 1 2 (natRows []) 0 false]) 3 2 1 [1] [0] rfl rfl hc rfl rfl rfl rfl rfl rfl rfl rfl ⟨rfl, trivial⟩ rfl rfl rfl ?_ | refine WG.c (E := env) rfl rfl (ht) rfl rfl ?_ | ((refine W.cond' (fun h => ?_) fun h => ?_) <;> (try simp only [atS, List.length_map, beq_self_eq_true] at h) <;> (try (exfalso; first | contradiction | omega))))
      all_goals first | (exfalso; simp [natRows, intsN] at *; omega) | skip
      all_goals (refine W.ret ?_; (first | refine RetQ.d' ?_))
      all_goals rfl
    | cons x r =>
      rw [hsl] at hc
      rw [if_pos (by simp [headI]), if_pos (by simp [headI])]
      refine Fun.intro Tryz.func14 rfl (by kernel_rfl) rfl ?_
      repeat' (first | refine W.seq ?_ | refine W.rg ?_ | refine W.skip ?_ | refine W.cond_false' ?_ | refine WG.nil ?_ | refine WG.run' (E := env) ?_ | refine WG.ixo' (E := env) ?_ | refine WG.legm' (E := env) ?_ | refine WG.cqN (E := env) (t' := .og 2 0) (ob2 := [.pv [.d (dI 0), .d (dI 0)], .dead, .gr 1 2 (natRows (x :: r)) 0 false]) 3 2 1 [1] [0] rfl rfl hc rfl rfl rfl rfl rfl rfl rfl rfl ⟨rfl, trivial⟩ rfl rfl rfl ?_ | refine WG.c (E := env) rfl rfl (ht) rfl rfl ?_ | ((refine W.cond' (fun h => ?_) fun h => ?_) <;> (try simp only [atS, List.length_map, beq_self_eq_true] at h) <;> (try (exfalso; first | contradiction | omega))))
      all_goals first | (exfalso; simp [natRows, intsN] at *; omega) | skip
      all_goals (refine W.ret ?_; (first | refine RetQ.d' ?_))
      all_goals rfl
  · rw [if_neg h0, if_neg (fun h => h0 h.1)]
    generalize treeM ns = c at ht h0 ⊢
    refine Fun.intro Tryz.func14 rfl (by kernel_rfl) rfl ?_
    repeat' (first | refine W.seq ?_ | refine W.rg ?_ | refine W.skip ?_ | refine W.cond_false' ?_ | refine WG.nil ?_ | refine WG.run' (E := env) ?_ | refine WG.ixo' (E := env) ?_ | refine WG.legm' (E := env) ?_ | refine WG.c (E := env) rfl rfl (ht) rfl rfl ?_ | ((refine W.cond' (fun h => ?_) fun h => ?_) <;> (try simp only [atS, List.length_map, beq_self_eq_true] at h) <;> (try (exfalso; first | contradiction | omega))))
    all_goals (refine W.ret ?_; (first | refine RetQ.d' ?_))
    all_goals rfl

end Go.Proofs.YtmmjbpgdkokjgaaGreat
end

section
set_option linter.unusedVariables false
set_option linter.unusedSimpArgs false
set_option maxRecDepth 100000
namespace Go.Proofs.YtmmjbpgdkokjgaaGreat
open Go.RowKit

def Pt.cv (cs : List Cell) : Pt := .mk ⟨2, 0, 0, 0, 0, cs⟩ []
def Pt.lf (op num : Int) : Pt := .mk ⟨op, 0, 0, 0, num, []⟩ []
def Pt.n1 (op : Int) (a : Pt) : Pt := .mk ⟨op, 0, 0, 0, 0, []⟩ [a]
def Pt.n2 (op num : Int) (val : List Cell) (a b : Pt) : Pt := .mk ⟨op, 0, 0, 0, num, val⟩ [a, b]
def Pt.n3 (op num : Int) (a b c : Pt) : Pt := .mk ⟨op, 0, 0, 0, num, []⟩ [a, b, c]
abbrev cellK (kind : Int) : List Cell := [⟨kind, 0, noS, noS, 0⟩]
abbrev cellN (num : Int) : List Cell := [⟨3, num, noS, noS, 0⟩]
abbrev cellT (text : ByteArray) : List Cell := [⟨4, 0, text, noS, 0⟩]

/-- The slot of a variable: the last place of its name. -/
def slotL (t : ByteArray) (names : List ByteArray) : Nat → Int
  | 0 => 0
  | i + 1 => if names.getD i default = t then (i : Int) else slotL t names i
def slotM (names : List ByteArray) (t : ByteArray) : Int := slotL t names names.length

abbrev lenS : ByteArray := ⟨#[108, 101, 110, 103, 116, 104]⟩
abbrev keysS : ByteArray := ⟨#[107, 101, 121, 115]⟩
abbrev notS : ByteArray := ⟨#[110, 111, 116]⟩
abbrev emptyS : ByteArray := ⟨#[101, 109, 112, 116, 121]⟩
abbrev errorS : ByteArray := ⟨#[101, 114, 114, 111, 114]⟩
abbrev typeS : ByteArray := ⟨#[116, 121, 112, 101]⟩
abbrev sortS : ByteArray := ⟨#[115, 111, 114, 116]⟩
abbrev addS : ByteArray := ⟨#[97, 100, 100]⟩
abbrev mapS : ByteArray := ⟨#[109, 97, 112]⟩
abbrev selectS : ByteArray := ⟨#[115, 101, 108, 101, 99, 116]⟩
def doM (t : ByteArray) : Int := if t = lenS then 1 else if t = keysS then 2 else if t = typeS then 3 else if t = sortS then 4 else if t = addS then 5 else 8
def truP (b : Bool) : Pt := .cv (cellK (if b then 2 else 1))
def callP (t : ByteArray) : Pt := if t = notS then .n3 12 0 (.lf 1 0) (truP false) (truP true) else if t = emptyS then .lf 17 0 else .lf 16 (doM t)
def oneP (t : ByteArray) (A : Pt) : Pt := if t = selectS then .n3 12 0 A (.lf 1 0) (.lf 17 0) else if t = mapS then .n1 10 (.n2 3 0 [] (.n1 8 (.lf 1 0)) A) else .n2 3 0 [] A (.n1 8 (.lf 16 6))

/-- The kind of nodes of a core that one of a tree becomes, 0 if it becomes more. -/
def plainM (op : Int) : Int := if op = 1 then 1 else if op = 5 then 3 else if op = 6 then 4 else if op = 7 then 5 else if op = 10 then 6 else if op = 11 then 7 else if op = 12 then 8 else if op = 13 then 9 else if op = 14 then 10
  else if op = 17 then 11 else if op = 18 then 12 else if op = 19 then 13 else if op = 20 then 14 else if op = 21 then 15 else 0

/-- A node of a core for one of a tree, but for what it names. -/
def plainN (n : Nd) (names : List ByteArray) : Co := ⟨plainM n.op, 0, 0, 0, if n.op = 10 then n.num else if n.op = 19 ∨ n.op = 20 then names.length else if n.op = 21 then slotM names n.text else 0, if n.op = 17 then cellT n.text else []⟩

def lowB (n : Nd) (names : List ByteArray) (A B C : Pt) : Pt :=
  if 0 < plainM n.op then .mk (plainN n names) ([A, B, C].take (arN n.op))
  else if n.op = 2 then .cv (cellN n.num)
  else if n.op = 3 then .cv (cellT n.text)
  else if n.op = 4 then .cv (cellK n.num)
  else if n.op = 15 then .cv (cellK 5)
  else if n.op = 16 then .cv (cellK 6)
  else if n.op = 24 then .n1 8 (.lf 16 7)
  else if n.op = 8 then .n3 12 0 A (truP true) (.n3 12 0 B (truP true) (truP false))
  else if n.op = 9 then .n3 12 0 A (.n3 12 0 B (truP true) (truP false)) (truP false)
  else if n.op = 23 then oneP n.text A
  else callP n.text

def lowP (ns : List Nd) : Nat → Nat → List ByteArray → Pt
  | 0, _, _ => default
  | f + 1, k, names => lowB (ns.getD k default) names (lowP ns f (ns.getD k default).a.toNat (inT (ns.getD k default) 0 names)) (lowP ns f (ns.getD k default).b.toNat (inT (ns.getD k default) 1 names)) (lowP ns f (ns.getD k default).c.toNat (inT (ns.getD k default) 2 names))

theorem Pt.counts3 (A B C : Pt) {r : Nat} (h : r ≤ 3) : Pt.counts ([A, B, C].take r) = (if 1 ≤ r then A.count else 0) + (if 2 ≤ r then B.count else 0) + (if 3 ≤ r then C.count else 0) := by
  have : r = 0 ∨ r = 1 ∨ r = 2 ∨ r = 3 := by omega
  rcases this with rfl | rfl | rfl | rfl <;> simp [Pt.counts] <;> omega

/-- A node becomes no more than five more. -/
theorem lowB_count (n : Nd) (names : List ByteArray) (A B C : Pt) (h1 : 1 ≤ n.op) (h2 : n.op ≤ 24) : (lowB n names A B C).count ≤ (if 1 ≤ arN n.op then A.count else 0) + (if 2 ≤ arN n.op then B.count else 0) + (if 3 ≤ arN n.op then C.count else 0) + 5 := by
  have h3 := Pt.counts3 A B C (arN_le n.op)
  unfold lowB
  by_cases hp : 0 < plainM n.op
  · rw [if_pos hp]; simp only [Pt.count]; omega
  rw [if_neg hp]
  by_cases e2 : n.op = 2
  · rw [if_pos e2]; simp only [Pt.cv, Pt.count, Pt.counts]; omega
  rw [if_neg e2]
  by_cases e3 : n.op = 3
  · rw [if_pos e3]; simp only [Pt.cv, Pt.count, Pt.counts]; omega
  rw [if_neg e3]
  by_cases e4 : n.op = 4
  · rw [if_pos e4]; simp only [Pt.cv, Pt.count, Pt.counts]; omega
  rw [if_neg e4]
  by_cases e15 : n.op = 15
  · rw [if_pos e15]; simp only [Pt.cv, Pt.count, Pt.counts]; omega
  rw [if_neg e15]
  by_cases e16 : n.op = 16
  · rw [if_pos e16]; simp only [Pt.cv, Pt.count, Pt.counts]; omega
  rw [if_neg e16]
  by_cases e24 : n.op = 24
  · rw [if_pos e24]; simp only [Pt.n1, Pt.lf, Pt.count, Pt.counts]; omega
  rw [if_neg e24]
  by_cases e8 : n.op = 8
  · rw [if_pos e8, e8]
    have h : arN 8 = 2 := rfl
    rw [h]; simp only [Pt.n3, truP, Pt.cv, Pt.count, Pt.counts]; simp; omega
  rw [if_neg e8]
  by_cases e9 : n.op = 9
  · rw [if_pos e9, e9]
    have h : arN 9 = 2 := rfl
    rw [h]; simp only [Pt.n3, truP, Pt.cv, Pt.count, Pt.counts]; simp; omega
  rw [if_neg e9]
  by_cases e23 : n.op = 23
  · rw [if_pos e23, e23]
    have h : arN 23 = 1 := rfl
    rw [h]
    simp only [show (1 : Nat) ≤ 1 from Nat.le_refl _, if_true, show ¬ (2 : Nat) ≤ 1 by decide, show ¬ (3 : Nat) ≤ 1 by decide, if_false]
    unfold oneP
    split
    · simp only [Pt.n3, Pt.lf, Pt.count, Pt.counts]; omega
    split <;> simp only [Pt.n1, Pt.n2, Pt.lf, Pt.count, Pt.counts] <;> omega
  rw [if_neg e23]
  have hc : (callP n.text).count ≤ 5 := by
    unfold callP
    split
    · simp only [Pt.n3, Pt.lf, truP, Pt.cv, Pt.count, Pt.counts]; omega
    split <;> simp only [Pt.lf, Pt.count, Pt.counts] <;> omega
  omega

end Go.Proofs.YtmmjbpgdkokjgaaGreat
end
