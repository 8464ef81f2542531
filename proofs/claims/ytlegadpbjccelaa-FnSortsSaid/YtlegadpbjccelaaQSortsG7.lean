/-
  Texts of this claim in one. Conditions: none.
-/
import Derived.Test.YtlegadpbjccelaaQSortsP1
import Derived.Test.YtlegadpbjccelaaQSortsG3
section
set_option linter.unusedVariables false
set_option linter.unusedSimpArgs false
set_option maxRecDepth 100000
namespace Go.Proofs.Ytlegadpbjccelaa
open Go.RowKit

/-! ### EndAt -/

/-- Where the value at a place ends. -/
def endM (cs : List Cell) (k : Nat) : Nat := match valA cs k with | some (_, b) => b | none => 0

set_option maxHeartbeats 1000000 in
theorem l1End_fn (cs : List Cell) (k : Nat) (hl : cs.length ≤ 200) (hk : k ≤ 200) (hs : ∃ p, valA cs k = some p) : Fun env.P 240 [cellsD cs, dI k] (.d (dI (endM cs k))) [] := by
  obtain ⟨⟨v, b⟩, hv⟩ := hs
  have hb := valA_le hv
  have hc := (l1Shape_fn cs hl (cs.length + 1) k 0 (by omega) (by omega) (by omega)).cast rfl (congrArg (fun x => T.tup (shapeRes x)) hv) rfl
  unfold endM
  rw [hv]
  refine Fun.intro Try.func240 rfl (by kernel_rfl) rfl ?_
  repeat' (first | refine W.seq ?_ | refine W.rg ?_ | refine W.dra' ?_ | refine W.block ?_ | refine W.skip ?_ | refine W.exit ?_ | refine W.cond_true' ?_ | refine W.cond_false' ?_ | refine WG.nil ?_ | refine WG.run' (E := env) ?_ | refine WG.gt' ?_ | refine WG.gf' ?_ | refine WG.ixm' (E := env) ?_ | refine WG.ixo' (E := env) ?_ | refine WG.legm' (E := env) ?_ | refine WG.slS' (E := env) ?_ | refine WG.slD' (E := env) ?_ | refine WG.ap' (E := env) ?_ | refine WD.nil ?_ | refine WD.bs' (E := env) ?_ | refine WD.s' (E := env) (t := .d _) ?_ | refine WD.p' ?_ | refine WD.px' ?_ | refine WD.s' (E := env) (t := .ea _ _) ?_ | refine WD.s' (E := env) (t := .lp _ _) ?_ | refine WD.s' (E := env) (t := .og _ _) ?_ | refine WD.s' (E := env) (t := .agg _) ?_ | refine WD.s' (E := env) (t := .tup _) ?_ | refine WD.s' (E := env) (t := .clo _ _) ?_ | refine WD.ixm' (E := env) ?_ | refine WD.ixo' (E := env) ?_ | refine WD.legm' (E := env) ?_ | refine WD.slS' (E := env) ?_ | refine WD.slD' (E := env) ?_ | refine WG.c (E := env) rfl rfl (hc) rfl rfl ?_ | refine WD.c (E := env) rfl rfl (hc) rfl rfl ?_ | refine WG.co (E := env) rfl rfl (hc) rfl rfl rfl rfl ?_ | refine WG.cx (E := env) rfl (hc) rfl ?_ | ((first | refine WG.sp' (fun h => ?_) fun h => ?_ | refine W.cond' (fun h => ?_) fun h => ?_ | refine WD.sp' (fun h => ?_) fun h => ?_) <;> (try simp only [decide_eq_true_eq, decide_eq_false_iff_not, Bool.not_eq_true', Bool.not_eq_false', Bool.and_eq_true, Bool.or_eq_true, Bool.and_eq_false_iff, Bool.or_eq_false_iff, Bool.not_eq_true, Bool.not_eq_false, Int.not_lt, Int.not_le, List.length_map, beq_self_eq_true, Bool.true_eq_false, Bool.false_eq_true] at h) <;> (try (exfalso; first | contradiction | omega))))
  (refine W.ret ?_; (first | refine RetQ.b' ?_ | refine RetQ.i' ?_ | refine RetQ.d' ?_ | refine RetQ.t2' ?_ ?_ | refine RetQ.t3' ?_ ?_ ?_))
  rfl

end Go.Proofs.Ytlegadpbjccelaa
end

section
set_option linter.unusedVariables false
set_option linter.unusedSimpArgs false
set_option maxRecDepth 100000
namespace Go.Proofs.Ytlegadpbjccelaa
open Go.RowKit

section
variable {E : Env} {N : Nm} {Q : Exit → St → Prop} {S : St} {ops l : List Oper} {ty : TypeId} {pos : String} {after : Array Edge} {gd : Option (Nat × Bool)} {d : Nat}

variable {tm : Nat → T} {ob : List Ob} {G : List Nat}
theorem WG.slQ {t e : TypeId} {x : Operand} {lo hi : Option Operand} {z : Nat} {rows rows' : List (List D)} {li hh : Int} (hw : St.want ⟨tm, ob⟩ ops ⟨some d, .slice t x lo hi none, ty, pos, after, gd⟩ = some true) (hd : Nat.blt d N.n = true)
    (ht : (E.ty t).kind = .slice e) (he : (E.ty e).known = true) (hz : (E.ty e).size = z) (hx : norm ob (St.ev ⟨tm, ob⟩ x) = .d (.sl z rows)) (hlo : evLow ⟨tm, ob⟩ lo = some li)
    (hhi : evBound ⟨tm, ob⟩ rows.length hi = some hh) (hb : 0 ≤ li ∧ li ≤ hh ∧ hh ≤ rows.length) (hq : (rows.drop li.toNat).take (hh.toNat - li.toNat) = rows')
    (kk : WG G E.P N ops l Q ⟨upd tm d (.d (.sl z rows')), ob⟩) : WG G E.P N ops (⟨some d, .slice t x lo hi none, ty, pos, after, gd⟩ :: l) Q ⟨tm, ob⟩ := by
  subst hq
  exact WG.slD hw hd ht he hz hx hlo hhi hb kk
end

/-- The cells of the part at a place. -/
def subC (cs : List Cell) (k : Nat) : List Cell := (cs.drop k).take (endM cs k - k)
def headC : List Cell → List Cell
  | [] => []
  | c :: r => { c with key := noS } :: r
theorem subC_cons {cs : List Cell} {k : Nat} (h : (valOfM cs).2 = 0) (hk : k < cs.length) : (k < endM cs k ∧ endM cs k ≤ cs.length) ∧ ∃ c r, subC cs k = c :: r := by
  obtain ⟨⟨v, b⟩, hv⟩ := valOfM_every h k hk
  have hb := valA_le hv
  have he : endM cs k = b := by unfold endM; rw [hv]
  rw [he]
  refine ⟨hb, ?_⟩
  cases hs : subC cs k with
  | nil =>
    have : (subC cs k).length = 0 := by rw [hs]; rfl
    rw [subC, he, List.length_take, List.length_drop] at this
    omega
  | cons c r => exact ⟨c, r, rfl⟩

set_option maxHeartbeats 1000000 in
theorem l1PartS_fn (cs : List Cell) (k : Nat) (hk : k < cs.length) (h0 : (valOfM cs).2 = 0) : Fun env.P 177 [cellsD cs, dI k] (.og 0 0) [.gr 5 91 ((headC (subC cs k)).map Cell.row) 0 false] := by
  have hl := (valOfM_kind h0).2.2.1
  obtain ⟨⟨hb1, hb2⟩, c, r, hs⟩ := subC_cons h0 hk
  have he := l1End_fn cs k hl (by omega) (valOfM_every h0 k hk)
  have hsl : ((cs.map Cell.row).drop (Int.toNat (k : Int))).take (Int.toNat (endM cs k : Int) - Int.toNat (k : Int)) = (c :: r).map Cell.row := by
    rw [← hs, subC, Int.toNat_natCast, Int.toNat_natCast, List.map_take, List.map_drop]
  have hcr : (c :: r).length ≤ 1048576 := by rw [← hs, subC, List.length_take, List.length_drop]; omega
  have hcr2 : r.length + 1 ≤ 1048576 := hcr
  rw [hs]
  generalize endM cs k = b at he hsl hb1 hb2
  obtain ⟨ck, cn, ct, cy, cnn⟩ := c
  refine Fun.intro Try.func177 rfl (by kernel_rfl) rfl ?_
  repeat' (first | refine WG.slQ (E := env) rfl rfl rfl rfl rfl rfl rfl rfl ⟨by omega, by omega, by rw [List.length_map]; omega⟩ hsl ?_ | refine WG.ixA (E := env) (A := []) rfl rfl rfl rfl rfl rfl rfl rfl rfl ?_ | refine WG.stA (E := env) (A := []) rfl rfl rfl rfl rfl rfl rfl rfl rfl ?_ | refine W.seq ?_ | refine W.rg ?_ | refine W.dra' ?_ | refine W.block ?_ | refine W.skip ?_ | refine W.exit ?_ | refine W.cond_true' ?_ | refine W.cond_false' ?_ | refine WG.nil ?_ | refine WG.run' (E := env) ?_ | refine WG.gt' ?_ | refine WG.gf' ?_ | refine WG.ixm' (E := env) ?_ | refine WG.ixo' (E := env) ?_ | refine WG.legm' (E := env) ?_ | refine WG.slS' (E := env) ?_ | refine WG.slD' (E := env) ?_ | refine WG.ap' (E := env) ?_ | refine WD.nil ?_ | refine WD.bs' (E := env) ?_ | refine WD.s' (E := env) (t := .d _) ?_ | refine WD.p' ?_ | refine WD.px' ?_ | refine WD.s' (E := env) (t := .ea _ _) ?_ | refine WD.s' (E := env) (t := .lp _ _) ?_ | refine WD.s' (E := env) (t := .og _ _) ?_ | refine WD.s' (E := env) (t := .agg _) ?_ | refine WD.s' (E := env) (t := .tup _) ?_ | refine WD.s' (E := env) (t := .clo _ _) ?_ | refine WD.ixm' (E := env) ?_ | refine WD.ixo' (E := env) ?_ | refine WD.legm' (E := env) ?_ | refine WD.slS' (E := env) ?_ | refine WD.slD' (E := env) ?_ | refine WG.c (E := env) rfl rfl (he) rfl rfl ?_ | refine WD.c (E := env) rfl rfl (he) rfl rfl ?_ | refine WG.co (E := env) rfl rfl (he) rfl rfl rfl rfl ?_ | refine WG.cx (E := env) rfl (he) rfl ?_ | ((first | refine WG.sp' (fun h => ?_) fun h => ?_ | refine W.cond' (fun h => ?_) fun h => ?_ | refine WD.sp' (fun h => ?_) fun h => ?_) <;> (try simp only [decide_eq_true_eq, decide_eq_false_iff_not, Bool.not_eq_true', Bool.not_eq_false', Bool.and_eq_true, Bool.or_eq_true, Bool.and_eq_false_iff, Bool.or_eq_false_iff, Bool.not_eq_true, Bool.not_eq_false, Int.not_lt, Int.not_le, List.length_map, beq_self_eq_true, Bool.true_eq_false, Bool.false_eq_true] at h) <;> (try (exfalso; first | contradiction | omega))))
  refine W.ret ?_
  exact RetQ.own (tt := .og 0 1) 0 1 (.inl rfl) rfl (by first | trivial | exact resOK_of (E := env) rfl) rfl rfl rfl rfl rfl

end Go.Proofs.Ytlegadpbjccelaa
end
