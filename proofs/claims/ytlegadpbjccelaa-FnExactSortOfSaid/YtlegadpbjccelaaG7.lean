/-
  The law of PartAt. Conditions: none.
-/
import Derived.Test.YtlegadpbjccelaaG3
import Derived.Test.YtlegadpbjccelaaD1
set_option linter.unusedVariables false
set_option linter.unusedSimpArgs false
set_option maxRecDepth 100000
namespace Go.Proofs.Ytlegadpbjccelaa
open Go.RowKit

section
variable {E : Env} {N : Nm} {Q : Exit → St → Prop} {S : St} {ops l : List Oper} {ty : TypeId} {pos : String} {after : Array Edge} {gd : Option (Nat × Bool)} {d : Nat}

/-- a slice that holds something is not nil -/
theorem WL.nilne {t e : TypeId} {rt : TypeId} {x : Operand} {z : Nat} {r : List D} {rs : List (List D)} (hw : S.want ops ⟨some d, .binOp .eql t x (.const (.slice none 0 0)) rt, ty, pos, after, gd⟩ = some true) (hd : Nat.blt d N.n = true)
    (ht : (E.ty t).kind = .slice e) (hx : S.ev x = .d (.sl z (r :: rs)))
    (k : WL E.P N ops l Q (S.set d (.d (.v (.bool false))))) : WL E.P N ops (⟨some d, .binOp .eql t x (.const (.slice none 0 0)) rt, ty, pos, after, gd⟩ :: l) Q S :=
  WL.val hw hd (fun w0 σ0 a w g R => by
    have hv := R.ev x
    rw [hx] at hv
    have hv2 := hv.inv_d
    generalize hu : a.eval x = u at hv2
    cases hv2 with
    | sl _ _ b off cap U hcap hm hz hc hr =>
      refine ⟨.bool false, ?_, .d _ _ (.v _)⟩
      have h1 := Lib.run_eql_slice_nil (P := E.P) w t e (some ⟨b, off, none⟩) (r :: rs).length cap 0 0 (E.slice ht)
      have h2 : a.eval (.const (.slice none 0 0)) = .slice none 0 0 := rfl
      have h3 : eqGuard .eql t x (.const (.slice none 0 0)) (.slice (some ⟨b, off, none⟩) (r :: rs).length cap) (.slice none 0 0) = pure () := by simp [eqGuard]
      generalize (r :: rs).length = n at h1 h3 hu
      simp only [execOp, hu, h2, h3]
      simp [h1]) k

variable {tm : Nat → T} {ob : List Ob} {G : List Nat}
theorem WG.nilne {t e : TypeId} {rt : TypeId} {x : Operand} {z : Nat} {r : List D} {rs : List (List D)} (hw : St.want ⟨tm, ob⟩ ops ⟨some d, .binOp .eql t x (.const (.slice none 0 0)) rt, ty, pos, after, gd⟩ = some true) (hd : Nat.blt d N.n = true)
    (ht : (E.ty t).kind = .slice e) (hx : St.ev ⟨tm, ob⟩ x = .d (.sl z (r :: rs)))
    (k : WG G E.P N ops l Q ⟨upd tm d (.d (.v (.bool false))), ob⟩) : WG G E.P N ops (⟨some d, .binOp .eql t x (.const (.slice none 0 0)) rt, ty, pos, after, gd⟩ :: l) Q ⟨tm, ob⟩ := WL.nilne (S := ⟨tm, ob⟩) hw hd ht hx k

theorem WG.slQ {t e : TypeId} {x : Operand} {lo hi : Option Operand} {z : Nat} {rows rows' : List (List D)} {li hh : Int} (hw : St.want ⟨tm, ob⟩ ops ⟨some d, .slice t x lo hi none, ty, pos, after, gd⟩ = some true) (hd : Nat.blt d N.n = true)
    (ht : (E.ty t).kind = .slice e) (he : (E.ty e).known = true) (hz : (E.ty e).size = z) (hx : norm ob (St.ev ⟨tm, ob⟩ x) = .d (.sl z rows)) (hlo : evLow ⟨tm, ob⟩ lo = some li)
    (hhi : evBound ⟨tm, ob⟩ rows.length hi = some hh) (hb : 0 ≤ li ∧ li ≤ hh ∧ hh ≤ rows.length) (hq : (rows.drop li.toNat).take (hh.toNat - li.toNat) = rows')
    (kk : WG G E.P N ops l Q ⟨upd tm d (.d (.sl z rows')), ob⟩) : WG G E.P N ops (⟨some d, .slice t x lo hi none, ty, pos, after, gd⟩ :: l) Q ⟨tm, ob⟩ := by
  subst hq
  exact WG.slD hw hd ht he hz hx hlo hhi hb kk
end

theorem cloneS_fn (c : Cell) (r : List Cell) (hl : (c :: r).length ≤ 1048576) : Fun env.P 143 [cellsD (c :: r)] (.og 0 0) [.gr 5 91 ((c :: r).map Cell.row) 0 false] := by
  have hl3 : r.length + 1 ≤ 1048576 := hl
  have hl2 : ((c :: r).map Cell.row).length ≤ 1048576 := by rw [List.length_map]; exact hl
  refine Fun.intro Try.func143 rfl (by kernel_rfl) rfl ?_
  repeat' (first | refine WG.nilne (E := env) rfl rfl rfl rfl ?_ | refine W.seq ?_ | refine W.rg ?_ | refine W.dra' ?_ | refine W.block ?_ | refine W.skip ?_ | refine W.exit ?_ | refine W.cond_true' ?_ | refine W.cond_false' ?_ | refine WG.nil ?_ | refine WG.run' (E := env) ?_ | refine WG.gt' ?_ | refine WG.gf' ?_ | refine WG.ixm' (E := env) ?_ | refine WG.ixo' (E := env) ?_ | refine WG.legm' (E := env) ?_ | refine WG.slS' (E := env) ?_ | refine WG.slD' (E := env) ?_ | refine WG.ap' (E := env) ?_ | refine WD.nil ?_ | refine WD.bs' (E := env) ?_ | refine WD.s' (E := env) (t := .d _) ?_ | refine WD.p' ?_ | refine WD.px' ?_ | refine WD.s' (E := env) (t := .ea _ _) ?_ | refine WD.s' (E := env) (t := .lp _ _) ?_ | refine WD.s' (E := env) (t := .og _ _) ?_ | refine WD.s' (E := env) (t := .agg _) ?_ | refine WD.s' (E := env) (t := .tup _) ?_ | refine WD.s' (E := env) (t := .clo _ _) ?_ | refine WD.ixm' (E := env) ?_ | refine WD.ixo' (E := env) ?_ | refine WD.legm' (E := env) ?_ | refine WD.slS' (E := env) ?_ | refine WD.slD' (E := env) ?_ | fail | ((first | refine WG.sp' (fun h => ?_) fun h => ?_ | refine W.cond' (fun h => ?_) fun h => ?_ | refine WD.sp' (fun h => ?_) fun h => ?_) <;> (try simp only [decide_eq_true_eq, decide_eq_false_iff_not, Bool.not_eq_true', Bool.not_eq_false', Bool.and_eq_true, Bool.or_eq_true, Bool.and_eq_false_iff, Bool.or_eq_false_iff, Bool.not_eq_true, Bool.not_eq_false, Int.not_lt, Int.not_le, List.length_map, beq_self_eq_true, Bool.true_eq_false, Bool.false_eq_true] at h) <;> (try (exfalso; first | contradiction | omega))))
  refine W.ret ?_
  exact RetQ.own (tt := .og 0 1) 0 1 (.inl rfl) rfl (by first | trivial | exact resOK_of (E := env) rfl) rfl rfl rfl rfl rfl

/-- The cells of the part at a place. -/
def subC (cs : List Cell) (k : Nat) : List Cell := (cs.drop k).take (endM cs k - k)
def headC : List Cell → List Cell
  | [] => []
  | c :: r => { c with key := noS } :: r
def partCode (cs : List Cell) (i : Int) : Int := placeM cs i
def partCells (cs : List Cell) (i : Int) : List Cell := if placeM cs i = 0 then headC (subC cs i.toNat) else []

theorem partCells_len (cs : List Cell) (i : Int) (hl : cs.length ≤ 1048576) : (partCells cs i).length ≤ 1048576 := by
  have h : ∀ l : List Cell, (headC l).length = l.length := fun l => by cases l <;> rfl
  unfold partCells
  split
  · rw [h, subC, List.length_take, List.length_drop]; omega
  · simp

theorem subC_cons {cs : List Cell} {k : Nat} (h : (valOfM cs).2 = 0) (hk : k < cs.length) : (k < endM cs k ∧ endM cs k ≤ cs.length) ∧ ∃ c r, subC cs k = c :: r := by
  obtain ⟨⟨v, b⟩, hv⟩ := valOfM_every h k hk
  have hb := valA_le hv
  have he : endM cs k = b := by unfold endM; rw [hv]
  rw [he]
  refine ⟨hb, ?_⟩
  cases hs : subC cs k with
  | nil =>
    have : (subC cs k).length = 0 := by rw [hs]; rfl
    rw [subC, he, List.length_take, List.length_drop] at this
    omega
  | cons c r => exact ⟨c, r, rfl⟩

set_option maxHeartbeats 1000000 in
theorem PartAt_fn (cs : List Cell) (i : Int) (hf : fitC cs) : Fun env.P 74 [cellsD cs, dI i] (.agg [vI .i64 (partCode cs i), .og 0 0]) [.gr 5 91 ((partCells cs i).map Cell.row) 0 false] := by
  have hp := placeFault_fn cs i hf
  have hl := hf.2
  unfold partCode partCells
  by_cases h0 : placeM cs i = 0
  · obtain ⟨g1, g2, g3⟩ := placeM_ok h0
    obtain ⟨k, rfl⟩ : ∃ k : Nat, i = k := ⟨i.toNat, by omega⟩
    obtain ⟨⟨hb1, hb2⟩, c, r, hs⟩ := subC_cons g1 (show k < cs.length by omega)
    have he := endAt_fn cs k hl (by omega)
    have hsl : ((cs.map Cell.row).drop (Int.toNat (k : Int))).take (Int.toNat (endM cs k : Int) - Int.toNat (k : Int)) = (c :: r).map Cell.row := by
      rw [← hs, subC, Int.toNat_natCast, Int.toNat_natCast, List.map_take, List.map_drop]
    have hcr : (c :: r).length ≤ 1048576 := by rw [← hs, subC, List.length_take, List.length_drop]; omega
    have hcl := cloneS_fn c r hcr
    rw [h0] at hp
    rw [if_pos h0, h0, Int.toNat_natCast, hs]
    generalize endM cs k = b at he hsl hb1 hb2
    obtain ⟨ck, cn, ct, cy, cnn⟩ := c
    refine Fun.intro Try.func74 rfl (by kernel_rfl) rfl ?_
    repeat' (first | refine WG.slQ (E := env) rfl rfl rfl rfl rfl rfl rfl rfl ⟨by omega, by omega, by rw [List.length_map]; omega⟩ hsl ?_ | refine WG.co (E := env) (K := 1) (t' := .og 1 0) (ob2 := [.gr 5 91 ((⟨ck, cn, ct, cy, cnn⟩ :: r : List Cell).map Cell.row) 0 false]) rfl rfl (hcl) rfl rfl rfl rfl ?_ | refine WG.ixA (E := env) (A := []) rfl rfl rfl rfl rfl rfl rfl rfl rfl ?_ | refine WG.stA (E := env) (A := []) rfl rfl rfl rfl rfl rfl rfl rfl rfl ?_ | refine W.seq ?_ | refine W.rg ?_ | refine W.dra' ?_ | refine W.block ?_ | refine W.skip ?_ | refine W.exit ?_ | refine W.cond_true' ?_ | refine W.cond_false' ?_ | refine WG.nil ?_ | refine WG.run' (E := env) ?_ | refine WG.gt' ?_ | refine WG.gf' ?_ | refine WG.ixm' (E := env) ?_ | refine WG.ixo' (E := env) ?_ | refine WG.legm' (E := env) ?_ | refine WG.slS' (E := env) ?_ | refine WG.slD' (E := env) ?_ | refine WG.ap' (E := env) ?_ | refine WD.nil ?_ | refine WD.bs' (E := env) ?_ | refine WD.s' (E := env) (t := .d _) ?_ | refine WD.p' ?_ | refine WD.px' ?_ | refine WD.s' (E := env) (t := .ea _ _) ?_ | refine WD.s' (E := env) (t := .lp _ _) ?_ | refine WD.s' (E := env) (t := .og _ _) ?_ | refine WD.s' (E := env) (t := .agg _) ?_ | refine WD.s' (E := env) (t := .tup _) ?_ | refine WD.s' (E := env) (t := .clo _ _) ?_ | refine WD.ixm' (E := env) ?_ | refine WD.ixo' (E := env) ?_ | refine WD.legm' (E := env) ?_ | refine WD.slS' (E := env) ?_ | refine WD.slD' (E := env) ?_ | refine WG.c (E := env) rfl rfl (hp) rfl rfl ?_ | refine WD.c (E := env) rfl rfl (hp) rfl rfl ?_ | refine WG.co (E := env) rfl rfl (hp) rfl rfl rfl rfl ?_ | refine WG.cx (E := env) rfl (hp) rfl ?_ | refine WG.c (E := env) rfl rfl (he) rfl rfl ?_ | refine WD.c (E := env) rfl rfl (he) rfl rfl ?_ | refine WG.co (E := env) rfl rfl (he) rfl rfl rfl rfl ?_ | refine WG.cx (E := env) rfl (he) rfl ?_ | ((first | refine WG.sp' (fun h => ?_) fun h => ?_ | refine W.cond' (fun h => ?_) fun h => ?_ | refine WD.sp' (fun h => ?_) fun h => ?_) <;> (try simp only [decide_eq_true_eq, decide_eq_false_iff_not, Bool.not_eq_true', Bool.not_eq_false', Bool.and_eq_true, Bool.or_eq_true, Bool.and_eq_false_iff, Bool.or_eq_false_iff, Bool.not_eq_true, Bool.not_eq_false, Int.not_lt, Int.not_le, List.length_map, beq_self_eq_true, Bool.true_eq_false, Bool.false_eq_true] at h) <;> (try (exfalso; first | contradiction | omega))))
    all_goals try contradiction
    refine W.ret ?_
    exact RetR.own (ob' := [.gr 5 91 ((⟨ck, cn, ct, noS, cnn⟩ :: r : List Cell).map Cell.row) 0 false]) ⟨[1], [0], 2⟩ (.inl rfl) rfl (by first | trivial | exact resOK_of (E := env) rfl) rfl rfl rfl rfl rfl rfl ⟨rfl, trivial⟩ rfl ⟨rfl, rfl⟩
  · rw [if_neg h0]
    generalize placeM cs i = code at h0 hp ⊢
    refine Fun.intro Try.func74 rfl (by kernel_rfl) rfl ?_
    repeat' (first | refine W.seq ?_ | refine W.rg ?_ | refine W.dra' ?_ | refine W.block ?_ | refine W.skip ?_ | refine W.exit ?_ | refine W.cond_true' ?_ | refine W.cond_false' ?_ | refine WG.nil ?_ | refine WG.run' (E := env) ?_ | refine WG.gt' ?_ | refine WG.gf' ?_ | refine WG.ixm' (E := env) ?_ | refine WG.ixo' (E := env) ?_ | refine WG.legm' (E := env) ?_ | refine WG.slS' (E := env) ?_ | refine WG.slD' (E := env) ?_ | refine WG.ap' (E := env) ?_ | refine WD.nil ?_ | refine WD.bs' (E := env) ?_ | refine WD.s' (E := env) (t := .d _) ?_ | refine WD.p' ?_ | refine WD.px' ?_ | refine WD.s' (E := env) (t := .ea _ _) ?_ | refine WD.s' (E := env) (t := .lp _ _) ?_ | refine WD.s' (E := env) (t := .og _ _) ?_ | refine WD.s' (E := env) (t := .agg _) ?_ | refine WD.s' (E := env) (t := .tup _) ?_ | refine WD.s' (E := env) (t := .clo _ _) ?_ | refine WD.ixm' (E := env) ?_ | refine WD.ixo' (E := env) ?_ | refine WD.legm' (E := env) ?_ | refine WD.slS' (E := env) ?_ | refine WD.slD' (E := env) ?_ | refine WG.c (E := env) rfl rfl (hp) rfl rfl ?_ | refine WD.c (E := env) rfl rfl (hp) rfl rfl ?_ | refine WG.co (E := env) rfl rfl (hp) rfl rfl rfl rfl ?_ | refine WG.cx (E := env) rfl (hp) rfl ?_ | ((first | refine WG.sp' (fun h => ?_) fun h => ?_ | refine W.cond' (fun h => ?_) fun h => ?_ | refine WD.sp' (fun h => ?_) fun h => ?_) <;> (try simp only [decide_eq_true_eq, decide_eq_false_iff_not, Bool.not_eq_true', Bool.not_eq_false', Bool.and_eq_true, Bool.or_eq_true, Bool.and_eq_false_iff, Bool.or_eq_false_iff, Bool.not_eq_true, Bool.not_eq_false, Int.not_lt, Int.not_le, List.length_map, beq_self_eq_true, Bool.true_eq_false, Bool.false_eq_true] at h) <;> (try (exfalso; first | contradiction | omega))))
    · refine W.adoptPv 0 1 91 rfl rfl ?_
      refine W.ret ?_
      exact RetR.own (ob' := [.gr 5 91 (([] : List Cell).map Cell.row) 0 false]) ⟨[1], [0], 2⟩ (.inl rfl) rfl (by first | trivial | exact resOK_of (E := env) rfl) rfl rfl rfl rfl rfl rfl ⟨rfl, trivial⟩ rfl ⟨rfl, rfl⟩
    all_goals exact absurd (by assumption) h0

set_option maxHeartbeats 1000000 in
theorem l1PartS_fn (cs : List Cell) (k : Nat) (hk : k < cs.length) (h0 : (valOfM cs).2 = 0) : Fun env.P 177 [cellsD cs, dI k] (.og 0 0) [.gr 5 91 ((headC (subC cs k)).map Cell.row) 0 false] := by
  have hl := (valOfM_kind h0).2.2.1
  obtain ⟨⟨hb1, hb2⟩, c, r, hs⟩ := subC_cons h0 hk
  have he := l1End_fn cs k hl (by omega) (valOfM_every h0 k hk)
  have hsl : ((cs.map Cell.row).drop (Int.toNat (k : Int))).take (Int.toNat (endM cs k : Int) - Int.toNat (k : Int)) = (c :: r).map Cell.row := by
    rw [← hs, subC, Int.toNat_natCast, Int.toNat_natCast, List.map_take, List.map_drop]
  have hcr : (c :: r).length ≤ 1048576 := by rw [← hs, subC, List.length_take, List.length_drop]; omega
  have hcr2 : r.length + 1 ≤ 1048576 := hcr
  rw [hs]
  generalize endM cs k = b at he hsl hb1 hb2
  obtain ⟨ck, cn, ct, cy, cnn⟩ := c
  refine Fun.intro Try.func177 rfl (by kernel_rfl) rfl ?_
  repeat' (first | refine WG.slQ (E := env) rfl rfl rfl rfl rfl rfl rfl rfl ⟨by omega, by omega, by rw [List.length_map]; omega⟩ hsl ?_ | refine WG.ixA (E := env) (A := []) rfl rfl rfl rfl rfl rfl rfl rfl rfl ?_ | refine WG.stA (E := env) (A := []) rfl rfl rfl rfl rfl rfl rfl rfl rfl ?_ | refine W.seq ?_ | refine W.rg ?_ | refine W.dra' ?_ | refine W.block ?_ | refine W.skip ?_ | refine W.exit ?_ | refine W.cond_true' ?_ | refine W.cond_false' ?_ | refine WG.nil ?_ | refine WG.run' (E := env) ?_ | refine WG.gt' ?_ | refine WG.gf' ?_ | refine WG.ixm' (E := env) ?_ | refine WG.ixo' (E := env) ?_ | refine WG.legm' (E := env) ?_ | refine WG.slS' (E := env) ?_ | refine WG.slD' (E := env) ?_ | refine WG.ap' (E := env) ?_ | refine WD.nil ?_ | refine WD.bs' (E := env) ?_ | refine WD.s' (E := env) (t := .d _) ?_ | refine WD.p' ?_ | refine WD.px' ?_ | refine WD.s' (E := env) (t := .ea _ _) ?_ | refine WD.s' (E := env) (t := .lp _ _) ?_ | refine WD.s' (E := env) (t := .og _ _) ?_ | refine WD.s' (E := env) (t := .agg _) ?_ | refine WD.s' (E := env) (t := .tup _) ?_ | refine WD.s' (E := env) (t := .clo _ _) ?_ | refine WD.ixm' (E := env) ?_ | refine WD.ixo' (E := env) ?_ | refine WD.legm' (E := env) ?_ | refine WD.slS' (E := env) ?_ | refine WD.slD' (E := env) ?_ | refine WG.c (E := env) rfl rfl (he) rfl rfl ?_ | refine WD.c (E := env) rfl rfl (he) rfl rfl ?_ | refine WG.co (E := env) rfl rfl (he) rfl rfl rfl rfl ?_ | refine WG.cx (E := env) rfl (he) rfl ?_ | ((first | refine WG.sp' (fun h => ?_) fun h => ?_ | refine W.cond' (fun h => ?_) fun h => ?_ | refine WD.sp' (fun h => ?_) fun h => ?_) <;> (try simp only [decide_eq_true_eq, decide_eq_false_iff_not, Bool.not_eq_true', Bool.not_eq_false', Bool.and_eq_true, Bool.or_eq_true, Bool.and_eq_false_iff, Bool.or_eq_false_iff, Bool.not_eq_true, Bool.not_eq_false, Int.not_lt, Int.not_le, List.length_map, beq_self_eq_true, Bool.true_eq_false, Bool.false_eq_true] at h) <;> (try (exfalso; first | contradiction | omega))))
  refine W.ret ?_
  exact RetQ.own (tt := .og 0 1) 0 1 (.inl rfl) rfl (by first | trivial | exact resOK_of (E := env) rfl) rfl rfl rfl rfl rfl




end Go.Proofs.Ytlegadpbjccelaa
