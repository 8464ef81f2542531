/-
  A pass over a core, by the reference. Conditions: texts of at most 2^20 bytes, values of at most 2^20 cells.
-/
import Derived.Test.YtojifjbbjnpgbaaGreatQDeadCorePp7
set_option linter.unusedVariables false
set_option linter.unusedSimpArgs false
set_option maxRecDepth 100000
namespace Go.Proofs.YtojifjbbjnpgbaaGreat
open Go.RowKit

theorem set_same (xs : List Co) (i : Nat) (hi : i < xs.length) : (xs.map Co.row).set i (xs.getD i default).row = xs.map Co.row := by
  rw [← List.map_set]
  congr 1
  simp [hi]

theorem WG.pubO {G : List Nat} {P : Program} {N : Nm} {ops l : List Oper} {Q : Exit → St → Prop} {tm : Nat → T} {ob : List Ob} (k : Nat) {z : Nat} {e : TypeId} {rows : List (List D)} {n : Nat}
    (h : WG G P N ops l Q ⟨tm, ob.set k (.gr z e rows n true)⟩) (hk : ob[k]? = some (.gr z e rows n false) := by exact rfl) : WG G P N ops l Q ⟨tm, ob⟩ := WL.pub (S := ⟨tm, ob⟩) k hk h

set_option maxHeartbeats 4000000 in
theorem l10Copy_fn (xs : List Co) (hl : xs.length ≤ 1000) (hv : ∀ n ∈ xs, n.fine) : Fun env.P 47 [coresD xs] (.d (coresD xs)) [] := by
  refine Fun.intro Tryz.func47 rfl (by kernel_rfl) rfl ?_
  repeat' (first | refine W.seq ?_ | refine W.rg ?_ | refine W.dra' ?_ | refine W.block ?_ | refine W.skip ?_ | refine W.exit ?_ | refine W.cond_true' ?_ | refine W.cond_false' ?_ | refine WG.nil ?_ | refine WG.run' (E := env) ?_ | refine WG.gt' ?_ | refine WG.gf' ?_ | refine WG.ixm' (E := env) ?_ | refine WG.ixo' (E := env) ?_ | refine WG.legm' (E := env) ?_ | refine WG.slS' (E := env) ?_ | refine WG.slD' (E := env) ?_ | refine WG.ap' (E := env) ?_ | refine WD.nil ?_ | refine WD.bs' (E := env) ?_ | refine WD.s' (E := env) (t := .d _) ?_ | refine WD.p' ?_ | refine WD.px' ?_ | refine WD.s' (E := env) (t := .ea _ _) ?_ | refine WD.s' (E := env) (t := .lp _ _) ?_ | refine WD.s' (E := env) (t := .og _ _) ?_ | refine WD.s' (E := env) (t := .agg _) ?_ | refine WD.s' (E := env) (t := .tup _) ?_ | refine WD.s' (E := env) (t := .clo _ _) ?_ | refine WD.ixm' (E := env) ?_ | refine WD.ixo' (E := env) ?_ | refine WD.legm' (E := env) ?_ | refine WD.slS' (E := env) ?_ | refine WD.slD' (E := env) ?_ | ((first | refine WG.sp' (fun h => ?_) fun h => ?_ | refine W.cond' (fun h => ?_) fun h => ?_ | refine WD.sp' (fun h => ?_) fun h => ?_) <;> (try simp only [decide_eq_true_eq, decide_eq_false_iff_not, Bool.not_eq_true', Bool.not_eq_false', Bool.and_eq_true, Bool.or_eq_true, Bool.and_eq_false_iff, Bool.or_eq_false_iff, Bool.not_eq_true, Bool.not_eq_false, Int.not_lt, Int.not_le, List.length_map, beq_self_eq_true, Bool.true_eq_false, Bool.false_eq_true] at h) <;> (try (exfalso; first | contradiction | omega))))
  refine W.loopI (fun m S => ∃ (i : Nat), m = xs.length - i ∧ (i ≤ xs.length) ∧ S = ⟨ofL [(3, .og 0 0), (4, vI .i64 i)], [.gr 6 53 (xs.map Co.row) 0 false]⟩) _ _
    ⟨0, rfl, by omega, rfl⟩ ((St.imp.rev 0 1 rfl).trans (St.imp.of_le (by (refine le_ofL rfl ?_ ?_ <;> (repeat (first | exact trivial | refine ⟨⟨rfl, rfl⟩, ?_⟩ | refine ⟨rfl, .inl rfl, ?_⟩ | refine ⟨rfl, .inr rfl, ?_⟩)))))) ?_
  rintro m S ⟨i, rfl, hi, rfl⟩
  by_cases hlt : i < xs.length
  · have hxf : (xs.getD (Int.toNat (i : Int)) default).fine := hv _ (getD_mem' (by rw [Int.toNat_natCast]; exact hlt))
    have hvl : (xs.getD (Int.toNat (i : Int)) default).val.length ≤ 1048576 := hxf.2
    have hri := map_rowN Co.row xs (Int.toNat (i : Int)) (by rw [Int.toNat_natCast]; exact hlt)
    have hss := set_same xs (Int.toNat (i : Int)) (by rw [Int.toNat_natCast]; exact hlt)
    repeat' (first | refine W.seq ?_ | refine W.rg ?_ | refine W.dra' ?_ | refine W.block ?_ | refine W.skip ?_ | refine W.exit ?_ | refine W.cond_true' ?_ | refine W.cond_false' ?_ | refine WG.nil ?_ | refine WG.run' (E := env) ?_ | refine WG.gt' ?_ | refine WG.gf' ?_ | refine WG.ixm' (E := env) ?_ | refine WG.ixo' (E := env) ?_ | refine WG.legm' (E := env) ?_ | refine WG.slS' (E := env) ?_ | refine WG.slD' (E := env) ?_ | refine WG.ap' (E := env) ?_ | refine WD.nil ?_ | refine WD.bs' (E := env) ?_ | refine WD.s' (E := env) (t := .d _) ?_ | refine WD.p' ?_ | refine WD.px' ?_ | refine WD.s' (E := env) (t := .ea _ _) ?_ | refine WD.s' (E := env) (t := .lp _ _) ?_ | refine WD.s' (E := env) (t := .og _ _) ?_ | refine WD.s' (E := env) (t := .agg _) ?_ | refine WD.s' (E := env) (t := .tup _) ?_ | refine WD.s' (E := env) (t := .clo _ _) ?_ | refine WD.ixm' (E := env) ?_ | refine WD.ixo' (E := env) ?_ | refine WD.legm' (E := env) ?_ | refine WD.slS' (E := env) ?_ | refine WD.slD' (E := env) ?_ | (refine WG.pubO 1 ?_; refine WG.stE (E := env) rfl rfl rfl rfl hri rfl rfl rfl rfl ?_) | fail | ((first | refine WG.sp' (fun h => ?_) fun h => ?_ | refine W.cond' (fun h => ?_) fun h => ?_ | refine WD.sp' (fun h => ?_) fun h => ?_) <;> (try simp only [decide_eq_true_eq, decide_eq_false_iff_not, Bool.not_eq_true', Bool.not_eq_false', Bool.and_eq_true, Bool.or_eq_true, Bool.and_eq_false_iff, Bool.or_eq_false_iff, Bool.not_eq_true, Bool.not_eq_false, Int.not_lt, Int.not_le, List.length_map, beq_self_eq_true, Bool.true_eq_false, Bool.false_eq_true] at h) <;> (try (exfalso; first | contradiction | omega))))
    refine ⟨_, _, by omega, ⟨i + 1, rfl, by omega, rfl⟩, ?_⟩
    refine St.imp.of_le ?_
    refine leOb (ob' := [.gr 6 53 (xs.map Co.row) 0 false, .gr 5 102 ((xs.getD (Int.toNat (i : Int)) default).val.map Cell.row) 1 true]) ?_ (by (refine le_ofL rfl ?_ ?_ <;> (repeat (first | exact trivial | refine ⟨⟨rfl, rfl⟩, ?_⟩ | refine ⟨rfl, .inl rfl, ?_⟩ | refine ⟨rfl, .inr rfl, ?_⟩))))
    exact congrArg (fun r => [Ob.gr 6 53 r 0 false, .gr 5 102 ((xs.getD (Int.toNat (i : Int)) default).val.map Cell.row) 1 true]) hss
  · obtain rfl : i = xs.length := by omega
    repeat' (first | refine W.seq ?_ | refine W.rg ?_ | refine W.dra' ?_ | refine W.block ?_ | refine W.skip ?_ | refine W.exit ?_ | refine W.cond_true' ?_ | refine W.cond_false' ?_ | refine WG.nil ?_ | refine WG.run' (E := env) ?_ | refine WG.gt' ?_ | refine WG.gf' ?_ | refine WG.ixm' (E := env) ?_ | refine WG.ixo' (E := env) ?_ | refine WG.legm' (E := env) ?_ | refine WG.slS' (E := env) ?_ | refine WG.slD' (E := env) ?_ | refine WG.ap' (E := env) ?_ | refine WD.nil ?_ | refine WD.bs' (E := env) ?_ | refine WD.s' (E := env) (t := .d _) ?_ | refine WD.p' ?_ | refine WD.px' ?_ | refine WD.s' (E := env) (t := .ea _ _) ?_ | refine WD.s' (E := env) (t := .lp _ _) ?_ | refine WD.s' (E := env) (t := .og _ _) ?_ | refine WD.s' (E := env) (t := .agg _) ?_ | refine WD.s' (E := env) (t := .tup _) ?_ | refine WD.s' (E := env) (t := .clo _ _) ?_ | refine WD.ixm' (E := env) ?_ | refine WD.ixo' (E := env) ?_ | refine WD.legm' (E := env) ?_ | refine WD.slS' (E := env) ?_ | refine WD.slD' (E := env) ?_ | ((first | refine WG.sp' (fun h => ?_) fun h => ?_ | refine W.cond' (fun h => ?_) fun h => ?_ | refine WD.sp' (fun h => ?_) fun h => ?_) <;> (try simp only [decide_eq_true_eq, decide_eq_false_iff_not, Bool.not_eq_true', Bool.not_eq_false', Bool.and_eq_true, Bool.or_eq_true, Bool.and_eq_false_iff, Bool.or_eq_false_iff, Bool.not_eq_true, Bool.not_eq_false, Int.not_lt, Int.not_le, List.length_map, beq_self_eq_true, Bool.true_eq_false, Bool.false_eq_true] at h) <;> (try (exfalso; first | contradiction | omega))))
    (refine W.ret ?_; first | refine RetR.agp' ?_ ?_ | refine RetR.gp' ?_ | (first | refine RetQ.b' ?_ | refine RetQ.i' ?_ | refine RetQ.d' ?_ | refine RetQ.t2' ?_ ?_ | refine RetQ.t3' ?_ ?_ ?_))
    rfl

theorem l10Top_fn (L : List Co) (h : 1 ≤ L.length) (hl : L.length ≤ 1000) : Fun env.P 165 [coresD L] (.d (.agg (L.getD (Int.toNat (((L.map Co.row).length : Int) - 1)) default).row)) [] := by
  refine Fun.intro Tryz.func165 rfl (by kernel_rfl) rfl ?_
  repeat' (first | refine W.seq ?_ | refine W.rg ?_ | refine W.dra' ?_ | refine W.block ?_ | refine W.skip ?_ | refine W.exit ?_ | refine W.cond_true' ?_ | refine W.cond_false' ?_ | refine WG.nil ?_ | refine WG.run' (E := env) ?_ | refine WG.gt' ?_ | refine WG.gf' ?_ | refine WG.ixm' (E := env) ?_ | refine WG.ixo' (E := env) ?_ | refine WG.legm' (E := env) ?_ | refine WG.slS' (E := env) ?_ | refine WG.slD' (E := env) ?_ | refine WG.ap' (E := env) ?_ | refine WD.nil ?_ | refine WD.bs' (E := env) ?_ | refine WD.s' (E := env) (t := .d _) ?_ | refine WD.p' ?_ | refine WD.px' ?_ | refine WD.s' (E := env) (t := .ea _ _) ?_ | refine WD.s' (E := env) (t := .lp _ _) ?_ | refine WD.s' (E := env) (t := .og _ _) ?_ | refine WD.s' (E := env) (t := .agg _) ?_ | refine WD.s' (E := env) (t := .tup _) ?_ | refine WD.s' (E := env) (t := .clo _ _) ?_ | refine WD.ixm' (E := env) ?_ | refine WD.ixo' (E := env) ?_ | refine WD.legm' (E := env) ?_ | refine WD.slS' (E := env) ?_ | refine WD.slD' (E := env) ?_ | ((first | refine WG.sp' (fun h => ?_) fun h => ?_ | refine W.cond' (fun h => ?_) fun h => ?_ | refine WD.sp' (fun h => ?_) fun h => ?_) <;> (try simp only [decide_eq_true_eq, decide_eq_false_iff_not, Bool.not_eq_true', Bool.not_eq_false', Bool.and_eq_true, Bool.or_eq_true, Bool.and_eq_false_iff, Bool.or_eq_false_iff, Bool.not_eq_true, Bool.not_eq_false, Int.not_lt, Int.not_le, List.length_map, beq_self_eq_true, Bool.true_eq_false, Bool.false_eq_true] at h) <;> (try (exfalso; first | contradiction | omega))))
  (refine W.ret ?_; (first | refine RetQ.b' ?_ | refine RetQ.i' ?_ | refine RetQ.d' ?_ | refine RetQ.t2' ?_ ?_ | refine RetQ.t3' ?_ ?_ ?_))
  rfl

/-- The node that is last in a part. -/
def topOf (p : Pt) : Co := p.n.put (Pt.ends p.kids 0)
theorem l10TopP_fn (p : Pt) (hc : p.count ≤ 1000) : Fun env.P 165 [coresD (p.flat 0)] (.d (.agg (topOf p).row)) [] := by
  have h := Pt.count_eq p
  have hf := Pt.flat_length p 0
  have := l10Top_fn (p.flat 0) (by omega) (by omega)
  have e : (p.flat 0).getD (Int.toNat ((((p.flat 0).map Co.row).length : Int) - 1)) default = topOf p := by
    rw [List.length_map, hf, h, Pt.flat_eq]
    have h2 := Pt.flats_length p.kids 0
    rw [show Int.toNat (((Pt.counts p.kids + 1 : Nat) : Int) - 1) = (Pt.flats p.kids 0).length by omega]
    simp [topOf]
  rw [e] at this
  exact this

/-- What the reference tells of a node that names some: what stands in its place. -/
def SFit (pass : Int) (fit : Pt → Option Pt) : Prop := ∀ p : Pt, p.good → p.count ≤ 1000 → p.kids ≠ [] → ∃ (b : Bool) (X : List Co), Fun env.P 95 [dI pass, .agg p.n.bare.row, .sl 1 (p.kids.map flR)] (.tup [.d (coresD X), .d (dB b)]) [] ∧
  if b = true then ∃ q, fit p = some q ∧ X = q.flat 0 else fit p = none

end Go.Proofs.YtojifjbbjnpgbaaGreat
