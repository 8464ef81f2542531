/-
  The laws' look at instructions: marks, what holds them, whether two are the same. Conditions: none.
-/
import Derived.Test.YtmmjbpgdkokjgaaQCompileCoreCpR
set_option linter.unusedVariables false
set_option linter.unusedSimpArgs false
set_option maxRecDepth 100000
namespace Go.Proofs.Ytmmjbpgdkokjgaa
open Go.RowKit

def sumI : List Ins → Nat
  | [] => 0
  | n :: r => n.val.length + sumI r
def Ins.fine (x : Ins) : Prop := (∀ c ∈ x.val, c.text.size ≤ 1048576 ∧ c.key.size ≤ 1048576) ∧ x.val.length ≤ 1048576
abbrev insD (xs : List Ins) : D := .sl 3 (xs.map Ins.row)
/-- A code, a place, instructions and registers, as data. -/
def cdD (code at_ : Int) (xs : List Ins) (regs : Int) : D := .agg [dI code, dI at_, insD xs, dI regs]

theorem neI_flat (rs : List Ins) (dd : Option (List (List D))) (n : Nat) : (Ob.x (neI (rs.map insN) dd) n).flat := by
  refine nestX_flat n (fun r hr => ?_) fun r hr q hq p hp => ?_
  · obtain ⟨x, _, rfl⟩ := List.mem_map.1 hr
    rfl
  · obtain ⟨x, _, rfl⟩ := List.mem_map.1 hr
    cases hq
    obtain ⟨c, _, rfl⟩ := List.mem_map.1 hp
    rfl

/-! ### whether two are the same -/

instance : DecidableEq Ins := fun a b => decidable_of_iff (a.op = b.op ∧ a.arg = b.arg ∧ a.val = b.val) (by cases a; cases b; simp)

theorem eqIn_fn (a b : Ins) (hf : a.fine) : Fun env.P 58 [.agg a.row, .agg b.row] (.d (dB (decide (a = b)))) [] := by
  have e : a = b ↔ a.op = b.op ∧ a.arg = b.arg ∧ a.val = b.val := by
    cases a; cases b; simp
  refine Fun.intro Try.func58 rfl (by kernel_rfl) rfl ?_
  have cc := eqCellS_fn a.val b.val hf.2
  repeat' (first | refine W.seq ?_ | refine W.rg ?_ | refine W.dra' ?_ | refine W.block ?_ | refine W.skip ?_ | refine W.exit ?_ | refine W.cond_true' ?_ | refine W.cond_false' ?_ | refine WG.nil ?_ | refine WG.run' (E := env) ?_ | refine WG.gt' ?_ | refine WG.gf' ?_ | refine WG.ixm' (E := env) ?_ | refine WG.ixo' (E := env) ?_ | refine WG.legm' (E := env) ?_ | refine WG.slS' (E := env) ?_ | refine WG.slD' (E := env) ?_ | refine WG.ap' (E := env) ?_ | refine WD.nil ?_ | refine WD.bs' (E := env) ?_ | refine WD.s' (E := env) (t := .d _) ?_ | refine WD.p' ?_ | refine WD.px' ?_ | refine WD.s' (E := env) (t := .ea _ _) ?_ | refine WD.s' (E := env) (t := .lp _ _) ?_ | refine WD.s' (E := env) (t := .og _ _) ?_ | refine WD.s' (E := env) (t := .agg _) ?_ | refine WD.s' (E := env) (t := .tup _) ?_ | refine WD.s' (E := env) (t := .clo _ _) ?_ | refine WD.ixm' (E := env) ?_ | refine WD.ixo' (E := env) ?_ | refine WD.legm' (E := env) ?_ | refine WD.slS' (E := env) ?_ | refine WD.slD' (E := env) ?_ | refine WG.c (E := env) rfl rfl (cc) rfl rfl ?_ | refine WD.c (E := env) rfl rfl (cc) rfl rfl ?_ | refine WG.co (E := env) rfl rfl (cc) rfl rfl rfl rfl ?_ | refine WG.cx (E := env) rfl (cc) rfl ?_ | ((first | refine WG.sp' (fun h => ?_) fun h => ?_ | refine W.cond' (fun h => ?_) fun h => ?_ | refine WD.sp' (fun h => ?_) fun h => ?_) <;> (try simp only [atS, List.length_map, beq_self_eq_true] at h) <;> (try (exfalso; first | contradiction | omega))))
  all_goals (refine W.ret ?_; (first | refine RetQ.b' ?_ | refine RetQ.i' ?_ | refine RetQ.d' ?_ | refine RetQ.t2' ?_ ?_ | refine RetQ.t3' ?_ ?_ ?_))
  all_goals simp_all

set_option maxHeartbeats 2000000 in
theorem eqInS_fn (xs ys : List Ins) (hm : xs.length ≤ 1048576) (hx : ∀ x ∈ xs, x.fine) : Fun env.P 22 [insD xs, insD ys] (.d (dB (decide (xs = ys)))) [] := by
  refine Fun.intro Try.func22 rfl (by kernel_rfl) rfl ?_
  repeat' (first | refine W.seq ?_ | refine W.rg ?_ | refine W.dra' ?_ | refine W.block ?_ | refine W.skip ?_ | refine W.exit ?_ | refine W.cond_true' ?_ | refine W.cond_false' ?_ | refine WG.nil ?_ | refine WG.run' (E := env) ?_ | refine WG.gt' ?_ | refine WG.gf' ?_ | refine WG.ixm' (E := env) ?_ | refine WG.ixo' (E := env) ?_ | refine WG.legm' (E := env) ?_ | refine WG.slS' (E := env) ?_ | refine WG.slD' (E := env) ?_ | refine WG.ap' (E := env) ?_ | refine WD.nil ?_ | refine WD.bs' (E := env) ?_ | refine WD.s' (E := env) (t := .d _) ?_ | refine WD.p' ?_ | refine WD.px' ?_ | refine WD.s' (E := env) (t := .ea _ _) ?_ | refine WD.s' (E := env) (t := .lp _ _) ?_ | refine WD.s' (E := env) (t := .og _ _) ?_ | refine WD.s' (E := env) (t := .agg _) ?_ | refine WD.s' (E := env) (t := .tup _) ?_ | refine WD.s' (E := env) (t := .clo _ _) ?_ | refine WD.ixm' (E := env) ?_ | refine WD.ixo' (E := env) ?_ | refine WD.legm' (E := env) ?_ | refine WD.slS' (E := env) ?_ | refine WD.slD' (E := env) ?_ | ((first | refine WG.sp' (fun h => ?_) fun h => ?_ | refine W.cond' (fun h => ?_) fun h => ?_ | refine WD.sp' (fun h => ?_) fun h => ?_) <;> (try simp only [atS, List.length_map, beq_self_eq_true] at h) <;> (try (exfalso; first | contradiction | omega))))
  · (refine W.ret ?_; (first | refine RetQ.b' ?_ | refine RetQ.i' ?_ | refine RetQ.d' ?_ | refine RetQ.t2' ?_ ?_ | refine RetQ.t3' ?_ ?_ ?_))
    symm
    rw [decide_eq_false_iff_not]
    rintro rfl
    exact h rfl
  refine W.loop (fun m S => ∃ (k : Nat), m = xs.length - k ∧ (k ≤ xs.length ∧ xs.take k = ys.take k) ∧ S = ⟨ofL [(0, .d (insD xs)), (1, .d (insD ys)), (5, vI .i64 k)], []⟩) _ _ ⟨0, rfl, ⟨by omega, by simp⟩, rfl⟩ (by (refine le_ofL rfl ?_ ?_ <;> (repeat (first | exact trivial | refine ⟨⟨rfl, rfl⟩, ?_⟩ | refine ⟨rfl, .inl rfl, ?_⟩ | refine ⟨rfl, .inr rfl, ?_⟩)))) ?_
  rintro m S ⟨k, rfl, ⟨hk, he⟩, rfl⟩
  have hat : ∀ i : Nat, i < xs.length → (xs.getD i default).fine := fun i hi => hx _ (getD_mem' hi)
  repeat' (first | refine W.seq ?_ | refine W.rg ?_ | refine W.dra' ?_ | refine W.block ?_ | refine W.skip ?_ | refine W.exit ?_ | refine W.cond_true' ?_ | refine W.cond_false' ?_ | refine WG.nil ?_ | refine WG.run' (E := env) ?_ | refine WG.gt' ?_ | refine WG.gf' ?_ | refine WG.ixm' (E := env) ?_ | refine WG.ixo' (E := env) ?_ | refine WG.legm' (E := env) ?_ | refine WG.slS' (E := env) ?_ | refine WG.slD' (E := env) ?_ | refine WG.ap' (E := env) ?_ | refine WD.nil ?_ | refine WD.bs' (E := env) ?_ | refine WD.s' (E := env) (t := .d _) ?_ | refine WD.p' ?_ | refine WD.px' ?_ | refine WD.s' (E := env) (t := .ea _ _) ?_ | refine WD.s' (E := env) (t := .lp _ _) ?_ | refine WD.s' (E := env) (t := .og _ _) ?_ | refine WD.s' (E := env) (t := .agg _) ?_ | refine WD.s' (E := env) (t := .tup _) ?_ | refine WD.s' (E := env) (t := .clo _ _) ?_ | refine WD.ixm' (E := env) ?_ | refine WD.ixo' (E := env) ?_ | refine WD.legm' (E := env) ?_ | refine WD.slS' (E := env) ?_ | refine WD.slD' (E := env) ?_ | refine WG.c (E := env) rfl rfl (eqIn_fn _ _ (hat _ (by omega))) rfl rfl ?_ | refine WD.c (E := env) rfl rfl (eqIn_fn _ _ (hat _ (by omega))) rfl rfl ?_ | refine WG.co (E := env) rfl rfl (eqIn_fn _ _ (hat _ (by omega))) rfl rfl rfl rfl ?_ | refine WG.cx (E := env) rfl (eqIn_fn _ _ (hat _ (by omega))) rfl ?_ | ((first | refine WG.sp' (fun h => ?_) fun h => ?_ | refine W.cond' (fun h => ?_) fun h => ?_ | refine WD.sp' (fun h => ?_) fun h => ?_) <;> (try simp only [atS, List.length_map, beq_self_eq_true] at h) <;> (try (exfalso; first | contradiction | omega))))
  · (refine W.ret ?_; (first | refine RetQ.b' ?_ | refine RetQ.i' ?_ | refine RetQ.d' ?_ | refine RetQ.t2' ?_ ?_ | refine RetQ.t3' ?_ ?_ ?_))
    (try simp only [Int.toNat_natCast, Int.toNat_zero, toNat_cc, toNat_c1, toNat_cm1, toNat_cm] at *)
    symm
    rw [decide_eq_false_iff_not]
    rintro rfl
    contradiction
  · (try simp only [Int.toNat_natCast, Int.toNat_zero, toNat_cc, toNat_c1, toNat_cm1, toNat_cm] at *)
    exact ⟨_, _, by omega, ⟨k + 1, rfl, ⟨by omega, by rw [take_step (by omega), take_step (by omega), he]; simp only [*]⟩, rfl⟩, (by (refine le_ofL rfl ?_ ?_ <;> (repeat (first | exact trivial | refine ⟨⟨rfl, rfl⟩, ?_⟩ | refine ⟨rfl, .inl rfl, ?_⟩ | refine ⟨rfl, .inr rfl, ?_⟩))))⟩
  · (refine W.ret ?_; (first | refine RetQ.b' ?_ | refine RetQ.i' ?_ | refine RetQ.d' ?_ | refine RetQ.t2' ?_ ?_ | refine RetQ.t3' ?_ ?_ ?_))
    symm
    rw [decide_eq_true_eq]
    rwa [List.take_of_length_le (by omega), List.take_of_length_le (by omega)] at he

theorem eqCodeResult_fn (c1 c2 d1 d2 r1 r2 : Int) (xs ys : List Ins) (hm : xs.length ≤ 1048576) (hx : ∀ x ∈ xs, x.fine) :
    Fun env.P 8 [cdD c1 d1 xs r1, cdD c2 d2 ys r2] (.d (dB (decide (c1 = c2 ∧ d1 = d2 ∧ xs = ys ∧ r1 = r2)))) [] := by
  refine Fun.intro Try.func8 rfl (by kernel_rfl) rfl ?_
  have cc := eqInS_fn xs ys hm hx
  repeat' (first | refine W.seq ?_ | refine W.rg ?_ | refine W.dra' ?_ | refine W.block ?_ | refine W.skip ?_ | refine W.exit ?_ | refine W.cond_true' ?_ | refine W.cond_false' ?_ | refine WG.nil ?_ | refine WG.run' (E := env) ?_ | refine WG.gt' ?_ | refine WG.gf' ?_ | refine WG.ixm' (E := env) ?_ | refine WG.ixo' (E := env) ?_ | refine WG.legm' (E := env) ?_ | refine WG.slS' (E := env) ?_ | refine WG.slD' (E := env) ?_ | refine WG.ap' (E := env) ?_ | refine WD.nil ?_ | refine WD.bs' (E := env) ?_ | refine WD.s' (E := env) (t := .d _) ?_ | refine WD.p' ?_ | refine WD.px' ?_ | refine WD.s' (E := env) (t := .ea _ _) ?_ | refine WD.s' (E := env) (t := .lp _ _) ?_ | refine WD.s' (E := env) (t := .og _ _) ?_ | refine WD.s' (E := env) (t := .agg _) ?_ | refine WD.s' (E := env) (t := .tup _) ?_ | refine WD.s' (E := env) (t := .clo _ _) ?_ | refine WD.ixm' (E := env) ?_ | refine WD.ixo' (E := env) ?_ | refine WD.legm' (E := env) ?_ | refine WD.slS' (E := env) ?_ | refine WD.slD' (E := env) ?_ | refine WG.c (E := env) rfl rfl (cc) rfl rfl ?_ | refine WD.c (E := env) rfl rfl (cc) rfl rfl ?_ | refine WG.co (E := env) rfl rfl (cc) rfl rfl rfl rfl ?_ | refine WG.cx (E := env) rfl (cc) rfl ?_ | ((first | refine WG.sp' (fun h => ?_) fun h => ?_ | refine W.cond' (fun h => ?_) fun h => ?_ | refine WD.sp' (fun h => ?_) fun h => ?_) <;> (try simp only [atS, List.length_map, beq_self_eq_true] at h) <;> (try (exfalso; first | contradiction | omega))))
  all_goals (refine W.ret ?_; (first | refine RetQ.b' ?_ | refine RetQ.i' ?_ | refine RetQ.d' ?_ | refine RetQ.t2' ?_ ?_ | refine RetQ.t3' ?_ ?_ ?_))
  all_goals simp [*]

/-! ### marks -/

/-- The marks of instructions whose values have so many cells. -/
def mkI (k : Nat) : List Nat → List Ins
  | [] => []
  | l :: r => ⟨(k : Int), (k : Int) + 1, marksL (k + 2) l⟩ :: mkI (k + 2 + 5 * l) r
def endI (k : Nat) : List Nat → Nat
  | [] => k
  | l :: r => endI (k + 2 + 5 * l) r

theorem mkI_length : ∀ (k : Nat) (ls : List Nat), (mkI k ls).length = ls.length
  | _, [] => rfl
  | k, l :: r => by simp [mkI, mkI_length]
theorem endI_take : ∀ (k : Nat) (ls : List Nat) (i : Nat), i < ls.length → endI k (ls.take (i + 1)) = endI k (ls.take i) + 2 + 5 * ls.getD i default
  | _, [], i, h => by simp at h
  | k, l :: r, 0, _ => by simp [endI]
  | k, l :: r, i + 1, h => by
    have := endI_take (k + 2 + 5 * l) r i (by simpa using h)
    simpa [endI] using this
theorem mkI_at : ∀ (k : Nat) (ls : List Nat) (i : Nat), i < ls.length → (mkI k ls).getD i default = ⟨(endI k (ls.take i) : Nat), (endI k (ls.take i) : Nat) + 1, marksL (endI k (ls.take i) + 2) (ls.getD i default)⟩
  | _, [], i, h => by simp at h
  | k, l :: r, 0, _ => by simp [mkI, endI]
  | k, l :: r, i + 1, h => by
    have := mkI_at (k + 2 + 5 * l) r i (by simpa using h)
    simpa [mkI, endI] using this
theorem endI_le : ∀ (k : Nat) (xs : List Ins), endI k (xs.map fun n => n.val.length) = k + 2 * xs.length + 5 * sumI xs
  | k, [] => by simp [endI, sumI]
  | k, n :: r => by simp only [List.map_cons, endI, endI_le, List.length_cons, sumI]; omega
theorem endI_mono : ∀ (k : Nat) (ls : List Nat) (i : Nat), endI k (ls.take i) ≤ endI k ls
  | k, [], i => by simp
  | k, l :: r, 0 => by
    have : ∀ (r : List Nat) (q : Nat), q ≤ endI q r := by
      intro r
      induction r with
      | nil => intro q; exact Nat.le_refl _
      | cons a r ih => intro q; exact Nat.le_trans (by omega) (ih (q + 2 + 5 * a))
    exact this (l :: r) k
  | k, l :: r, i + 1 => by simpa [endI] using endI_mono (k + 2 + 5 * l) r i

set_option maxHeartbeats 8000000 in
theorem markInS_fn (xs : List Ins) (dd : Option (List (List D))) (k : Nat) (hk : k + 2 * xs.length + 5 * sumI xs ≤ 1099511000000) :
    FunQ env.P 25 [.og 0 0, vI .i64 k] [.x (neI (xs.map insN) dd) 0]
      (just (vI .i64 ((k + 2 * xs.length + 5 * sumI xs : Nat) : Int)) [.x (neI ((mkI k (xs.map fun n => n.val.length)).map insN) (some ((mkI k (xs.map fun n => n.val.length)).map Ins.row))) 0]) := by
  generalize hls : (xs.map fun n => n.val.length) = ls
  have hll : ls.length = xs.length := by rw [← hls]; simp
  have hml : (mkI k ls).length = xs.length := by rw [mkI_length, hll]
  have hend : endI k ls = k + 2 * xs.length + 5 * sumI xs := by rw [← hls, endI_le]
  rw [← hend]
  refine FunQ.intro Try.func25 rfl (by kernel_rfl) rfl ?_
  repeat' (first | refine W.seq ?_ | refine W.rg ?_ | refine W.dra' ?_ | refine W.block ?_ | refine W.skip ?_ | refine W.exit ?_ | refine W.cond_true' ?_ | refine W.cond_false' ?_ | refine WG.nil ?_ | refine WG.run' (E := env) ?_ | refine WG.gt' ?_ | refine WG.gf' ?_ | refine WG.ixm' (E := env) ?_ | refine WG.ixo' (E := env) ?_ | refine WG.legm' (E := env) ?_ | refine WG.slS' (E := env) ?_ | refine WG.slD' (E := env) ?_ | refine WG.ap' (E := env) ?_ | refine WD.nil ?_ | refine WD.bs' (E := env) ?_ | refine WD.s' (E := env) (t := .d _) ?_ | refine WD.p' ?_ | refine WD.px' ?_ | refine WD.s' (E := env) (t := .ea _ _) ?_ | refine WD.s' (E := env) (t := .lp _ _) ?_ | refine WD.s' (E := env) (t := .og _ _) ?_ | refine WD.s' (E := env) (t := .agg _) ?_ | refine WD.s' (E := env) (t := .tup _) ?_ | refine WD.s' (E := env) (t := .clo _ _) ?_ | refine WD.ixm' (E := env) ?_ | refine WD.ixo' (E := env) ?_ | refine WD.legm' (E := env) ?_ | refine WD.slS' (E := env) ?_ | refine WD.slD' (E := env) ?_ | ((first | refine WG.sp' (fun h => ?_) fun h => ?_ | refine W.cond' (fun h => ?_) fun h => ?_ | refine WD.sp' (fun h => ?_) fun h => ?_) <;> (try simp only [atS, List.length_map, beq_self_eq_true] at h) <;> (try (exfalso; first | contradiction | omega))))
  refine W.loopI (fun m S => ∃ (i : Nat) (R : List NR) (d' : Option (List (List D))) (q : Int), m = xs.length - i ∧ (i ≤ xs.length ∧ R = (mixL (mkI k ls) xs i).map insN ∧ q = (endI k (ls.take i) : Nat)) ∧ S = ⟨ofL [(0, .og 0 0), (1, vI .i64 q), (5, vI .i64 i)], [.x (neI R d') 0]⟩) _ _
    ⟨0, xs.map insN, dd, k, rfl, ⟨by omega, by rw [mixL_zero], by simp [endI]⟩, rfl⟩ (St.imp.of_le (by (refine le_ofL rfl ?_ ?_ <;> (repeat (first | exact trivial | refine ⟨⟨rfl, rfl⟩, ?_⟩ | refine ⟨rfl, .inl rfl, ?_⟩ | refine ⟨rfl, .inr rfl, ?_⟩))))) ?_
  rintro m S ⟨i, R, d', q, rfl, ⟨hi, hR, hq⟩, rfl⟩
  have hRl : R.length = xs.length := by rw [hR, List.length_map, mixL_length _ _ hml i hi]
  by_cases hlt : i < xs.length
  · have hat : R[Int.toNat (i : Int)]? = some (insN (xs.getD i default)) := by rw [hR, Int.toNat_natCast, List.getElem?_map, mixL_at _ _ hml hlt]; rfl
    have hili : Int.toNat (i : Int) < R.length := by rw [Int.toNat_natCast]; omega
    have hmo := endI_mono k ls i
    have hmo2 := endI_mono k ls (i + 1)
    have het := endI_take k ls i (by omega)
    have hld : ls.getD i default = (xs.getD i default).val.length := by rw [← hls]; simp [hlt]
    have hma := mkI_at k ls i (by omega)
    generalize endI k (ls.take i) = p at *
    subst hq
    have hmk := markCellS_fn (xs.getD i default).val (p + 2) (by omega)
    rw [show ((p + 2 : Nat) : Int) = (p : Int) + 1 + 1 by omega] at hmk
    repeat' (first | refine WG.lenN' (E := env) ?_ | refine WG.ixN' (E := env) ?_ | refine WG.stND (E := env) rfl rfl rfl rfl (by first | exact hat | exact List.getElem?_set_self (by simpa using hili)) rfl rfl rfl rfl rfl ?_ | refine WG.nestCall (E := env) (K := 1) rfl rfl rfl rfl rfl rfl rfl (List.getElem?_set_self (by simpa using hili)) rfl (fun _ => rfl) rfl (fun _ => rfl) hmk (fun _ => rfl) rfl (fun _ => rfl) rfl ?_ | refine W.seq ?_ | refine W.rg ?_ | refine W.dra' ?_ | refine W.block ?_ | refine W.skip ?_ | refine W.exit ?_ | refine W.cond_true' ?_ | refine W.cond_false' ?_ | refine WG.nil ?_ | refine WG.run' (E := env) ?_ | refine WG.gt' ?_ | refine WG.gf' ?_ | refine WG.ixm' (E := env) ?_ | refine WG.ixo' (E := env) ?_ | refine WG.legm' (E := env) ?_ | refine WG.slS' (E := env) ?_ | refine WG.slD' (E := env) ?_ | refine WG.ap' (E := env) ?_ | refine WD.nil ?_ | refine WD.bs' (E := env) ?_ | refine WD.s' (E := env) (t := .d _) ?_ | refine WD.p' ?_ | refine WD.px' ?_ | refine WD.s' (E := env) (t := .ea _ _) ?_ | refine WD.s' (E := env) (t := .lp _ _) ?_ | refine WD.s' (E := env) (t := .og _ _) ?_ | refine WD.s' (E := env) (t := .agg _) ?_ | refine WD.s' (E := env) (t := .tup _) ?_ | refine WD.s' (E := env) (t := .clo _ _) ?_ | refine WD.ixm' (E := env) ?_ | refine WD.ixo' (E := env) ?_ | refine WD.legm' (E := env) ?_ | refine WD.slS' (E := env) ?_ | refine WD.slD' (E := env) ?_ | fail | ((first | refine WG.sp' (fun h => ?_) fun h => ?_ | refine W.cond' (fun h => ?_) fun h => ?_ | refine WD.sp' (fun h => ?_) fun h => ?_) <;> (try simp only [atS, List.length_map, beq_self_eq_true] at h) <;> (try (exfalso; first | contradiction | omega))))
    · refine ⟨_, _, by omega, ⟨i + 1, R.set (Int.toNat (i : Int)) (insN ((mkI k ls).getD i default)), none, ((p + 2 + 5 * (xs.getD i default).val.length : Nat) : Int), rfl, ⟨by omega, ?_, ?_⟩, rfl⟩, ?_⟩
      · rw [Int.toNat_natCast, hR, ← mixL_set _ _ hml hlt, List.map_set]
      · rw [het, hld]
      · simp only [List.set_set]
        rw [hma, hld]
        exact (St.imp.of_le (by (refine le_ofL rfl ?_ ?_ <;> (repeat (first | exact trivial | refine ⟨⟨rfl, rfl⟩, ?_⟩ | refine ⟨rfl, .inl rfl, ?_⟩ | refine ⟨rfl, .inr rfl, ?_⟩)))))
  · obtain rfl : i = xs.length := by omega
    repeat' (first | refine WG.lenN' (E := env) ?_ | refine W.seq ?_ | refine W.rg ?_ | refine W.dra' ?_ | refine W.block ?_ | refine W.skip ?_ | refine W.exit ?_ | refine W.cond_true' ?_ | refine W.cond_false' ?_ | refine WG.nil ?_ | refine WG.run' (E := env) ?_ | refine WG.gt' ?_ | refine WG.gf' ?_ | refine WG.ixm' (E := env) ?_ | refine WG.ixo' (E := env) ?_ | refine WG.legm' (E := env) ?_ | refine WG.slS' (E := env) ?_ | refine WG.slD' (E := env) ?_ | refine WG.ap' (E := env) ?_ | refine WD.nil ?_ | refine WD.bs' (E := env) ?_ | refine WD.s' (E := env) (t := .d _) ?_ | refine WD.p' ?_ | refine WD.px' ?_ | refine WD.s' (E := env) (t := .ea _ _) ?_ | refine WD.s' (E := env) (t := .lp _ _) ?_ | refine WD.s' (E := env) (t := .og _ _) ?_ | refine WD.s' (E := env) (t := .agg _) ?_ | refine WD.s' (E := env) (t := .tup _) ?_ | refine WD.s' (E := env) (t := .clo _ _) ?_ | refine WD.ixm' (E := env) ?_ | refine WD.ixo' (E := env) ?_ | refine WD.legm' (E := env) ?_ | refine WD.slS' (E := env) ?_ | refine WD.slD' (E := env) ?_ | fail | ((first | refine WG.sp' (fun h => ?_) fun h => ?_ | refine W.cond' (fun h => ?_) fun h => ?_ | refine WD.sp' (fun h => ?_) fun h => ?_) <;> (try simp only [atS, List.length_map, beq_self_eq_true] at h) <;> (try (exfalso; first | contradiction | omega))))
    rw [mixL_all _ _ hml] at hR
    rw [List.take_of_length_le (by omega)] at hq
    subst hR hq
    refine W.imp (St.imp.note 0 rfl ((mkI k ls).map Ins.row) (insN_dat _)) ?_
    refine W.ret ?_
    exact RetR.own (ob' := [.x (neI ((mkI k ls).map insN) (some ((mkI k ls).map Ins.row))) 0]) ⟨[0], [0], 1⟩ (.inl rfl) rfl (by first | trivial | exact resOK_of (E := env) rfl) rfl rfl rfl rfl rfl rfl ⟨rfl, trivial⟩ rfl ⟨rfl, rfl⟩

set_option maxHeartbeats 2000000 in
theorem markCodeResult_fn (code at_ regs : Int) (xs : List Ins) (dd : Option (List (List D))) (k : Nat) (hk : k + 2 * xs.length + 5 * sumI xs ≤ 1099511000000) :
    FunQ env.P 11 [.agg [vI .i64 code, vI .i64 at_, .og 0 0, vI .i64 regs], vI .i64 k] [.x (neI (xs.map insN) dd) 0]
      (just (vI .i64 ((k + 2 * xs.length + 5 * sumI xs : Nat) : Int)) [.x (neI ((mkI k (xs.map fun n => n.val.length)).map insN) (some ((mkI k (xs.map fun n => n.val.length)).map Ins.row))) 0]) := by
  refine FunQ.intro Try.func11 rfl (by kernel_rfl) rfl ?_
  have c1 := markInS_fn xs dd k hk
  repeat' (first | refine W.seq ?_ | refine W.rg ?_ | refine W.dra' ?_ | refine W.block ?_ | refine W.skip ?_ | refine W.exit ?_ | refine W.cond_true' ?_ | refine W.cond_false' ?_ | refine WG.nil ?_ | refine WG.run' (E := env) ?_ | refine WG.gt' ?_ | refine WG.gf' ?_ | refine WG.ixm' (E := env) ?_ | refine WG.ixo' (E := env) ?_ | refine WG.legm' (E := env) ?_ | refine WG.slS' (E := env) ?_ | refine WG.slD' (E := env) ?_ | refine WG.ap' (E := env) ?_ | refine WD.nil ?_ | refine WD.bs' (E := env) ?_ | refine WD.s' (E := env) (t := .d _) ?_ | refine WD.p' ?_ | refine WD.px' ?_ | refine WD.s' (E := env) (t := .ea _ _) ?_ | refine WD.s' (E := env) (t := .lp _ _) ?_ | refine WD.s' (E := env) (t := .og _ _) ?_ | refine WD.s' (E := env) (t := .agg _) ?_ | refine WD.s' (E := env) (t := .tup _) ?_ | refine WD.s' (E := env) (t := .clo _ _) ?_ | refine WD.ixm' (E := env) ?_ | refine WD.ixo' (E := env) ?_ | refine WD.legm' (E := env) ?_ | refine WD.slS' (E := env) ?_ | refine WD.slD' (E := env) ?_ | refine WG.cq (E := env) [0] [0] false rfl rfl (c1) rfl rfl rfl rfl rfl rfl rfl (by first | exact trivial | exact ⟨rfl, trivial⟩ | exact ⟨rfl, rfl, trivial⟩) (.inl rfl) rfl (fun h => nomatch h) rfl rfl ?_ | refine WG.cqx (E := env) [0] [0] false rfl (c1) rfl rfl rfl rfl rfl rfl rfl (by first | exact trivial | exact ⟨rfl, trivial⟩ | exact ⟨rfl, rfl, trivial⟩) (.inl rfl) rfl (fun h => nomatch h) rfl ?_ | ((first | refine WG.sp' (fun h => ?_) fun h => ?_ | refine W.cond' (fun h => ?_) fun h => ?_ | refine WD.sp' (fun h => ?_) fun h => ?_) <;> (try simp only [atS, List.length_map, beq_self_eq_true] at h) <;> (try (exfalso; first | contradiction | omega))))
  refine W.ret ?_
  exact RetR.own (ob' := [.x (neI ((mkI k (xs.map fun n => n.val.length)).map insN) (some ((mkI k (xs.map fun n => n.val.length)).map Ins.row))) 0]) ⟨[0], [0], 2⟩ (.inl rfl) rfl (by first | trivial | exact resOK_of (E := env) rfl) rfl rfl rfl rfl rfl rfl ⟨rfl, trivial⟩ rfl ⟨rfl, rfl⟩

set_option maxHeartbeats 4000000 in
theorem heldInS_fn (ls : List Nat) (k : Nat) (hk : endI k ls ≤ 1099511000000) (hl : ls.length ≤ 1048576) :
    Fun env.P 26 [insD (mkI k ls), dI k] (.d (dI ((endI k ls : Nat) : Int))) [] := by
  have hml := mkI_length k ls
  refine Fun.intro Try.func26 rfl (by kernel_rfl) rfl ?_
  repeat' (first | refine W.seq ?_ | refine W.rg ?_ | refine W.dra' ?_ | refine W.block ?_ | refine W.skip ?_ | refine W.exit ?_ | refine W.cond_true' ?_ | refine W.cond_false' ?_ | refine WG.nil ?_ | refine WG.run' (E := env) ?_ | refine WG.gt' ?_ | refine WG.gf' ?_ | refine WG.ixm' (E := env) ?_ | refine WG.ixo' (E := env) ?_ | refine WG.legm' (E := env) ?_ | refine WG.slS' (E := env) ?_ | refine WG.slD' (E := env) ?_ | refine WG.ap' (E := env) ?_ | refine WD.nil ?_ | refine WD.bs' (E := env) ?_ | refine WD.s' (E := env) (t := .d _) ?_ | refine WD.p' ?_ | refine WD.px' ?_ | refine WD.s' (E := env) (t := .ea _ _) ?_ | refine WD.s' (E := env) (t := .lp _ _) ?_ | refine WD.s' (E := env) (t := .og _ _) ?_ | refine WD.s' (E := env) (t := .agg _) ?_ | refine WD.s' (E := env) (t := .tup _) ?_ | refine WD.s' (E := env) (t := .clo _ _) ?_ | refine WD.ixm' (E := env) ?_ | refine WD.ixo' (E := env) ?_ | refine WD.legm' (E := env) ?_ | refine WD.slS' (E := env) ?_ | refine WD.slD' (E := env) ?_ | ((first | refine WG.sp' (fun h => ?_) fun h => ?_ | refine W.cond' (fun h => ?_) fun h => ?_ | refine WD.sp' (fun h => ?_) fun h => ?_) <;> (try simp only [atS, List.length_map, beq_self_eq_true] at h) <;> (try (exfalso; first | contradiction | omega))))
  refine W.loop (fun m S => ∃ (i : Nat) (q : Int), m = ls.length - i ∧ (i ≤ ls.length ∧ q = (endI k (ls.take i) : Nat)) ∧ S = ⟨ofL [(0, .d (insD (mkI k ls))), (1, vI .i64 q), (5, vI .i64 i)], []⟩) _ _ ⟨0, k, rfl, ⟨by omega, by simp [endI]⟩, rfl⟩ (by (refine le_ofL rfl ?_ ?_ <;> (repeat (first | exact trivial | refine ⟨⟨rfl, rfl⟩, ?_⟩ | refine ⟨rfl, .inl rfl, ?_⟩ | refine ⟨rfl, .inr rfl, ?_⟩)))) ?_
  rintro m S ⟨i, q, rfl, ⟨hi, hq⟩, rfl⟩
  by_cases hlt : i < ls.length
  · have hmo := endI_mono k ls i
    have hmo2 := endI_mono k ls (i + 1)
    have het := endI_take k ls i hlt
    have hma := mkI_at k ls i hlt
    generalize endI k (ls.take i) = p at *
    subst hq
    have hmk := heldCellS_fn (ls.getD i default) (p + 2) (by omega)
    rw [show (i : Nat) = Int.toNat (i : Int) from rfl] at hma
    have f1 := congrArg Ins.op hma
    have f2 := congrArg Ins.arg hma
    have f6 := congrArg Ins.val hma
    simp only at f1 f2 f6
    rw [show ls.getD i default = ls.getD (Int.toNat (i : Int)) default from rfl] at hmk het
    rw [← f6, show ((p + 2 : Nat) : Int) = (p : Int) + 1 + 1 by omega, show ((p + 2 + 5 * ls.getD (Int.toNat (i : Int)) default : Nat) : Int) = ((endI k (ls.take (i + 1)) : Nat) : Int) by rw [het]] at hmk
    clear f6 hma
    obtain ⟨x, hx⟩ : ∃ x, (mkI k ls).getD (Int.toNat (i : Int)) default = x := ⟨_, rfl⟩
    rw [hx] at f1 f2 hmk
    have hxw : Ins.row ((mkI k ls).getD (Int.toNat (i : Int)) default) = x.row := by rw [hx]
    repeat' (first | refine WG.ixeQ (E := env) (r := x.row) rfl rfl rfl rfl rfl rfl rfl hxw (by (first | exact trivial | (simp only [inRange, List.length_map]; omega) | omega | assumption)) ?_ | refine W.seq ?_ | refine W.rg ?_ | refine W.dra' ?_ | refine W.block ?_ | refine W.skip ?_ | refine W.exit ?_ | refine W.cond_true' ?_ | refine W.cond_false' ?_ | refine WG.nil ?_ | refine WG.run' (E := env) ?_ | refine WG.gt' ?_ | refine WG.gf' ?_ | refine WG.ixm' (E := env) ?_ | refine WG.ixo' (E := env) ?_ | refine WG.legm' (E := env) ?_ | refine WG.slS' (E := env) ?_ | refine WG.slD' (E := env) ?_ | refine WG.ap' (E := env) ?_ | refine WD.nil ?_ | refine WD.bs' (E := env) ?_ | refine WD.s' (E := env) (t := .d _) ?_ | refine WD.p' ?_ | refine WD.px' ?_ | refine WD.s' (E := env) (t := .ea _ _) ?_ | refine WD.s' (E := env) (t := .lp _ _) ?_ | refine WD.s' (E := env) (t := .og _ _) ?_ | refine WD.s' (E := env) (t := .agg _) ?_ | refine WD.s' (E := env) (t := .tup _) ?_ | refine WD.s' (E := env) (t := .clo _ _) ?_ | refine WD.ixm' (E := env) ?_ | refine WD.ixo' (E := env) ?_ | refine WD.legm' (E := env) ?_ | refine WD.slS' (E := env) ?_ | refine WD.slD' (E := env) ?_ | refine WG.c (E := env) rfl rfl (hmk) rfl rfl ?_ | refine WD.c (E := env) rfl rfl (hmk) rfl rfl ?_ | refine WG.co (E := env) rfl rfl (hmk) rfl rfl rfl rfl ?_ | refine WG.cx (E := env) rfl (hmk) rfl ?_ | ((first | refine WG.sp' (fun h => ?_) fun h => ?_ | refine W.cond' (fun h => ?_) fun h => ?_ | refine WD.sp' (fun h => ?_) fun h => ?_) <;> (try simp only [atS, List.length_map, beq_self_eq_true] at h) <;> (try (exfalso; first | contradiction | omega))))
    all_goals first
      | (exfalso; omega)
      | exact ⟨_, _, by omega, ⟨i + 1, _, rfl, ⟨by omega, rfl⟩, rfl⟩, (by (refine le_ofL rfl ?_ ?_ <;> (repeat (first | exact trivial | refine ⟨⟨rfl, rfl⟩, ?_⟩ | refine ⟨rfl, .inl rfl, ?_⟩ | refine ⟨rfl, .inr rfl, ?_⟩))))⟩
  · obtain rfl : i = ls.length := by omega
    rw [List.take_length] at hq
    subst hq
    repeat' (first | refine W.seq ?_ | refine W.rg ?_ | refine W.dra' ?_ | refine W.block ?_ | refine W.skip ?_ | refine W.exit ?_ | refine W.cond_true' ?_ | refine W.cond_false' ?_ | refine WG.nil ?_ | refine WG.run' (E := env) ?_ | refine WG.gt' ?_ | refine WG.gf' ?_ | refine WG.ixm' (E := env) ?_ | refine WG.ixo' (E := env) ?_ | refine WG.legm' (E := env) ?_ | refine WG.slS' (E := env) ?_ | refine WG.slD' (E := env) ?_ | refine WG.ap' (E := env) ?_ | refine WD.nil ?_ | refine WD.bs' (E := env) ?_ | refine WD.s' (E := env) (t := .d _) ?_ | refine WD.p' ?_ | refine WD.px' ?_ | refine WD.s' (E := env) (t := .ea _ _) ?_ | refine WD.s' (E := env) (t := .lp _ _) ?_ | refine WD.s' (E := env) (t := .og _ _) ?_ | refine WD.s' (E := env) (t := .agg _) ?_ | refine WD.s' (E := env) (t := .tup _) ?_ | refine WD.s' (E := env) (t := .clo _ _) ?_ | refine WD.ixm' (E := env) ?_ | refine WD.ixo' (E := env) ?_ | refine WD.legm' (E := env) ?_ | refine WD.slS' (E := env) ?_ | refine WD.slD' (E := env) ?_ | ((first | refine WG.sp' (fun h => ?_) fun h => ?_ | refine W.cond' (fun h => ?_) fun h => ?_ | refine WD.sp' (fun h => ?_) fun h => ?_) <;> (try simp only [atS, List.length_map, beq_self_eq_true] at h) <;> (try (exfalso; first | contradiction | omega))))
    (refine W.ret ?_; (first | refine RetQ.b' ?_ | refine RetQ.i' ?_ | refine RetQ.d' ?_ | refine RetQ.t2' ?_ ?_ | refine RetQ.t3' ?_ ?_ ?_))
    rfl

theorem heldCodeResult_fn (code at_ regs : Int) (ls : List Nat) (k : Nat) (hk : endI k ls ≤ 1099511000000) (hl : ls.length ≤ 1048576) :
    Fun env.P 12 [cdD code at_ (mkI k ls) regs, dI k] (.d (dI ((endI k ls : Nat) : Int))) [] := by
  refine Fun.intro Try.func12 rfl (by kernel_rfl) rfl ?_
  have c1 := heldInS_fn ls k hk hl
  repeat' (first | refine W.seq ?_ | refine W.rg ?_ | refine W.dra' ?_ | refine W.block ?_ | refine W.skip ?_ | refine W.exit ?_ | refine W.cond_true' ?_ | refine W.cond_false' ?_ | refine WG.nil ?_ | refine WG.run' (E := env) ?_ | refine WG.gt' ?_ | refine WG.gf' ?_ | refine WG.ixm' (E := env) ?_ | refine WG.ixo' (E := env) ?_ | refine WG.legm' (E := env) ?_ | refine WG.slS' (E := env) ?_ | refine WG.slD' (E := env) ?_ | refine WG.ap' (E := env) ?_ | refine WD.nil ?_ | refine WD.bs' (E := env) ?_ | refine WD.s' (E := env) (t := .d _) ?_ | refine WD.p' ?_ | refine WD.px' ?_ | refine WD.s' (E := env) (t := .ea _ _) ?_ | refine WD.s' (E := env) (t := .lp _ _) ?_ | refine WD.s' (E := env) (t := .og _ _) ?_ | refine WD.s' (E := env) (t := .agg _) ?_ | refine WD.s' (E := env) (t := .tup _) ?_ | refine WD.s' (E := env) (t := .clo _ _) ?_ | refine WD.ixm' (E := env) ?_ | refine WD.ixo' (E := env) ?_ | refine WD.legm' (E := env) ?_ | refine WD.slS' (E := env) ?_ | refine WD.slD' (E := env) ?_ | refine WG.c (E := env) rfl rfl (c1) rfl rfl ?_ | refine WD.c (E := env) rfl rfl (c1) rfl rfl ?_ | refine WG.co (E := env) rfl rfl (c1) rfl rfl rfl rfl ?_ | refine WG.cx (E := env) rfl (c1) rfl ?_ | ((first | refine WG.sp' (fun h => ?_) fun h => ?_ | refine W.cond' (fun h => ?_) fun h => ?_ | refine WD.sp' (fun h => ?_) fun h => ?_) <;> (try simp only [atS, List.length_map, beq_self_eq_true] at h) <;> (try (exfalso; first | contradiction | omega))))
  all_goals first | (exfalso; omega) | skip
  all_goals (refine W.ret ?_; (first | refine RetQ.b' ?_ | refine RetQ.i' ?_ | refine RetQ.d' ?_ | refine RetQ.t2' ?_ ?_ | refine RetQ.t3' ?_ ?_ ?_))
  all_goals rfl

end Go.Proofs.Ytmmjbpgdkokjgaa
