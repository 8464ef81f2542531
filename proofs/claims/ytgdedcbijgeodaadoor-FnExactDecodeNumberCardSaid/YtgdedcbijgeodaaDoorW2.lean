/-
  What the program's and the reference's functions on names and blanks return. Conditions: texts of at most 2^20 bytes.
-/
import Derived.Test.YtgdedcbijgeodaaDoorEnv
import Derived.Test.YtgdedcbijgeodaaDoorVal
import Derived.Test.YtgdedcbijgeodaaDoorPgC
import Derived.Test.YtgdedcbijgeodaaDoorV1
set_option linter.unusedVariables false
set_option linter.unusedSimpArgs false
set_option maxRecDepth 100000
namespace Go.Proofs.YtgdedcbijgeodaaDoor
open Go.RowKit

abbrev dY (c : Int) : D := .v (.int .u8 c)

def digitB (c : Int) : Bool := decide (48 ≤ c) && decide (c ≤ 57)
def blankB (c : Int) : Bool := decide (c = 32) || decide (c = 9) || decide (c = 10) || decide (c = 13)
def letterB (c : Int) : Bool := (decide (97 ≤ c) && decide (c ≤ 122)) || decide (c = 95)
def nameB (c : Int) : Bool := letterB c || digitB c

/-- The first place from one on whose byte is not of a kind. -/
def runTo (p : Int → Bool) (s : ByteArray) : Nat → Nat → Nat
  | 0, k => k
  | n + 1, k => if k < s.size ∧ p (byteAt s k) = true then runTo p s n (k + 1) else k

def runOf (p : Int → Bool) (s : ByteArray) (k : Nat) : Nat := runTo p s (s.size - k) k

theorem runOf_step {p : Int → Bool} {s : ByteArray} {k : Nat} (h : k < s.size) (hp : p (byteAt s k) = true) : runOf p s k = runOf p s (k + 1) := by
  unfold runOf
  rw [show s.size - k = (s.size - (k + 1)) + 1 by omega]
  simp [runTo, h, hp]

theorem runOf_stop {p : Int → Bool} {s : ByteArray} {k : Nat} (h : ¬ (k < s.size ∧ p (byteAt s k) = true)) : runOf p s k = k := by
  unfold runOf
  cases hn : s.size - k with
  | zero => rfl
  | succ n => simp only [runTo, if_neg h]

theorem runOf_ge {p : Int → Bool} {s : ByteArray} (k : Nat) : k ≤ runOf p s k ∧ (k ≤ s.size → runOf p s k ≤ s.size) := by
  unfold runOf
  generalize hn : s.size - k = n
  induction n generalizing k with
  | zero => simp [runTo]
  | succ n ih =>
    unfold runTo
    split
    · have := ih (k + 1) (by omega); omega
    · omega

theorem isDigit_fn (c : Int) : Fun env.P 14 [dY c] (.d (dB (digitB c))) [] := by
  refine Fun.intro Tryd.func14 rfl (by kernel_rfl) rfl ?_
  repeat' (first | refine W.seq ?_ | refine W.rg ?_ | refine W.dra' ?_ | refine W.block ?_ | refine W.skip ?_ | refine W.exit ?_ | refine W.cond_true' ?_ | refine W.cond_false' ?_ | refine WG.nil ?_ | refine WG.run' (E := env) ?_ | refine WG.gt' ?_ | refine WG.gf' ?_ | refine WG.ixm' (E := env) ?_ | refine WG.ixo' (E := env) ?_ | refine WG.legm' (E := env) ?_ | refine WG.slS' (E := env) ?_ | refine WG.slD' (E := env) ?_ | refine WG.ap' (E := env) ?_ | refine WD.nil ?_ | refine WD.bs' (E := env) ?_ | refine WD.s' (E := env) (t := .d _) ?_ | refine WD.p' ?_ | refine WD.px' ?_ | refine WD.s' (E := env) (t := .ea _ _) ?_ | refine WD.s' (E := env) (t := .lp _ _) ?_ | refine WD.s' (E := env) (t := .og _ _) ?_ | refine WD.s' (E := env) (t := .agg _) ?_ | refine WD.s' (E := env) (t := .tup _) ?_ | refine WD.s' (E := env) (t := .clo _ _) ?_ | refine WD.ixm' (E := env) ?_ | refine WD.ixo' (E := env) ?_ | refine WD.legm' (E := env) ?_ | refine WD.slS' (E := env) ?_ | refine WD.slD' (E := env) ?_ | ((first | refine WG.sp' (fun h => ?_) fun h => ?_ | refine W.cond' (fun h => ?_) fun h => ?_ | refine WD.sp' (fun h => ?_) fun h => ?_) <;> (try simp only [decide_eq_true_eq, decide_eq_false_iff_not, Bool.not_eq_true', Bool.not_eq_false', Bool.and_eq_true, Bool.or_eq_true, Bool.and_eq_false_iff, Bool.or_eq_false_iff, Bool.not_eq_true, Bool.not_eq_false, Int.not_lt, Int.not_le, List.length_map, beq_self_eq_true, Bool.true_eq_false, Bool.false_eq_true] at h) <;> (try (exfalso; first | contradiction | omega))))
  all_goals (refine W.ret ?_; (first | refine RetQ.b' ?_ | refine RetQ.i' ?_ | refine RetQ.d' ?_ | refine RetQ.t2' ?_ ?_ | refine RetQ.t3' ?_ ?_ ?_))
  all_goals simp [digitB, *]
  try omega

theorem digitS_fn (c : Int) : Fun env.P 12 [dY c] (.d (dB (digitB c))) [] := by
  refine Fun.intro Tryd.func12 rfl (by kernel_rfl) rfl ?_
  repeat' (first | refine W.seq ?_ | refine W.rg ?_ | refine W.dra' ?_ | refine W.block ?_ | refine W.skip ?_ | refine W.exit ?_ | refine W.cond_true' ?_ | refine W.cond_false' ?_ | refine WG.nil ?_ | refine WG.run' (E := env) ?_ | refine WG.gt' ?_ | refine WG.gf' ?_ | refine WG.ixm' (E := env) ?_ | refine WG.ixo' (E := env) ?_ | refine WG.legm' (E := env) ?_ | refine WG.slS' (E := env) ?_ | refine WG.slD' (E := env) ?_ | refine WG.ap' (E := env) ?_ | refine WD.nil ?_ | refine WD.bs' (E := env) ?_ | refine WD.s' (E := env) (t := .d _) ?_ | refine WD.p' ?_ | refine WD.px' ?_ | refine WD.s' (E := env) (t := .ea _ _) ?_ | refine WD.s' (E := env) (t := .lp _ _) ?_ | refine WD.s' (E := env) (t := .og _ _) ?_ | refine WD.s' (E := env) (t := .agg _) ?_ | refine WD.s' (E := env) (t := .tup _) ?_ | refine WD.s' (E := env) (t := .clo _ _) ?_ | refine WD.ixm' (E := env) ?_ | refine WD.ixo' (E := env) ?_ | refine WD.legm' (E := env) ?_ | refine WD.slS' (E := env) ?_ | refine WD.slD' (E := env) ?_ | ((first | refine WG.sp' (fun h => ?_) fun h => ?_ | refine W.cond' (fun h => ?_) fun h => ?_ | refine WD.sp' (fun h => ?_) fun h => ?_) <;> (try simp only [decide_eq_true_eq, decide_eq_false_iff_not, Bool.not_eq_true', Bool.not_eq_false', Bool.and_eq_true, Bool.or_eq_true, Bool.and_eq_false_iff, Bool.or_eq_false_iff, Bool.not_eq_true, Bool.not_eq_false, Int.not_lt, Int.not_le, List.length_map, beq_self_eq_true, Bool.true_eq_false, Bool.false_eq_true] at h) <;> (try (exfalso; first | contradiction | omega))))
  all_goals (refine W.ret ?_; (first | refine RetQ.b' ?_ | refine RetQ.i' ?_ | refine RetQ.d' ?_ | refine RetQ.t2' ?_ ?_ | refine RetQ.t3' ?_ ?_ ?_))
  all_goals simp [digitB, *]
  try omega






def dIR (c v : Int) : D := .agg [dI c, dI v]

def skipM (s : ByteArray) (i : Int) : D := if 0 ≤ i ∧ i ≤ s.size then dIR 0 (runOf blankB s i.toNat) else dIR 3 0





theorem skipM_form (s : ByteArray) (i : Int) : ∃ a b, skipM s i = dIR a b := by
  unfold skipM
  split
  · exact ⟨_, _, rfl⟩
  · exact ⟨_, _, rfl⟩

theorem eqIntRw_fn (a b c d : Int) : Fun env.P 6 [.agg [dI a, dI b], .agg [dI c, dI d]] (.d (dB (decide (a = c) && decide (b = d)))) [] := by
  refine Fun.intro Tryd.func6 rfl (by kernel_rfl) rfl ?_
  repeat' (first | refine W.seq ?_ | refine W.rg ?_ | refine W.dra' ?_ | refine W.block ?_ | refine W.skip ?_ | refine W.exit ?_ | refine W.cond_true' ?_ | refine W.cond_false' ?_ | refine WG.nil ?_ | refine WG.run' (E := env) ?_ | refine WG.gt' ?_ | refine WG.gf' ?_ | refine WG.ixm' (E := env) ?_ | refine WG.ixo' (E := env) ?_ | refine WG.legm' (E := env) ?_ | refine WG.slS' (E := env) ?_ | refine WG.slD' (E := env) ?_ | refine WG.ap' (E := env) ?_ | refine WD.nil ?_ | refine WD.bs' (E := env) ?_ | refine WD.s' (E := env) (t := .d _) ?_ | refine WD.p' ?_ | refine WD.px' ?_ | refine WD.s' (E := env) (t := .ea _ _) ?_ | refine WD.s' (E := env) (t := .lp _ _) ?_ | refine WD.s' (E := env) (t := .og _ _) ?_ | refine WD.s' (E := env) (t := .agg _) ?_ | refine WD.s' (E := env) (t := .tup _) ?_ | refine WD.s' (E := env) (t := .clo _ _) ?_ | refine WD.ixm' (E := env) ?_ | refine WD.ixo' (E := env) ?_ | refine WD.legm' (E := env) ?_ | refine WD.slS' (E := env) ?_ | refine WD.slD' (E := env) ?_ | ((first | refine WG.sp' (fun h => ?_) fun h => ?_ | refine W.cond' (fun h => ?_) fun h => ?_ | refine WD.sp' (fun h => ?_) fun h => ?_) <;> (try simp only [decide_eq_true_eq, decide_eq_false_iff_not, Bool.not_eq_true', Bool.not_eq_false', Bool.and_eq_true, Bool.or_eq_true, Bool.and_eq_false_iff, Bool.or_eq_false_iff, Bool.not_eq_true, Bool.not_eq_false, Int.not_lt, Int.not_le, List.length_map, beq_self_eq_true, Bool.true_eq_false, Bool.false_eq_true] at h) <;> (try (exfalso; first | contradiction | omega))))
  all_goals (refine W.ret ?_; (first | refine RetQ.b' ?_ | refine RetQ.i' ?_ | refine RetQ.d' ?_ | refine RetQ.t2' ?_ ?_ | refine RetQ.t3' ?_ ?_ ?_))
  all_goals simp [*]






/-- How many bytes of a name stand at a place. -/
def nameLen (s : ByteArray) (k : Nat) : Nat := if k < s.size ∧ letterB (byteAt s k) = true then runOf nameB s (k + 1) - k else 0


/-- A name: 1 to 12 bytes, the first no digit. -/
def isNameM (s : ByteArray) : Bool := decide (1 ≤ s.size ∧ s.size ≤ 12 ∧ nameLen s 0 = s.size)





end Go.Proofs.YtgdedcbijgeodaaDoor
