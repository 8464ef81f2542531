/-
  What the program's and the reference's functions on names and blanks return. Conditions: texts of at most 2^20 bytes.
-/
import Derived.Test.YtmmjbpgdkokjgaaGreatQLowerTreeHead
import Derived.Test.YtmmjbpgdkokjgaaGreatQLowerTreeOr1
import Derived.Test.YtmmjbpgdkokjgaaGreatQLowerTreePgC
import Derived.Test.YtmmjbpgdkokjgaaGreatQLowerTreeV5
set_option linter.unusedVariables false
set_option linter.unusedSimpArgs false
set_option maxRecDepth 100000
namespace Go.Proofs.YtmmjbpgdkokjgaaGreat
open Go.RowKit

abbrev dY (c : Int) : D := .v (.int .u8 c)

def digitB (c : Int) : Bool := decide (48 ≤ c) && decide (c ≤ 57)
def letterB (c : Int) : Bool := (decide (97 ≤ c) && decide (c ≤ 122)) || decide (c = 95)
def nameB (c : Int) : Bool := letterB c || digitB c

/-- The first place from one on whose byte is not of a kind. -/
def runTo (p : Int → Bool) (s : ByteArray) : Nat → Nat → Nat
  | 0, k => k
  | n + 1, k => if k < s.size ∧ p (byteAt s k) = true then runTo p s n (k + 1) else k

def runOf (p : Int → Bool) (s : ByteArray) (k : Nat) : Nat := runTo p s (s.size - k) k

theorem runOf_step {p : Int → Bool} {s : ByteArray} {k : Nat} (h : k < s.size) (hp : p (byteAt s k) = true) : runOf p s k = runOf p s (k + 1) := by
  unfold runOf
  rw [show s.size - k = (s.size - (k + 1)) + 1 by omega]
  simp [runTo, h, hp]

theorem runOf_stop {p : Int → Bool} {s : ByteArray} {k : Nat} (h : ¬ (k < s.size ∧ p (byteAt s k) = true)) : runOf p s k = k := by
  unfold runOf
  cases hn : s.size - k with
  | zero => rfl
  | succ n => simp only [runTo, if_neg h]

theorem isDigit_fn (c : Int) : Fun env.P 134 [dY c] (.d (dB (digitB c))) [] := by
  refine Fun.intro Tryz.func134 rfl (by kernel_rfl) rfl ?_
  repeat' (first | refine W.seq ?_ | refine W.rg ?_ | refine WG.nil ?_ | refine WG.run' (E := env) ?_ | ((refine WG.sp' (fun h => ?_) fun h => ?_) <;> (try simp only [atS, List.length_map, beq_self_eq_true] at h) <;> (try (exfalso; first | contradiction | omega))))
  all_goals (refine W.ret ?_; (first | refine RetQ.b' ?_))
  all_goals simp [digitB, *]
  try omega

theorem digitS_fn (c : Int) : Fun env.P 132 [dY c] (.d (dB (digitB c))) [] := by
  refine Fun.intro Tryz.func132 rfl (by kernel_rfl) rfl ?_
  repeat' (first | refine W.seq ?_ | refine W.rg ?_ | refine WG.nil ?_ | refine WG.run' (E := env) ?_ | ((refine WG.sp' (fun h => ?_) fun h => ?_) <;> (try simp only [atS, List.length_map, beq_self_eq_true] at h) <;> (try (exfalso; first | contradiction | omega))))
  all_goals (refine W.ret ?_; (first | refine RetQ.b' ?_))
  all_goals simp [digitB, *]
  try omega

theorem length_fn (s : ByteArray) : Fun env.P 124 [dS s] (.d (dI s.size)) [] := by
  refine Fun.intro Tryz.func124 rfl (by kernel_rfl) rfl ?_
  repeat' (first | refine W.seq ?_ | refine W.rg ?_ | refine WG.nil ?_ | refine WG.run' (E := env) ?_)
  (refine W.ret ?_; (first | refine RetQ.i' ?_))
  rfl

theorem letterS_fn (c : Int) : Fun env.P 121 [dY c] (.d (dB (letterB c))) [] := by
  refine Fun.intro Tryz.func121 rfl (by kernel_rfl) rfl ?_
  repeat' (first | refine W.seq ?_ | refine W.rg ?_ | refine WG.nil ?_ | refine WG.run' (E := env) ?_ | refine WG.gt' ?_ | ((refine WG.sp' (fun h => ?_) fun h => ?_) <;> (try simp only [atS, List.length_map, beq_self_eq_true] at h) <;> (try (exfalso; first | contradiction | omega))))
  all_goals (refine W.ret ?_; (first | refine RetQ.b' ?_))
  all_goals simp [letterB, *]
  all_goals try omega

theorem restS_fn (c : Int) : Fun env.P 122 [dY c] (.d (dB (nameB c))) [] := by
  refine Fun.intro Tryz.func122 rfl (by kernel_rfl) rfl ?_
  repeat' (first | refine W.seq ?_ | refine W.rg ?_ | refine WG.nil ?_ | refine WG.run' (E := env) ?_ | refine WG.c (E := env) rfl rfl (letterS_fn _) rfl rfl ?_ | refine WG.c (E := env) rfl rfl (digitS_fn _) rfl rfl ?_ | ((refine WG.sp' (fun h => ?_) fun h => ?_) <;> (try simp only [atS, List.length_map, beq_self_eq_true] at h) <;> (try (exfalso; first | contradiction | omega))))
  all_goals (refine W.ret ?_; (first | refine RetQ.b' ?_))
  all_goals simp [nameB, *]

theorem isNameByte_fn (c : Int) : Fun env.P 133 [dY c] (.d (dB (nameB c))) [] := by
  refine Fun.intro Tryz.func133 rfl (by kernel_rfl) rfl ?_
  repeat' (first | refine W.seq ?_ | refine W.rg ?_ | refine WG.nil ?_ | refine WG.run' (E := env) ?_ | refine WG.gt' ?_ | refine WG.gf' ?_ | refine WG.c (E := env) rfl rfl (isDigit_fn _) rfl rfl ?_ | ((refine WG.sp' (fun h => ?_) fun h => ?_) <;> (try simp only [atS, List.length_map, beq_self_eq_true] at h) <;> (try (exfalso; first | contradiction | omega))))
  all_goals (refine W.ret ?_; (first | refine RetQ.b' ?_))
  all_goals rw [Bool.eq_iff_iff]
  all_goals simp [nameB, letterB, digitB] at *
  all_goals omega

/-- How many bytes of a name stand at a place. -/
def nameLen (s : ByteArray) (k : Nat) : Nat := if k < s.size ∧ letterB (byteAt s k) = true then runOf nameB s (k + 1) - k else 0

set_option maxHeartbeats 400000 in
theorem nameRun_fn (s : ByteArray) (k : Nat) (hs : s.size ≤ 1048576) (hk : k ≤ 1048576) : Fun env.P 125 [dS s, dI k] (.d (dI (nameLen s k))) [] := by
  refine Fun.intro Tryz.func125 rfl (by kernel_rfl) rfl ?_
  repeat' (first | refine W.seq ?_ | refine W.rg ?_ | refine W.block ?_ | refine W.skip ?_ | refine W.exit ?_ | refine W.cond_true' ?_ | refine W.cond_false' ?_ | refine WG.nil ?_ | refine WG.run' (E := env) ?_ | refine WG.gf' ?_ | ((first | refine WG.sp' (fun h => ?_) fun h => ?_ | refine W.cond' (fun h => ?_) fun h => ?_) <;> (try simp only [atS, List.length_map, beq_self_eq_true] at h) <;> (try (exfalso; first | contradiction | omega))))
  refine W.loop (fun m S => ∃ j : Nat, m = s.size - (k + j) ∧ (0 < j → k + j ≤ s.size ∧ k < s.size ∧ letterB (byteAt s k) = true ∧ runOf nameB s (k + 1) = runOf nameB s (k + j)) ∧ S = ⟨ofL [(0, vS s), (1, vI .i64 k), (5, vI .i64 j)], []⟩) _ _ ⟨0, rfl, by omega, rfl⟩ (by (refine le_ofL rfl ?_ ?_ <;> (repeat (first | exact trivial | refine ⟨⟨rfl, rfl⟩, ?_⟩ | refine ⟨rfl, .inl rfl, ?_⟩ | refine ⟨rfl, .inr rfl, ?_⟩)))) ?_
  rintro m S ⟨j, rfl, hj, rfl⟩
  repeat' (first | refine W.seq ?_ | refine W.rg ?_ | refine W.block ?_ | refine W.skip ?_ | refine W.exit ?_ | refine W.cond_true' ?_ | refine W.cond_false' ?_ | refine WG.nil ?_ | refine WG.run' (E := env) ?_ | refine WG.gf' ?_ | refine WG.c (E := env) rfl rfl (isNameByte_fn _) rfl rfl ?_ | refine WG.c (E := env) rfl rfl (isDigit_fn _) rfl rfl ?_ | ((first | refine WG.sp' (fun h => ?_) fun h => ?_ | refine W.cond' (fun h => ?_) fun h => ?_) <;> (try simp only [atS, List.length_map, beq_self_eq_true] at h) <;> (try (exfalso; first | contradiction | omega))))
  · (try simp only [Int.toNat_natCast, Int.toNat_zero, toNat_cc, toNat_c1, toNat_cm1, toNat_cm] at *)
    obtain ⟨h1, h2, h3, h4⟩ := hj (by omega)
    exact ⟨_, _, by omega, ⟨j + 1, rfl, fun _ => ⟨by omega, h2, h3, by rw [h4]; exact runOf_step (by omega) ‹_›⟩, rfl⟩, (by (refine le_ofL rfl ?_ ?_ <;> (repeat (first | exact trivial | refine ⟨⟨rfl, rfl⟩, ?_⟩ | refine ⟨rfl, .inl rfl, ?_⟩ | refine ⟨rfl, .inr rfl, ?_⟩))))⟩
  · obtain rfl : j = 0 := by omega
    (try simp only [Int.toNat_natCast, Int.toNat_zero, toNat_cc, toNat_c1, toNat_cm1, toNat_cm] at *)
    exact ⟨_, _, by omega, ⟨1, rfl, fun _ => ⟨by omega, by omega, by simp_all [nameB], rfl⟩, rfl⟩, (by (refine le_ofL rfl ?_ ?_ <;> (repeat (first | exact trivial | refine ⟨⟨rfl, rfl⟩, ?_⟩ | refine ⟨rfl, .inl rfl, ?_⟩ | refine ⟨rfl, .inr rfl, ?_⟩))))⟩
  · (refine W.ret ?_; (first | refine RetQ.i' ?_))
    obtain rfl : j = 0 := by omega
    (try simp only [Int.toNat_natCast, Int.toNat_zero, toNat_cc, toNat_c1, toNat_cm1, toNat_cm] at *)
    rw [nameLen, if_neg]
    rintro ⟨_, h⟩
    simp [letterB, digitB] at *
    omega
  · (refine W.ret ?_; (first | refine RetQ.i' ?_))
    (try simp only [Int.toNat_natCast, Int.toNat_zero, toNat_cc, toNat_c1, toNat_cm1, toNat_cm] at *)
    rw [nameLen]
    by_cases hj0 : j = 0
    · subst hj0
      rw [if_neg]
      rintro ⟨_, h⟩
      simp_all [nameB]
    · obtain ⟨h1, h2, h3, h4⟩ := hj (by omega)
      rw [if_pos ⟨h2, h3⟩, h4, runOf_stop (by rintro ⟨_, h⟩; simp_all)]
      congr 1; omega
  · (refine W.ret ?_; (first | refine RetQ.i' ?_))
    (try simp only [Int.toNat_natCast, Int.toNat_zero, toNat_cc, toNat_c1, toNat_cm1, toNat_cm] at *)
    rw [nameLen]
    by_cases hj0 : j = 0
    · subst hj0
      rw [if_neg]
      rintro ⟨_, h⟩
      omega
    · obtain ⟨h1, h2, h3, h4⟩ := hj (by omega)
      rw [if_pos ⟨h2, h3⟩, h4, runOf_stop (by rintro ⟨_, h⟩; omega)]
      congr 1; omega

/-- A name: 1 to 12 bytes, the first no digit. -/
def isNameM (s : ByteArray) : Bool := decide (1 ≤ s.size ∧ s.size ≤ 12 ∧ nameLen s 0 = s.size)

theorem IsName_fn (s : ByteArray) (hs : s.size ≤ 1048576) : Fun env.P 106 [dS s] (.d (dB (isNameM s))) [] := by
  have hn := nameRun_fn s 0 hs (by omega)
  refine Fun.intro Tryz.func106 rfl (by kernel_rfl) rfl ?_
  repeat' (first | refine W.seq ?_ | refine W.rg ?_ | refine WG.nil ?_ | refine WG.run' (E := env) ?_ | refine WG.c (E := env) rfl rfl (length_fn _) rfl rfl ?_ | refine WG.c (E := env) rfl rfl (within_fn _ _ _) rfl rfl ?_ | refine WG.c (E := env) rfl rfl (hn) rfl rfl ?_ | ((refine WG.sp' (fun h => ?_) fun h => ?_) <;> (try simp only [atS, List.length_map, beq_self_eq_true] at h) <;> (try (exfalso; first | contradiction | omega))))
  all_goals (refine W.ret ?_; (first | refine RetQ.b' ?_))
  · rw [Bool.eq_iff_iff]; simp [isNameM]; omega
  · simp [isNameM]; omega

theorem IsNameS_fn (s : ByteArray) (hs : s.size ≤ 1048576) : Fun env.P 102 [dS s] (.d (dB (isNameM s))) [] := by
  refine Fun.intro Tryz.func102 rfl (by kernel_rfl) rfl ?_
  repeat' (first | refine W.seq ?_ | refine W.rg ?_ | refine W.block ?_ | refine W.skip ?_ | refine W.exit ?_ | refine W.cond_true' ?_ | refine WG.nil ?_ | refine WG.run' (E := env) ?_ | refine WG.gf' ?_ | refine WG.c (E := env) rfl rfl (letterS_fn _) rfl rfl ?_ | ((first | refine WG.sp' (fun h => ?_) fun h => ?_ | refine W.cond' (fun h => ?_) fun h => ?_) <;> (try simp only [atS, List.length_map, beq_self_eq_true] at h) <;> (try (exfalso; first | contradiction | omega))))
  · (refine W.ret ?_; (first | refine RetQ.b' ?_))
    simp [isNameM]; omega
  · (refine W.ret ?_; (first | refine RetQ.b' ?_))
    simp [isNameM]; omega
  · (refine W.ret ?_; (first | refine RetQ.b' ?_))
    (try simp only [Int.toNat_natCast, Int.toNat_zero, toNat_cc, toNat_c1, toNat_cm1, toNat_cm] at *)
    simp [isNameM, nameLen]; simp_all; omega
  refine W.loop (fun m S => ∃ j : Nat, m = s.size - j ∧ (1 ≤ j ∧ j ≤ s.size ∧ letterB (byteAt s 0) = true ∧ runOf nameB s 1 = runOf nameB s j) ∧ S = ⟨ofL [(0, vS s), (3, vI .i64 j)], []⟩) _ _ ⟨1, rfl, ⟨by omega, by omega, by assumption, rfl⟩, rfl⟩ (by (refine le_ofL rfl ?_ ?_ <;> (repeat (first | exact trivial | refine ⟨⟨rfl, rfl⟩, ?_⟩ | refine ⟨rfl, .inl rfl, ?_⟩ | refine ⟨rfl, .inr rfl, ?_⟩)))) ?_
  rintro m S ⟨j, rfl, hj, rfl⟩
  repeat' (first | refine W.seq ?_ | refine W.rg ?_ | refine W.block ?_ | refine W.skip ?_ | refine W.exit ?_ | refine W.cond_true' ?_ | refine WG.nil ?_ | refine WG.run' (E := env) ?_ | refine WG.gf' ?_ | refine WG.c (E := env) rfl rfl (restS_fn _) rfl rfl ?_ | ((first | refine WG.sp' (fun h => ?_) fun h => ?_ | refine W.cond' (fun h => ?_) fun h => ?_) <;> (try simp only [atS, List.length_map, beq_self_eq_true] at h) <;> (try (exfalso; first | contradiction | omega))))
  · (refine W.ret ?_; (first | refine RetQ.b' ?_))
    (try simp only [Int.toNat_natCast, Int.toNat_zero, toNat_cc, toNat_c1, toNat_cm1, toNat_cm] at *)
    obtain ⟨h1, h2, h3, h4⟩ := hj
    have e : nameLen s 0 = j := by
      unfold nameLen
      rw [if_pos ⟨by omega, h3⟩, h4, runOf_stop (by rintro ⟨_, h⟩; simp_all)]
      rfl
    simp [isNameM, e]; omega
  · (try simp only [Int.toNat_natCast, Int.toNat_zero, toNat_cc, toNat_c1, toNat_cm1, toNat_cm] at *)
    obtain ⟨h1, h2, h3, h4⟩ := hj
    exact ⟨_, _, by omega, ⟨j + 1, rfl, ⟨by omega, by omega, h3, by rw [h4]; exact runOf_step (by omega) ‹_›⟩, rfl⟩, (by (refine le_ofL rfl ?_ ?_ <;> (repeat (first | exact trivial | refine ⟨⟨rfl, rfl⟩, ?_⟩ | refine ⟨rfl, .inl rfl, ?_⟩ | refine ⟨rfl, .inr rfl, ?_⟩))))⟩
  · (refine W.ret ?_; (first | refine RetQ.b' ?_))
    (try simp only [Int.toNat_natCast, Int.toNat_zero, toNat_cc, toNat_c1, toNat_cm1, toNat_cm] at *)
    obtain ⟨h1, h2, h3, h4⟩ := hj
    have e : nameLen s 0 = j := by
      unfold nameLen
      rw [if_pos ⟨by omega, h3⟩, h4, runOf_stop (by rintro ⟨_, h⟩; omega)]
      rfl
    simp [isNameM, e]; omega

end Go.Proofs.YtmmjbpgdkokjgaaGreat
