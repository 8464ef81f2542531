/-
  Texts between quotes: the program's and the reference's. Conditions: texts of at most 2^20 bytes.
-/
import Derived.Test.YthaakpbdijhgiaaGreatDoorQTokensOnD
import Derived.Test.YthaakpbdijhgiaaGreatDoorQTokensV1
set_option linter.unusedVariables false
set_option linter.unusedSimpArgs false
set_option maxRecDepth 100000
namespace Go.Proofs.YthaakpbdijhgiaaGreatDoor
open Go.RowKit

/-- A quote and the first so many bytes, written out. -/
def qN (s : ByteArray) (k : Nat) : ByteArray := ⟨(34 :: escL (s.data.toList.take k)).toArray⟩
/-- A text between quotes. -/
def quoted (s : ByteArray) : ByteArray := ⟨(34 :: escL s.data.toList ++ [34]).toArray⟩
theorem toBA_app (l m : List UInt8) : (⟨l.toArray⟩ : ByteArray) ++ ⟨m.toArray⟩ = ⟨(l ++ m).toArray⟩ := by
  apply ByteArray.ext
  rw [ByteArray.data_append]
  simp
theorem qN_zero (s : ByteArray) : qN s 0 = ⟨#[34]⟩ := by simp [qN, escL]
theorem qN_all (s : ByteArray) : qN s s.size ++ ⟨#[34]⟩ = quoted s := by
  unfold qN quoted
  rw [show s.data.toList.take s.size = s.data.toList from List.take_length]
  exact toBA_app _ [34]
theorem quoted_esc (s : ByteArray) : (⟨#[34]⟩ ++ escS s) ++ ⟨#[34]⟩ = quoted s := by
  unfold escS quoted
  rw [show (⟨#[34]⟩ : ByteArray) ++ ⟨(escL s.data.toList).toArray⟩ = ⟨([34] ++ escL s.data.toList).toArray⟩ from toBA_app [34] _]
  exact toBA_app _ [34]

theorem extract_one {s : ByteArray} {i : Nat} (h : i < s.data.toList.length) : s.extract (Int.toNat (i : Int)) (Int.toNat ((i : Int) + 1)) = ⟨[s.data.toList[i]].toArray⟩ := by
  rw [show Int.toNat (i : Int) = i by omega, show Int.toNat ((i : Int) + 1) = i + 1 by omega]
  apply ByteArray.ext
  rw [ByteArray.data_extract]
  apply Array.ext'
  rw [Array.toList_extract]
  simp only [List.extract_eq_take_drop]
  rw [show i + 1 - i = 1 by omega, List.drop_eq_getElem_cons h]
  rfl
theorem qN_sp {s : ByteArray} {i : Nat} (h : i < s.data.toList.length) (hs : spB s.data.toList[i] = true) : (qN s i ++ ⟨#[92]⟩) ++ ⟨[s.data.toList[i]].toArray⟩ = qN s (i + 1) := by
  unfold qN
  rw [show (⟨(34 :: escL (s.data.toList.take i)).toArray⟩ : ByteArray) ++ ⟨#[92]⟩ = ⟨((34 :: escL (s.data.toList.take i)) ++ [92]).toArray⟩ from toBA_app _ [92], toBA_app, escL_step h]
  unfold escC
  rw [if_pos hs]
  simp
theorem qN_plain {s : ByteArray} {i : Nat} (h : i < s.data.toList.length) (hs : spB s.data.toList[i] = false) : qN s i ++ ⟨[s.data.toList[i]].toArray⟩ = qN s (i + 1) := by
  unfold qN
  rw [toBA_app, escL_step h]
  unfold escC
  rw [if_neg (by rw [hs]; decide)]
  simp
theorem qN_size (s : ByteArray) (i : Nat) : (qN s i).size = eN s i + 1 := by
  show (List.toArray _).size = _
  rw [List.size_toArray, List.length_cons]
  rfl
theorem ba_size (a b : ByteArray) : (a ++ b).size = a.size + b.size := ByteArray.size_append

set_option maxHeartbeats 2000000 in
theorem l2Quote_fn (s : ByteArray) (hs : s.size ≤ 1048576) : Fun env.P 52 [dS s] (.d (dS (quoted s))) [] := by
  have s92 : (⟨#[92]⟩ : ByteArray).size = 1 := rfl
  have s34 : (⟨#[34]⟩ : ByteArray).size = 1 := rfl
  refine Fun.intro Tryz.func52 rfl (by kernel_rfl) rfl ?_
  repeat' (first | refine W.seq ?_ | refine W.rg ?_ | refine W.dra' ?_ | refine W.block ?_ | refine W.skip ?_ | refine W.exit ?_ | refine W.cond_true' ?_ | refine W.cond_false' ?_ | refine WG.nil ?_ | refine WG.run' (E := env) ?_ | refine WG.gt' ?_ | refine WG.gf' ?_ | refine WG.ixm' (E := env) ?_ | refine WG.ixo' (E := env) ?_ | refine WG.legm' (E := env) ?_ | refine WG.slS' (E := env) ?_ | refine WG.slD' (E := env) ?_ | refine WG.ap' (E := env) ?_ | refine WD.nil ?_ | refine WD.bs' (E := env) ?_ | refine WD.s' (E := env) (t := .d _) ?_ | refine WD.p' ?_ | refine WD.px' ?_ | refine WD.s' (E := env) (t := .ea _ _) ?_ | refine WD.s' (E := env) (t := .lp _ _) ?_ | refine WD.s' (E := env) (t := .og _ _) ?_ | refine WD.s' (E := env) (t := .agg _) ?_ | refine WD.s' (E := env) (t := .tup _) ?_ | refine WD.s' (E := env) (t := .clo _ _) ?_ | refine WD.ixm' (E := env) ?_ | refine WD.ixo' (E := env) ?_ | refine WD.legm' (E := env) ?_ | refine WD.slS' (E := env) ?_ | refine WD.slD' (E := env) ?_ | ((first | refine WG.sp' (fun h => ?_) fun h => ?_ | refine W.cond' (fun h => ?_) fun h => ?_ | refine WD.sp' (fun h => ?_) fun h => ?_) <;> (try simp only [decide_eq_true_eq, decide_eq_false_iff_not, Bool.not_eq_true', Bool.not_eq_false', Bool.and_eq_true, Bool.or_eq_true, Bool.and_eq_false_iff, Bool.or_eq_false_iff, Bool.not_eq_true, Bool.not_eq_false, Int.not_lt, Int.not_le, List.length_map, beq_self_eq_true, Bool.true_eq_false, Bool.false_eq_true] at h) <;> (try (exfalso; first | contradiction | omega))))
  refine W.loop (fun m S => ∃ (i : Nat) (b : ByteArray), m = s.size - i ∧ (i ≤ s.size ∧ b = qN s i) ∧ S = ⟨ofL [(0, vS s), (3, vS b), (4, vI .i64 i)], []⟩) _ _ ⟨0, ⟨#[34]⟩, rfl, ⟨by omega, (qN_zero s).symm⟩, rfl⟩ (by (refine le_ofL rfl ?_ ?_ <;> (repeat (first | exact trivial | refine ⟨⟨rfl, rfl⟩, ?_⟩ | refine ⟨rfl, .inl rfl, ?_⟩ | refine ⟨rfl, .inr rfl, ?_⟩)))) ?_
  rintro m S ⟨i, b, rfl, ⟨hi, hb⟩, rfl⟩
  have hge := eN_ge s i hi
  have hbz : b.size = eN s i + 1 := by rw [hb, qN_size]
  by_cases hlt : i < s.size
  · have hby : byteAt s (Int.toNat (i : Int)) = ((s.data.toList[i]'hlt).toNat : Int) := byte_at hlt
    have hex := extract_one (s := s) (i := i) hlt
    have hq1 := qN_sp (s := s) (i := i) hlt
    have hq2 := qN_plain (s := s) (i := i) hlt
    have hxz : (s.extract (Int.toNat (i : Int)) (Int.toNat ((i : Int) + 1))).size = 1 := by rw [hex]; rfl
    have hbz2 := ba_size b ⟨#[92]⟩
    rw [← hb, ← hex] at hq1 hq2
    generalize s.data.toList[i]'hlt = c at *
    repeat' (first | refine W.seq ?_ | refine W.rg ?_ | refine W.dra' ?_ | refine W.block ?_ | refine W.skip ?_ | refine W.exit ?_ | refine W.cond_true' ?_ | refine W.cond_false' ?_ | refine WG.nil ?_ | refine WG.run' (E := env) ?_ | refine WG.gt' ?_ | refine WG.gf' ?_ | refine WG.ixm' (E := env) ?_ | refine WG.ixo' (E := env) ?_ | refine WG.legm' (E := env) ?_ | refine WG.slS' (E := env) ?_ | refine WG.slD' (E := env) ?_ | refine WG.ap' (E := env) ?_ | refine WD.nil ?_ | refine WD.bs' (E := env) ?_ | refine WD.s' (E := env) (t := .d _) ?_ | refine WD.p' ?_ | refine WD.px' ?_ | refine WD.s' (E := env) (t := .ea _ _) ?_ | refine WD.s' (E := env) (t := .lp _ _) ?_ | refine WD.s' (E := env) (t := .og _ _) ?_ | refine WD.s' (E := env) (t := .agg _) ?_ | refine WD.s' (E := env) (t := .tup _) ?_ | refine WD.s' (E := env) (t := .clo _ _) ?_ | refine WD.ixm' (E := env) ?_ | refine WD.ixo' (E := env) ?_ | refine WD.legm' (E := env) ?_ | refine WD.slS' (E := env) ?_ | refine WD.slD' (E := env) ?_ | ((first | refine WG.sp' (fun h => ?_) fun h => ?_ | refine W.cond' (fun h => ?_) fun h => ?_ | refine WD.sp' (fun h => ?_) fun h => ?_) <;> (try simp only [decide_eq_true_eq, decide_eq_false_iff_not, Bool.not_eq_true', Bool.not_eq_false', Bool.and_eq_true, Bool.or_eq_true, Bool.and_eq_false_iff, Bool.or_eq_false_iff, Bool.not_eq_true, Bool.not_eq_false, Int.not_lt, Int.not_le, List.length_map, beq_self_eq_true, Bool.true_eq_false, Bool.false_eq_true] at h) <;> (try (exfalso; first | contradiction | omega))))
    · refine ⟨_, _, by omega, ⟨i + 1, (b ++ ⟨#[92]⟩) ++ s.extract (Int.toNat (i : Int)) (Int.toNat ((i : Int) + 1)), rfl, ⟨by omega, hq1 ?_⟩, rfl⟩, (by (refine le_ofL rfl ?_ ?_ <;> (repeat (first | exact trivial | refine ⟨⟨rfl, rfl⟩, ?_⟩ | refine ⟨rfl, .inl rfl, ?_⟩ | refine ⟨rfl, .inr rfl, ?_⟩))))⟩
      have : c = 34 := UInt8.toNat_inj.1 (by rw [hby] at h; exact_mod_cast h)
      rw [this]; rfl
    · refine ⟨_, _, by omega, ⟨i + 1, (b ++ ⟨#[92]⟩) ++ s.extract (Int.toNat (i : Int)) (Int.toNat ((i : Int) + 1)), rfl, ⟨by omega, hq1 ?_⟩, rfl⟩, (by (refine le_ofL rfl ?_ ?_ <;> (repeat (first | exact trivial | refine ⟨⟨rfl, rfl⟩, ?_⟩ | refine ⟨rfl, .inl rfl, ?_⟩ | refine ⟨rfl, .inr rfl, ?_⟩))))⟩
      have : c = 92 := UInt8.toNat_inj.1 (by rw [hby] at h; exact_mod_cast h)
      rw [this]; rfl
    · refine ⟨_, _, by omega, ⟨i + 1, b ++ s.extract (Int.toNat (i : Int)) (Int.toNat ((i : Int) + 1)), rfl, ⟨by omega, hq2 ?_⟩, rfl⟩, (by (refine le_ofL rfl ?_ ?_ <;> (repeat (first | exact trivial | refine ⟨⟨rfl, rfl⟩, ?_⟩ | refine ⟨rfl, .inl rfl, ?_⟩ | refine ⟨rfl, .inr rfl, ?_⟩))))⟩
      rename_i h0 _
      have e1 : ¬ c = 34 := fun e => by subst e; exact absurd hby (by assumption)
      have e2 : ¬ c = 92 := fun e => by subst e; exact absurd hby (by assumption)
      simp [spB, e1, e2]
  · obtain rfl : i = s.size := by omega
    repeat' (first | refine W.seq ?_ | refine W.rg ?_ | refine W.dra' ?_ | refine W.block ?_ | refine W.skip ?_ | refine W.exit ?_ | refine W.cond_true' ?_ | refine W.cond_false' ?_ | refine WG.nil ?_ | refine WG.run' (E := env) ?_ | refine WG.gt' ?_ | refine WG.gf' ?_ | refine WG.ixm' (E := env) ?_ | refine WG.ixo' (E := env) ?_ | refine WG.legm' (E := env) ?_ | refine WG.slS' (E := env) ?_ | refine WG.slD' (E := env) ?_ | refine WG.ap' (E := env) ?_ | refine WD.nil ?_ | refine WD.bs' (E := env) ?_ | refine WD.s' (E := env) (t := .d _) ?_ | refine WD.p' ?_ | refine WD.px' ?_ | refine WD.s' (E := env) (t := .ea _ _) ?_ | refine WD.s' (E := env) (t := .lp _ _) ?_ | refine WD.s' (E := env) (t := .og _ _) ?_ | refine WD.s' (E := env) (t := .agg _) ?_ | refine WD.s' (E := env) (t := .tup _) ?_ | refine WD.s' (E := env) (t := .clo _ _) ?_ | refine WD.ixm' (E := env) ?_ | refine WD.ixo' (E := env) ?_ | refine WD.legm' (E := env) ?_ | refine WD.slS' (E := env) ?_ | refine WD.slD' (E := env) ?_ | ((first | refine WG.sp' (fun h => ?_) fun h => ?_ | refine W.cond' (fun h => ?_) fun h => ?_ | refine WD.sp' (fun h => ?_) fun h => ?_) <;> (try simp only [decide_eq_true_eq, decide_eq_false_iff_not, Bool.not_eq_true', Bool.not_eq_false', Bool.and_eq_true, Bool.or_eq_true, Bool.and_eq_false_iff, Bool.or_eq_false_iff, Bool.not_eq_true, Bool.not_eq_false, Int.not_lt, Int.not_le, List.length_map, beq_self_eq_true, Bool.true_eq_false, Bool.false_eq_true] at h) <;> (try (exfalso; first | contradiction | omega))))
    all_goals first | (exfalso; omega) | skip
    rw [hb, qN_all]
    (refine W.ret ?_; (first | refine RetQ.b' ?_ | refine RetQ.i' ?_ | refine RetQ.d' ?_ | refine RetQ.t2' ?_ ?_ | refine RetQ.t3' ?_ ?_ ?_))
    rfl

theorem escS_size (s : ByteArray) : (escS s).size = eN s s.size := by
  rw [eN_all]
  show (List.toArray _).size = _
  rw [List.size_toArray]

set_option maxHeartbeats 2000000 in
theorem encodeString_fn (s : ByteArray) (hs : s.size ≤ 1048576) : Fun env.P 22 [dS s] (.d (dS (quoted s))) [] := by
  have h1 := NewReplacer_fn
  have h2 := Replace_fn s (escS s) (bsr_fn s hs)
  have s34 : (⟨#[34]⟩ : ByteArray).size = 1 := rfl
  have hge := eN_ge s s.size (Nat.le_refl _)
  have hz := escS_size s
  have hbz := ba_size ⟨#[34]⟩ (escS s)
  refine Fun.intro Tryz.func22 rfl (by kernel_rfl) rfl ?_
  repeat' (first | refine WG.bsD (E := env) ?_ | refine W.seq ?_ | refine W.rg ?_ | refine W.dra' ?_ | refine W.block ?_ | refine W.skip ?_ | refine W.exit ?_ | refine W.cond_true' ?_ | refine W.cond_false' ?_ | refine WG.nil ?_ | refine WG.run' (E := env) ?_ | refine WG.gt' ?_ | refine WG.gf' ?_ | refine WG.ixm' (E := env) ?_ | refine WG.ixo' (E := env) ?_ | refine WG.legm' (E := env) ?_ | refine WG.slS' (E := env) ?_ | refine WG.slD' (E := env) ?_ | refine WG.ap' (E := env) ?_ | refine WD.nil ?_ | refine WD.bs' (E := env) ?_ | refine WD.s' (E := env) (t := .d _) ?_ | refine WD.p' ?_ | refine WD.px' ?_ | refine WD.s' (E := env) (t := .ea _ _) ?_ | refine WD.s' (E := env) (t := .lp _ _) ?_ | refine WD.s' (E := env) (t := .og _ _) ?_ | refine WD.s' (E := env) (t := .agg _) ?_ | refine WD.s' (E := env) (t := .tup _) ?_ | refine WD.s' (E := env) (t := .clo _ _) ?_ | refine WD.ixm' (E := env) ?_ | refine WD.ixo' (E := env) ?_ | refine WD.legm' (E := env) ?_ | refine WD.slS' (E := env) ?_ | refine WD.slD' (E := env) ?_ | refine WG.c (E := env) rfl rfl (h1) rfl rfl ?_ | refine WD.c (E := env) rfl rfl (h1) rfl rfl ?_ | refine WG.co (E := env) rfl rfl (h1) rfl rfl rfl rfl ?_ | refine WG.cx (E := env) rfl (h1) rfl ?_ | refine WG.cq (E := env) [0] [0] false rfl rfl (h2) rfl rfl rfl rfl rfl rfl rfl (by first | exact trivial | exact ⟨rfl, trivial⟩ | exact ⟨rfl, rfl, trivial⟩) (.inl rfl) rfl (fun h => nomatch h) rfl rfl ?_ | refine WG.cqx (E := env) [0] [0] false rfl (h2) rfl rfl rfl rfl rfl rfl rfl (by first | exact trivial | exact ⟨rfl, trivial⟩ | exact ⟨rfl, rfl, trivial⟩) (.inl rfl) rfl (fun h => nomatch h) rfl ?_ | ((first | refine WG.sp' (fun h => ?_) fun h => ?_ | refine W.cond' (fun h => ?_) fun h => ?_ | refine WD.sp' (fun h => ?_) fun h => ?_) <;> (try simp only [decide_eq_true_eq, decide_eq_false_iff_not, Bool.not_eq_true', Bool.not_eq_false', Bool.and_eq_true, Bool.or_eq_true, Bool.and_eq_false_iff, Bool.or_eq_false_iff, Bool.not_eq_true, Bool.not_eq_false, Int.not_lt, Int.not_le, List.length_map, beq_self_eq_true, Bool.true_eq_false, Bool.false_eq_true] at h) <;> (try (exfalso; first | contradiction | omega))))
  rw [quoted_esc]
  (refine W.ret ?_; (first | refine RetQ.b' ?_ | refine RetQ.i' ?_ | refine RetQ.d' ?_ | refine RetQ.t2' ?_ ?_ | refine RetQ.t3' ?_ ?_ ?_))
  rfl

end Go.Proofs.YthaakpbdijhgiaaGreatDoor
