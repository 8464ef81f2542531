/-
  Tokens joined, by the program and by the reference. Conditions: texts of at most 2^20 bytes.
-/
import Derived.Test.YthaakpbdijhgiaaGreatDoorQTokensTk2
import Derived.Test.YthaakpbdijhgiaaGreatDoorQTokensEn0
set_option linter.unusedVariables false
set_option linter.unusedSimpArgs false
set_option maxRecDepth 100000
namespace Go.Proofs.YthaakpbdijhgiaaGreatDoor
open Go.RowKit

abbrev spS : ByteArray := ⟨#[32]⟩

theorem tokC_zero {t : Tk} (h : tokC t = 0) : (1 ≤ t.kind ∧ t.kind ≤ 6) ∧ tokFit t.kind t.text = true ∧ 0 ≤ t.num ∧ t.num ≤ 1000000000000000 := by
  unfold tokC at h
  split at h
  · exact absurd h (by decide)
  · rename_i h1
    split at h
    · exact absurd h (by decide)
    · rename_i h2
      split at h
      · exact absurd h (by decide)
      · rename_i h3
        refine ⟨Classical.not_not.1 h1, ?_, Classical.not_not.1 h3⟩
        cases e : tokFit t.kind t.text with
        | true => rfl
        | false => exact absurd (.inr e) h2

theorem among_in {l : List ByteArray} {s : ByteArray} (h : among l s = true) : s ∈ l := by
  induction l with
  | nil => cases h
  | cons x r ih =>
    simp only [among, Bool.or_eq_true, decide_eq_true_eq] at h
    rcases h with rfl | h
    · exact List.mem_cons_self ..
    · exact List.mem_cons_of_mem _ (ih h)
theorem marksT_size : ∀ x ∈ marksT, x.size ≤ 2 := by decide

theorem tokS_size (t : Tk) : (tokS t).size ≤ 122 := by
  unfold tokS
  split
  · rename_i h
    obtain ⟨⟨k0, k1⟩, hf, n0, n1⟩ := tokC_zero h
    unfold tokFit at hf
    unfold tokT
    by_cases e1 : t.kind = 1
    · rw [if_pos e1]
      have := itoaS_size t.num (by omega) (by omega)
      omega
    rw [if_neg e1] at hf ⊢
    by_cases e2 : t.kind = 2
    · rw [if_pos e2] at hf ⊢
      exact quoted_small hf
    rw [if_neg e2] at hf ⊢
    by_cases e6 : t.kind = 6
    · rw [if_pos e6] at hf
      have := marksT_size _ (among_in hf)
      rw [if_neg (by omega), if_neg (by omega)]
      omega
    rw [if_neg e6] at hf
    have hn : t.text.size ≤ 12 := by
      unfold isNameM at hf
      rw [decide_eq_true_eq] at hf
      exact hf.2.1
    have b1 : (⟨#[46]⟩ : ByteArray).size = 1 := rfl
    have b2 : (⟨#[36]⟩ : ByteArray).size = 1 := rfl
    split
    · rw [ByteArray.size_append]; omega
    · split
      · rw [ByteArray.size_append]; omega
      · omega
  · exact Nat.zero_le _

/-- The first code of tokens that is not 0. -/
def firstT : List Tk → Int
  | [] => 0
  | t :: r => if tokC t ≠ 0 then tokC t else firstT r
theorem firstT_step {xs : List Tk} {i : Nat} (h : i < xs.length) : firstT (xs.drop i) = if tokC (xs.getD i default) ≠ 0 then tokC (xs.getD i default) else firstT (xs.drop (i + 1)) := by
  rw [drop_step h, firstT]
theorem tokS_bad {t : Tk} (h : tokC t ≠ 0) : tokS t = noS := if_neg h

def toksC (xs : List Tk) : Int := if 300 < xs.length then 2 else firstT xs
def toksT (xs : List Tk) : ByteArray := if 300 < xs.length then noS else if firstT xs ≠ 0 then noS else joinS (xs.map tokS) spS

theorem words_take {xs : List Tk} {i : Nat} (h : i < xs.length) : (xs.take (i + 1)).map tokS = (xs.take i).map tokS ++ [tokS (xs.getD i default)] := by
  rw [take_step h, List.map_append]
  rfl
theorem words_size (xs : List Tk) (i : Nat) (h : xs.length ≤ 300) : (joinS ((xs.take i).map tokS) spS).size ≤ 40000 := by
  have h1 := joinS_size_le ((xs.take i).map tokS) spS 122 fun x hx => by
    obtain ⟨t, _, rfl⟩ := List.mem_map.1 hx
    exact tokS_size t
  have h2 : ((xs.take i).map tokS).length ≤ 300 := by simp; omega
  have h3 : spS.size = 1 := rfl
  rw [h3] at h1
  have := Nat.mul_le_mul_right (122 + 1) h2
  omega

set_option maxHeartbeats 4000000 in
theorem JoinTokens_fn (q : TypeId × (Nat × Nat)) (xs : List Tk) (hf : ∀ t ∈ xs, t.text.size ≤ 1048576) (hl : xs.length ≤ 1048576) : FunQ env.P 6 [.d (toksD xs)] [tabO q] (just (.d (.agg [dI (toksC xs), dS (toksT xs)])) [tabO q]) := by
  refine FunQ.intro Tryz.func6 rfl (by kernel_rfl) rfl ?_
  by_cases h3 : 300 < xs.length
  · have e1 : toksC xs = 2 := if_pos h3
    have e2 : toksT xs = noS := if_pos h3
    rw [e1, e2]
    repeat' (first | refine W.seq ?_ | refine W.rg ?_ | refine W.dra' ?_ | refine W.block ?_ | refine W.skip ?_ | refine W.exit ?_ | refine W.cond_true' ?_ | refine W.cond_false' ?_ | refine WG.nil ?_ | refine WG.run' (E := env) ?_ | refine WG.gt' ?_ | refine WG.gf' ?_ | refine WG.ixm' (E := env) ?_ | refine WG.ixo' (E := env) ?_ | refine WG.legm' (E := env) ?_ | refine WG.slS' (E := env) ?_ | refine WG.slD' (E := env) ?_ | refine WG.ap' (E := env) ?_ | refine WD.nil ?_ | refine WD.bs' (E := env) ?_ | refine WD.s' (E := env) (t := .d _) ?_ | refine WD.p' ?_ | refine WD.px' ?_ | refine WD.s' (E := env) (t := .ea _ _) ?_ | refine WD.s' (E := env) (t := .lp _ _) ?_ | refine WD.s' (E := env) (t := .og _ _) ?_ | refine WD.s' (E := env) (t := .agg _) ?_ | refine WD.s' (E := env) (t := .tup _) ?_ | refine WD.s' (E := env) (t := .clo _ _) ?_ | refine WD.ixm' (E := env) ?_ | refine WD.ixo' (E := env) ?_ | refine WD.legm' (E := env) ?_ | refine WD.slS' (E := env) ?_ | refine WD.slD' (E := env) ?_ | ((first | refine WG.sp' (fun h => ?_) fun h => ?_ | refine W.cond' (fun h => ?_) fun h => ?_ | refine WD.sp' (fun h => ?_) fun h => ?_) <;> (try simp only [decide_eq_true_eq, decide_eq_false_iff_not, Bool.not_eq_true', Bool.not_eq_false', Bool.and_eq_true, Bool.or_eq_true, Bool.and_eq_false_iff, Bool.or_eq_false_iff, Bool.not_eq_true, Bool.not_eq_false, Int.not_lt, Int.not_le, List.length_map, beq_self_eq_true, Bool.true_eq_false, Bool.false_eq_true] at h) <;> (try (exfalso; first | contradiction | omega))))
    all_goals first | (exfalso; omega) | skip
    (refine W.ret ?_; refine RetR.tb' ?_)
    rfl
  · have e1 : toksC xs = firstT xs := if_neg h3
    have e2 : toksT xs = if firstT xs ≠ 0 then noS else joinS (xs.map tokS) spS := if_neg h3
    rw [e1, e2]
    repeat' (first | refine W.seq ?_ | refine W.rg ?_ | refine W.dra' ?_ | refine W.block ?_ | refine W.skip ?_ | refine W.exit ?_ | refine W.cond_true' ?_ | refine W.cond_false' ?_ | refine WG.nil ?_ | refine WG.run' (E := env) ?_ | refine WG.gt' ?_ | refine WG.gf' ?_ | refine WG.ixm' (E := env) ?_ | refine WG.ixo' (E := env) ?_ | refine WG.legm' (E := env) ?_ | refine WG.slS' (E := env) ?_ | refine WG.slD' (E := env) ?_ | refine WG.ap' (E := env) ?_ | refine WD.nil ?_ | refine WD.bs' (E := env) ?_ | refine WD.s' (E := env) (t := .d _) ?_ | refine WD.p' ?_ | refine WD.px' ?_ | refine WD.s' (E := env) (t := .ea _ _) ?_ | refine WD.s' (E := env) (t := .lp _ _) ?_ | refine WD.s' (E := env) (t := .og _ _) ?_ | refine WD.s' (E := env) (t := .agg _) ?_ | refine WD.s' (E := env) (t := .tup _) ?_ | refine WD.s' (E := env) (t := .clo _ _) ?_ | refine WD.ixm' (E := env) ?_ | refine WD.ixo' (E := env) ?_ | refine WD.legm' (E := env) ?_ | refine WD.slS' (E := env) ?_ | refine WD.slD' (E := env) ?_ | ((first | refine WG.sp' (fun h => ?_) fun h => ?_ | refine W.cond' (fun h => ?_) fun h => ?_ | refine WD.sp' (fun h => ?_) fun h => ?_) <;> (try simp only [decide_eq_true_eq, decide_eq_false_iff_not, Bool.not_eq_true', Bool.not_eq_false', Bool.and_eq_true, Bool.or_eq_true, Bool.and_eq_false_iff, Bool.or_eq_false_iff, Bool.not_eq_true, Bool.not_eq_false, Int.not_lt, Int.not_le, List.length_map, beq_self_eq_true, Bool.true_eq_false, Bool.false_eq_true] at h) <;> (try (exfalso; first | contradiction | omega))))
    refine W.loopI (fun m S => ∃ (i : Nat) (rv : List (List D)), m = xs.length - i ∧ (i ≤ xs.length ∧ rv.length = i ∧ rv = ((xs.take i).map tokS).map keyRow ∧ firstT (xs.drop i) = firstT xs) ∧ S = ⟨ofL [(0, .d (toksD xs)), (2, .lp 1 0), (3, .og 2 0), (12, .d (toksD xs)), (13, vI .i64 (xs.map Tk.row).length), (14, vI .i64 i)], [tabO q, .pv [.d (dI 0), .d (dS ByteArray.empty)], .gr 1 9 rv 0 false]⟩) _ _ ⟨0, [], rfl, ⟨by omega, rfl, rfl, rfl⟩, rfl⟩ (St.imp.of_le (by (refine le_ofL rfl ?_ ?_ <;> (repeat (first | exact trivial | refine ⟨⟨rfl, rfl⟩, ?_⟩ | refine ⟨rfl, .inl rfl, ?_⟩ | refine ⟨rfl, .inr rfl, ?_⟩))))) ?_
    rintro m S ⟨i, rv, rfl, ⟨hi, hrl, hrv, hfe⟩, rfl⟩
    by_cases hlt : i < xs.length
    · have ht := TokenText_fn q (xs.getD (Int.toNat (i : Int)) default) (hf _ (getD_mem' (by rw [Int.toNat_natCast]; exact hlt)))
      have hw := words_take hlt
      have hb := @tokS_bad (xs.getD i default)
      rw [firstT_step hlt] at hfe
      rw [← Int.toNat_natCast i] at hfe hb hw
      rw [Int.toNat_natCast i] at hw
      generalize hc : tokC (xs.getD (Int.toNat (i : Int)) default) = c at *
      generalize hs : tokS (xs.getD (Int.toNat (i : Int)) default) = s at *
      repeat' (first | refine W.seq ?_ | refine W.rg ?_ | refine W.dra' ?_ | refine W.block ?_ | refine W.skip ?_ | refine W.exit ?_ | refine W.cond_true' ?_ | refine W.cond_false' ?_ | refine WG.nil ?_ | refine WG.run' (E := env) ?_ | refine WG.gt' ?_ | refine WG.gf' ?_ | refine WG.ixm' (E := env) ?_ | refine WG.ixo' (E := env) ?_ | refine WG.legm' (E := env) ?_ | refine WG.slS' (E := env) ?_ | refine WG.slD' (E := env) ?_ | refine WG.ap' (E := env) ?_ | refine WD.nil ?_ | refine WD.bs' (E := env) ?_ | refine WD.s' (E := env) (t := .d _) ?_ | refine WD.p' ?_ | refine WD.px' ?_ | refine WD.s' (E := env) (t := .ea _ _) ?_ | refine WD.s' (E := env) (t := .lp _ _) ?_ | refine WD.s' (E := env) (t := .og _ _) ?_ | refine WD.s' (E := env) (t := .agg _) ?_ | refine WD.s' (E := env) (t := .tup _) ?_ | refine WD.s' (E := env) (t := .clo _ _) ?_ | refine WD.ixm' (E := env) ?_ | refine WD.ixo' (E := env) ?_ | refine WD.legm' (E := env) ?_ | refine WD.slS' (E := env) ?_ | refine WD.slD' (E := env) ?_ | refine WG.cq (E := env) [0] [0] false rfl rfl (ht) rfl rfl rfl rfl rfl rfl rfl (by first | exact trivial | exact ⟨rfl, trivial⟩ | exact ⟨rfl, rfl, trivial⟩) (.inl rfl) rfl (fun h => nomatch h) rfl rfl ?_ | refine WG.cqx (E := env) [0] [0] false rfl (ht) rfl rfl rfl rfl rfl rfl rfl (by first | exact trivial | exact ⟨rfl, trivial⟩ | exact ⟨rfl, rfl, trivial⟩) (.inl rfl) rfl (fun h => nomatch h) rfl ?_ | ((first | refine WG.sp' (fun h => ?_) fun h => ?_ | refine W.cond' (fun h => ?_) fun h => ?_ | refine WD.sp' (fun h => ?_) fun h => ?_) <;> (try simp only [decide_eq_true_eq, decide_eq_false_iff_not, Bool.not_eq_true', Bool.not_eq_false', Bool.and_eq_true, Bool.or_eq_true, Bool.and_eq_false_iff, Bool.or_eq_false_iff, Bool.not_eq_true, Bool.not_eq_false, Int.not_lt, Int.not_le, List.length_map, beq_self_eq_true, Bool.true_eq_false, Bool.false_eq_true] at h) <;> (try (exfalso; first | contradiction | omega))))
      · rw [if_pos (by assumption)] at hfe
        have hne : firstT xs ≠ 0 := by rw [← hfe]; assumption
        rw [if_pos hne, ← hfe, ← hb (by assumption)]
        (refine W.ret ?_; refine RetR.tb' ?_)
        rfl
      · refine ⟨_, _, by omega, ⟨i + 1, rv ++ [keyRow s], rfl, ⟨by omega, by simp [hrl], ?_, ?_⟩, rfl⟩, (St.imp.rev 2 1 rfl).trans (St.imp.of_le (by (refine le_ofL rfl ?_ ?_ <;> (repeat (first | exact trivial | refine ⟨⟨rfl, rfl⟩, ?_⟩ | refine ⟨rfl, .inl rfl, ?_⟩ | refine ⟨rfl, .inr rfl, ?_⟩)))))⟩
        · rw [hw, List.map_append, ← hrv, ← hs, Int.toNat_natCast]
          rfl
        · rw [← hfe, if_neg (fun h => h (by assumption)), Int.toNat_natCast]
    · obtain rfl : i = xs.length := by omega
      rw [List.take_length] at hrv
      rw [List.drop_eq_nil_of_le (by omega), firstT] at hfe
      have hj := Join_fn (xs.map tokS) spS (by have := words_size xs xs.length (by omega); rw [List.take_length] at this; omega) (by simp; omega)
      rw [← hfe, if_neg (fun h => h rfl)]
      subst hrv
      refine W.pubD 2 rfl ?_
      repeat' (first | refine W.seq ?_ | refine W.rg ?_ | refine W.dra' ?_ | refine W.block ?_ | refine W.skip ?_ | refine W.exit ?_ | refine W.cond_true' ?_ | refine W.cond_false' ?_ | refine WG.nil ?_ | refine WG.run' (E := env) ?_ | refine WG.gt' ?_ | refine WG.gf' ?_ | refine WG.ixm' (E := env) ?_ | refine WG.ixo' (E := env) ?_ | refine WG.legm' (E := env) ?_ | refine WG.slS' (E := env) ?_ | refine WG.slD' (E := env) ?_ | refine WG.ap' (E := env) ?_ | refine WD.nil ?_ | refine WD.bs' (E := env) ?_ | refine WD.s' (E := env) (t := .d _) ?_ | refine WD.p' ?_ | refine WD.px' ?_ | refine WD.s' (E := env) (t := .ea _ _) ?_ | refine WD.s' (E := env) (t := .lp _ _) ?_ | refine WD.s' (E := env) (t := .og _ _) ?_ | refine WD.s' (E := env) (t := .agg _) ?_ | refine WD.s' (E := env) (t := .tup _) ?_ | refine WD.s' (E := env) (t := .clo _ _) ?_ | refine WD.ixm' (E := env) ?_ | refine WD.ixo' (E := env) ?_ | refine WD.legm' (E := env) ?_ | refine WD.slS' (E := env) ?_ | refine WD.slD' (E := env) ?_ | refine WG.c (E := env) rfl rfl (hj) rfl rfl ?_ | refine WD.c (E := env) rfl rfl (hj) rfl rfl ?_ | refine WG.co (E := env) rfl rfl (hj) rfl rfl rfl rfl ?_ | refine WG.cx (E := env) rfl (hj) rfl ?_ | ((first | refine WG.sp' (fun h => ?_) fun h => ?_ | refine W.cond' (fun h => ?_) fun h => ?_ | refine WD.sp' (fun h => ?_) fun h => ?_) <;> (try simp only [decide_eq_true_eq, decide_eq_false_iff_not, Bool.not_eq_true', Bool.not_eq_false', Bool.and_eq_true, Bool.or_eq_true, Bool.and_eq_false_iff, Bool.or_eq_false_iff, Bool.not_eq_true, Bool.not_eq_false, Int.not_lt, Int.not_le, List.length_map, beq_self_eq_true, Bool.true_eq_false, Bool.false_eq_true] at h) <;> (try (exfalso; first | contradiction | omega))))
      (refine W.ret ?_; refine RetR.tb' ?_)
      rfl

set_option maxHeartbeats 4000000 in
theorem JoinTokensS_fn (xs : List Tk) (hf : ∀ t ∈ xs, t.text.size ≤ 1048576) (hl : xs.length ≤ 1048576) : Fun env.P 7 [toksD xs] (.d (.agg [dI (toksC xs), dS (toksT xs)])) [] := by
  by_cases h3 : 300 < xs.length
  · have e1 : toksC xs = 2 := if_pos h3
    have e2 : toksT xs = noS := if_pos h3
    rw [e1, e2]
    refine Fun.intro Tryz.func7 rfl (by kernel_rfl) rfl ?_
    repeat' (first | refine W.seq ?_ | refine W.rg ?_ | refine W.dra' ?_ | refine W.block ?_ | refine W.skip ?_ | refine W.exit ?_ | refine W.cond_true' ?_ | refine W.cond_false' ?_ | refine WG.nil ?_ | refine WG.run' (E := env) ?_ | refine WG.gt' ?_ | refine WG.gf' ?_ | refine WG.ixm' (E := env) ?_ | refine WG.ixo' (E := env) ?_ | refine WG.legm' (E := env) ?_ | refine WG.slS' (E := env) ?_ | refine WG.slD' (E := env) ?_ | refine WG.ap' (E := env) ?_ | refine WD.nil ?_ | refine WD.bs' (E := env) ?_ | refine WD.s' (E := env) (t := .d _) ?_ | refine WD.p' ?_ | refine WD.px' ?_ | refine WD.s' (E := env) (t := .ea _ _) ?_ | refine WD.s' (E := env) (t := .lp _ _) ?_ | refine WD.s' (E := env) (t := .og _ _) ?_ | refine WD.s' (E := env) (t := .agg _) ?_ | refine WD.s' (E := env) (t := .tup _) ?_ | refine WD.s' (E := env) (t := .clo _ _) ?_ | refine WD.ixm' (E := env) ?_ | refine WD.ixo' (E := env) ?_ | refine WD.legm' (E := env) ?_ | refine WD.slS' (E := env) ?_ | refine WD.slD' (E := env) ?_ | ((first | refine WG.sp' (fun h => ?_) fun h => ?_ | refine W.cond' (fun h => ?_) fun h => ?_ | refine WD.sp' (fun h => ?_) fun h => ?_) <;> (try simp only [decide_eq_true_eq, decide_eq_false_iff_not, Bool.not_eq_true', Bool.not_eq_false', Bool.and_eq_true, Bool.or_eq_true, Bool.and_eq_false_iff, Bool.or_eq_false_iff, Bool.not_eq_true, Bool.not_eq_false, Int.not_lt, Int.not_le, List.length_map, beq_self_eq_true, Bool.true_eq_false, Bool.false_eq_true] at h) <;> (try (exfalso; first | contradiction | omega))))
    all_goals first | (exfalso; omega) | skip
    (refine W.ret ?_; (first | refine RetQ.b' ?_ | refine RetQ.i' ?_ | refine RetQ.d' ?_ | refine RetQ.t2' ?_ ?_ | refine RetQ.t3' ?_ ?_ ?_))
    rfl
  · have e1 : toksC xs = firstT xs := if_neg h3
    have e2 : toksT xs = if firstT xs ≠ 0 then noS else joinS (xs.map tokS) spS := if_neg h3
    rw [e1, e2]
    refine Fun.intro Tryz.func7 rfl (by kernel_rfl) rfl ?_
    repeat' (first | refine W.seq ?_ | refine W.rg ?_ | refine W.dra' ?_ | refine W.block ?_ | refine W.skip ?_ | refine W.exit ?_ | refine W.cond_true' ?_ | refine W.cond_false' ?_ | refine WG.nil ?_ | refine WG.run' (E := env) ?_ | refine WG.gt' ?_ | refine WG.gf' ?_ | refine WG.ixm' (E := env) ?_ | refine WG.ixo' (E := env) ?_ | refine WG.legm' (E := env) ?_ | refine WG.slS' (E := env) ?_ | refine WG.slD' (E := env) ?_ | refine WG.ap' (E := env) ?_ | refine WD.nil ?_ | refine WD.bs' (E := env) ?_ | refine WD.s' (E := env) (t := .d _) ?_ | refine WD.p' ?_ | refine WD.px' ?_ | refine WD.s' (E := env) (t := .ea _ _) ?_ | refine WD.s' (E := env) (t := .lp _ _) ?_ | refine WD.s' (E := env) (t := .og _ _) ?_ | refine WD.s' (E := env) (t := .agg _) ?_ | refine WD.s' (E := env) (t := .tup _) ?_ | refine WD.s' (E := env) (t := .clo _ _) ?_ | refine WD.ixm' (E := env) ?_ | refine WD.ixo' (E := env) ?_ | refine WD.legm' (E := env) ?_ | refine WD.slS' (E := env) ?_ | refine WD.slD' (E := env) ?_ | ((first | refine WG.sp' (fun h => ?_) fun h => ?_ | refine W.cond' (fun h => ?_) fun h => ?_ | refine WD.sp' (fun h => ?_) fun h => ?_) <;> (try simp only [decide_eq_true_eq, decide_eq_false_iff_not, Bool.not_eq_true', Bool.not_eq_false', Bool.and_eq_true, Bool.or_eq_true, Bool.and_eq_false_iff, Bool.or_eq_false_iff, Bool.not_eq_true, Bool.not_eq_false, Int.not_lt, Int.not_le, List.length_map, beq_self_eq_true, Bool.true_eq_false, Bool.false_eq_true] at h) <;> (try (exfalso; first | contradiction | omega))))
    refine W.loopI (fun m S => ∃ (i : Nat) (b : ByteArray), m = xs.length - i ∧ (i ≤ xs.length ∧ b = joinS ((xs.take i).map tokS) spS ∧ firstT (xs.drop i) = firstT xs) ∧ S = ⟨ofL [(0, .d (toksD xs)), (2, .lp 0 0), (3, vS b), (4, vI .i64 i)], [.pv [.d (dI 0), .d (dS ByteArray.empty)]]⟩) _ _ ⟨0, _, rfl, ⟨by omega, rfl, rfl⟩, rfl⟩ (St.imp.of_le (by (refine le_ofL rfl ?_ ?_ <;> (repeat (first | exact trivial | refine ⟨⟨rfl, rfl⟩, ?_⟩ | refine ⟨rfl, .inl rfl, ?_⟩ | refine ⟨rfl, .inr rfl, ?_⟩))))) ?_
    rintro m S ⟨i, b, rfl, ⟨hi, hb, hfe⟩, rfl⟩
    have hbs : b.size ≤ 40000 := by rw [hb]; exact words_size xs i (by omega)
    by_cases hlt : i < xs.length
    · have ht := TokenTextS_fn (xs.getD (Int.toNat (i : Int)) default) (hf _ (getD_mem' (by rw [Int.toNat_natCast]; exact hlt)))
      have hw := words_take hlt
      have hss := tokS_size (xs.getD i default)
      have hbd := @tokS_bad (xs.getD i default)
      rw [firstT_step hlt] at hfe
      rw [← Int.toNat_natCast i] at hfe hbd hw hss
      rw [Int.toNat_natCast i] at hw
      generalize hc : tokC (xs.getD (Int.toNat (i : Int)) default) = c at *
      generalize hs : tokS (xs.getD (Int.toNat (i : Int)) default) = s at *
      have h32 : (⟨#[32]⟩ : ByteArray).size = 1 := rfl
      have hz : (b ++ ⟨#[32]⟩).size = b.size + 1 := by rw [ByteArray.size_append]; rfl
      repeat' (first | refine W.seq ?_ | refine W.rg ?_ | refine W.dra' ?_ | refine W.block ?_ | refine W.skip ?_ | refine W.exit ?_ | refine W.cond_true' ?_ | refine W.cond_false' ?_ | refine WG.nil ?_ | refine WG.run' (E := env) ?_ | refine WG.gt' ?_ | refine WG.gf' ?_ | refine WG.ixm' (E := env) ?_ | refine WG.ixo' (E := env) ?_ | refine WG.legm' (E := env) ?_ | refine WG.slS' (E := env) ?_ | refine WG.slD' (E := env) ?_ | refine WG.ap' (E := env) ?_ | refine WD.nil ?_ | refine WD.bs' (E := env) ?_ | refine WD.s' (E := env) (t := .d _) ?_ | refine WD.p' ?_ | refine WD.px' ?_ | refine WD.s' (E := env) (t := .ea _ _) ?_ | refine WD.s' (E := env) (t := .lp _ _) ?_ | refine WD.s' (E := env) (t := .og _ _) ?_ | refine WD.s' (E := env) (t := .agg _) ?_ | refine WD.s' (E := env) (t := .tup _) ?_ | refine WD.s' (E := env) (t := .clo _ _) ?_ | refine WD.ixm' (E := env) ?_ | refine WD.ixo' (E := env) ?_ | refine WD.legm' (E := env) ?_ | refine WD.slS' (E := env) ?_ | refine WD.slD' (E := env) ?_ | refine WG.c (E := env) rfl rfl (ht) rfl rfl ?_ | refine WD.c (E := env) rfl rfl (ht) rfl rfl ?_ | refine WG.co (E := env) rfl rfl (ht) rfl rfl rfl rfl ?_ | refine WG.cx (E := env) rfl (ht) rfl ?_ | ((first | refine WG.sp' (fun h => ?_) fun h => ?_ | refine W.cond' (fun h => ?_) fun h => ?_ | refine WD.sp' (fun h => ?_) fun h => ?_) <;> (try simp only [decide_eq_true_eq, decide_eq_false_iff_not, Bool.not_eq_true', Bool.not_eq_false', Bool.and_eq_true, Bool.or_eq_true, Bool.and_eq_false_iff, Bool.or_eq_false_iff, Bool.not_eq_true, Bool.not_eq_false, Int.not_lt, Int.not_le, List.length_map, beq_self_eq_true, Bool.true_eq_false, Bool.false_eq_true] at h) <;> (try (exfalso; first | contradiction | omega))))
      · rw [if_pos (by assumption)] at hfe
        have hne : firstT xs ≠ 0 := by rw [← hfe]; assumption
        rw [if_pos hne, ← hfe, ← hbd (by assumption)]
        (refine W.ret ?_; (first | refine RetQ.b' ?_ | refine RetQ.i' ?_ | refine RetQ.d' ?_ | refine RetQ.t2' ?_ ?_ | refine RetQ.t3' ?_ ?_ ?_))
        rfl
      · refine ⟨_, _, by omega, ⟨i + 1, (b ++ ⟨#[32]⟩) ++ s, rfl, ⟨by omega, ?_, ?_⟩, rfl⟩, (St.imp.of_le (by (refine le_ofL rfl ?_ ?_ <;> (repeat (first | exact trivial | refine ⟨⟨rfl, rfl⟩, ?_⟩ | refine ⟨rfl, .inl rfl, ?_⟩ | refine ⟨rfl, .inr rfl, ?_⟩)))))⟩
        · rw [hw, joinS_snoc _ _ _ (fun e => by have := congrArg List.length e; rw [List.length_map, List.length_take, List.length_nil] at this; omega), ← hb, ← hs, Int.toNat_natCast]
        · rw [← hfe, if_neg (fun h => h (by assumption)), Int.toNat_natCast]
      · have hi0 : i = 0 := by omega
        refine ⟨_, _, by omega, ⟨i + 1, b ++ s, rfl, ⟨by omega, ?_, ?_⟩, rfl⟩, (St.imp.of_le (by (refine le_ofL rfl ?_ ?_ <;> (repeat (first | exact trivial | refine ⟨⟨rfl, rfl⟩, ?_⟩ | refine ⟨rfl, .inl rfl, ?_⟩ | refine ⟨rfl, .inr rfl, ?_⟩)))))⟩
        · rw [hw, hb]
          subst hi0
          rw [← hs]
          simp only [List.take_zero, List.map_nil, List.nil_append]
          rw [joinS_one, joinS_nil, ba_nil]
          rfl
        · rw [← hfe, if_neg (fun h => h (by assumption)), Int.toNat_natCast]
    · rw [List.drop_eq_nil_of_le (by omega), firstT] at hfe
      rw [← hfe, if_neg (fun h => h rfl)]
      repeat' (first | refine W.seq ?_ | refine W.rg ?_ | refine W.dra' ?_ | refine W.block ?_ | refine W.skip ?_ | refine W.exit ?_ | refine W.cond_true' ?_ | refine W.cond_false' ?_ | refine WG.nil ?_ | refine WG.run' (E := env) ?_ | refine WG.gt' ?_ | refine WG.gf' ?_ | refine WG.ixm' (E := env) ?_ | refine WG.ixo' (E := env) ?_ | refine WG.legm' (E := env) ?_ | refine WG.slS' (E := env) ?_ | refine WG.slD' (E := env) ?_ | refine WG.ap' (E := env) ?_ | refine WD.nil ?_ | refine WD.bs' (E := env) ?_ | refine WD.s' (E := env) (t := .d _) ?_ | refine WD.p' ?_ | refine WD.px' ?_ | refine WD.s' (E := env) (t := .ea _ _) ?_ | refine WD.s' (E := env) (t := .lp _ _) ?_ | refine WD.s' (E := env) (t := .og _ _) ?_ | refine WD.s' (E := env) (t := .agg _) ?_ | refine WD.s' (E := env) (t := .tup _) ?_ | refine WD.s' (E := env) (t := .clo _ _) ?_ | refine WD.ixm' (E := env) ?_ | refine WD.ixo' (E := env) ?_ | refine WD.legm' (E := env) ?_ | refine WD.slS' (E := env) ?_ | refine WD.slD' (E := env) ?_ | ((first | refine WG.sp' (fun h => ?_) fun h => ?_ | refine W.cond' (fun h => ?_) fun h => ?_ | refine WD.sp' (fun h => ?_) fun h => ?_) <;> (try simp only [decide_eq_true_eq, decide_eq_false_iff_not, Bool.not_eq_true', Bool.not_eq_false', Bool.and_eq_true, Bool.or_eq_true, Bool.and_eq_false_iff, Bool.or_eq_false_iff, Bool.not_eq_true, Bool.not_eq_false, Int.not_lt, Int.not_le, List.length_map, beq_self_eq_true, Bool.true_eq_false, Bool.false_eq_true] at h) <;> (try (exfalso; first | contradiction | omega))))
      (refine W.ret ?_; (first | refine RetQ.b' ?_ | refine RetQ.i' ?_ | refine RetQ.d' ?_ | refine RetQ.t2' ?_ ?_ | refine RetQ.t3' ?_ ?_ ?_))
      rw [hb, List.take_of_length_le (by omega)]
      rfl

end Go.Proofs.YthaakpbdijhgiaaGreatDoor
