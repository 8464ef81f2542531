/-
  A quoted text read back. Conditions: texts of at most 2^20 bytes.
-/
import Derived.Test.YthaakpbdijhgiaaGreatDoorQTokensLx5
set_option linter.unusedVariables false
set_option linter.unusedSimpArgs false
set_option maxRecDepth 100000
namespace Go.Proofs.YthaakpbdijhgiaaGreatDoor
open Go.RowKit

theorem okUpto_true {s : ByteArray} : ∀ {n : Nat}, okUpto s n = true → ∀ k, k < n → okByte (byteAt s k) = true
  | 0, _, k, h => by omega
  | n + 1, h, k, hk => by
    simp only [okUpto, Bool.and_eq_true] at h
    by_cases e : k = n
    · rw [e]; exact h.2
    · exact okUpto_true h.1 k (by omega)
theorem okText_byte {s : ByteArray} (h : okText s = true) {k : Nat} (hk : k < s.size) : 32 ≤ byteAt s k ∧ byteAt s k ≤ 126 := by
  unfold okText at h
  simp only [Bool.and_eq_true, decide_eq_true_eq] at h
  have := okUpto_true h.1 k hk
  unfold okByte at this
  simp only [Bool.and_eq_true, decide_eq_true_eq] at this
  exact this

theorem byte_rows {t : ByteArray} {i : Nat} (h : i < t.data.toList.length) : ((t.data.toList.take (i + 1)).map fun c => (c.toNat : Int)).map byteRow = ((t.data.toList.take i).map fun c => (c.toNat : Int)).map byteRow ++ [[dY ((t.data.toList[i]'h).toNat : Int)]] := by
  rw [List.take_succ_eq_append_getElem h, List.map_append, List.map_append]
  rfl

set_option maxHeartbeats 16000000 in
theorem str_fn (s t : ByteArray) (a : Nat) (hs : s.size ≤ 1048576) (ht : okText t = true) (h : Sits s a (quoted t)) :
    FunQ env.P 32 [.lp 0 0] [decO s a] (just (.d (dS t)) [decO s ((a : Int) + ((quoted t).size : Int))]) := by
  have hsz := quoted_size t
  have h60 := okText_size ht
  have hfit := h.fits
  have hat := h.at_
  have h0 : byteAt s a = 34 := by have := hat 0 (by omega); rwa [Nat.add_zero, quoted_first] at this
  have hw := want_fn s a 34 hs (by omega) h0
  refine FunQ.intro Tryz.func32 rfl (by kernel_rfl) rfl ?_
  repeat' (first | refine W.seq ?_ | refine W.rg ?_ | refine W.dra' ?_ | refine W.block ?_ | refine W.skip ?_ | refine W.exit ?_ | refine W.cond_true' ?_ | refine W.cond_false' ?_ | refine WG.nil ?_ | refine WG.run' (E := env) ?_ | refine WG.gt' ?_ | refine WG.gf' ?_ | refine WG.ixm' (E := env) ?_ | refine WG.ixo' (E := env) ?_ | refine WG.legm' (E := env) ?_ | refine WG.slS' (E := env) ?_ | refine WG.slD' (E := env) ?_ | refine WG.ap' (E := env) ?_ | refine WD.nil ?_ | refine WD.bs' (E := env) ?_ | refine WD.s' (E := env) (t := .d _) ?_ | refine WD.p' ?_ | refine WD.px' ?_ | refine WD.s' (E := env) (t := .ea _ _) ?_ | refine WD.s' (E := env) (t := .lp _ _) ?_ | refine WD.s' (E := env) (t := .og _ _) ?_ | refine WD.s' (E := env) (t := .agg _) ?_ | refine WD.s' (E := env) (t := .tup _) ?_ | refine WD.s' (E := env) (t := .clo _ _) ?_ | refine WD.ixm' (E := env) ?_ | refine WD.ixo' (E := env) ?_ | refine WD.legm' (E := env) ?_ | refine WD.slS' (E := env) ?_ | refine WD.slD' (E := env) ?_ | refine WG.cq (E := env) [0] [0] false rfl rfl (hw) rfl rfl rfl rfl rfl rfl rfl (by first | exact trivial | exact ⟨rfl, trivial⟩ | exact ⟨rfl, rfl, trivial⟩) (.inl rfl) rfl (fun h => nomatch h) rfl rfl ?_ | refine WG.cqx (E := env) [0] [0] false rfl (hw) rfl rfl rfl rfl rfl rfl rfl (by first | exact trivial | exact ⟨rfl, trivial⟩ | exact ⟨rfl, rfl, trivial⟩) (.inl rfl) rfl (fun h => nomatch h) rfl ?_ | ((first | refine WG.sp' (fun h => ?_) fun h => ?_ | refine W.cond' (fun h => ?_) fun h => ?_ | refine WD.sp' (fun h => ?_) fun h => ?_) <;> (try simp only [decide_eq_true_eq, decide_eq_false_iff_not, Bool.not_eq_true', Bool.not_eq_false', Bool.and_eq_true, Bool.or_eq_true, Bool.and_eq_false_iff, Bool.or_eq_false_iff, Bool.not_eq_true, Bool.not_eq_false, Int.not_lt, Int.not_le, List.length_map, beq_self_eq_true, Bool.true_eq_false, Bool.false_eq_true] at h) <;> (try (exfalso; first | contradiction | omega))))
  refine W.loopI (fun m S => ∃ (i p : Nat) (q : Int) (rb : List (List D)), m = t.size + 1 - i ∧ (i ≤ t.size ∧ p = a + 1 + eN t i ∧ q = p ∧ rb.length = i ∧ rb = ((t.data.toList.take i).map fun c => (c.toNat : Int)).map byteRow) ∧ S = ⟨ofL [(0, .lp 0 0), (3, vI .i64 a), (4, .og 1 0)], [decO s q, .gr 1 5 rb 0 false]⟩) _ _ ⟨0, a + 1, (a : Int) + 1, [], rfl, ⟨by omega, by rw [eN_zero], by omega, rfl, by simp⟩, rfl⟩ (St.imp.of_le (by (refine le_ofL rfl ?_ ?_ <;> (repeat (first | exact trivial | refine ⟨⟨rfl, rfl⟩, ?_⟩ | refine ⟨rfl, .inl rfl, ?_⟩ | refine ⟨rfl, .inr rfl, ?_⟩))))) ?_
  rintro m S ⟨i, p, q, rb, rfl, ⟨hi, hp, rfl, hrl, hrb⟩, rfl⟩
  have hmo := eN_mono t (k := i) t.size hi (Nat.le_refl _)
  have hps : p < s.size := by omega
  by_cases hlt : i < t.size
  · obtain ⟨q1, q2⟩ := quoted_at t hlt
    have hby := okText_byte ht hlt
    have hbt : byteAt t i = ((t.data.toList[i]'hlt).toNat : Int) := byte_at hlt
    have hrow := byte_rows (t := t) (i := i) hlt
    rw [← hrb] at hrow
    have hmo1 := eN_mono t (k := i + 1) t.size hlt (Nat.le_refl _)
    cases hsp : spB (t.data.toList[i]'hlt) with
    | true =>
      obtain ⟨e1, e2, e3⟩ := q1 hsp
      have b1 : byteAt s p = 92 := by rw [hp, Nat.add_assoc, Nat.add_comm 1]; exact (hat _ (by omega)).trans e1
      have b2 : byteAt s (p + 1) = ((t.data.toList[i]'hlt).toNat : Int) := by rw [hp, show a + 1 + eN t i + 1 = a + (eN t i + 2) by omega]; exact (hat _ (by omega)).trans e2
      have hc : ((t.data.toList[i]'hlt).toNat : Int) = 34 ∨ ((t.data.toList[i]'hlt).toNat : Int) = 92 := by
        unfold spB at hsp
        simp only [Bool.or_eq_true, decide_eq_true_eq] at hsp
        rcases hsp with e | e
        · left; rw [e]; rfl
        · right; rw [e]; rfl
      have k1 := take_fn s p 34 hs hps false (by rw [b1]; decide)
      have k2 := take_fn s p 92 hs hps true (by rw [b1]; decide)
      have k3 := escape_fn s (p + 1) _ hs (by omega) b2 hc
      rw [if_neg (by decide)] at k1
      rw [if_pos rfl] at k2
      rw [show ((p + 1 : Nat) : Int) = (p : Int) + 1 by omega] at k3
      have b1' : byteAt s (Int.toNat (p : Int)) = 92 := by rw [Int.toNat_natCast]; exact b1
      generalize ((t.data.toList[i]'hlt).toNat : Int) = c at *
      repeat' (first | refine W.seq ?_ | refine W.rg ?_ | refine W.dra' ?_ | refine W.block ?_ | refine W.skip ?_ | refine W.exit ?_ | refine W.cond_true' ?_ | refine W.cond_false' ?_ | refine WG.nil ?_ | refine WG.run' (E := env) ?_ | refine WG.gt' ?_ | refine WG.gf' ?_ | refine WG.ixm' (E := env) ?_ | refine WG.ixo' (E := env) ?_ | refine WG.legm' (E := env) ?_ | refine WG.slS' (E := env) ?_ | refine WG.slD' (E := env) ?_ | refine WG.ap' (E := env) ?_ | refine WD.nil ?_ | refine WD.bs' (E := env) ?_ | refine WD.s' (E := env) (t := .d _) ?_ | refine WD.p' ?_ | refine WD.px' ?_ | refine WD.s' (E := env) (t := .ea _ _) ?_ | refine WD.s' (E := env) (t := .lp _ _) ?_ | refine WD.s' (E := env) (t := .og _ _) ?_ | refine WD.s' (E := env) (t := .agg _) ?_ | refine WD.s' (E := env) (t := .tup _) ?_ | refine WD.s' (E := env) (t := .clo _ _) ?_ | refine WD.ixm' (E := env) ?_ | refine WD.ixo' (E := env) ?_ | refine WD.legm' (E := env) ?_ | refine WD.slS' (E := env) ?_ | refine WD.slD' (E := env) ?_ | refine WG.cq (E := env) [0] [0] false rfl rfl (k1) rfl rfl rfl rfl rfl rfl rfl (by first | exact trivial | exact ⟨rfl, trivial⟩ | exact ⟨rfl, rfl, trivial⟩) (.inl rfl) rfl (fun h => nomatch h) rfl rfl ?_ | refine WG.cqx (E := env) [0] [0] false rfl (k1) rfl rfl rfl rfl rfl rfl rfl (by first | exact trivial | exact ⟨rfl, trivial⟩ | exact ⟨rfl, rfl, trivial⟩) (.inl rfl) rfl (fun h => nomatch h) rfl ?_ | refine WG.cq (E := env) [0] [0] false rfl rfl (k2) rfl rfl rfl rfl rfl rfl rfl (by first | exact trivial | exact ⟨rfl, trivial⟩ | exact ⟨rfl, rfl, trivial⟩) (.inl rfl) rfl (fun h => nomatch h) rfl rfl ?_ | refine WG.cqx (E := env) [0] [0] false rfl (k2) rfl rfl rfl rfl rfl rfl rfl (by first | exact trivial | exact ⟨rfl, trivial⟩ | exact ⟨rfl, rfl, trivial⟩) (.inl rfl) rfl (fun h => nomatch h) rfl ?_ | refine WG.cq (E := env) [0] [0] false rfl rfl (k3) rfl rfl rfl rfl rfl rfl rfl (by first | exact trivial | exact ⟨rfl, trivial⟩ | exact ⟨rfl, rfl, trivial⟩) (.inl rfl) rfl (fun h => nomatch h) rfl rfl ?_ | refine WG.cqx (E := env) [0] [0] false rfl (k3) rfl rfl rfl rfl rfl rfl rfl (by first | exact trivial | exact ⟨rfl, trivial⟩ | exact ⟨rfl, rfl, trivial⟩) (.inl rfl) rfl (fun h => nomatch h) rfl ?_ | ((first | refine WG.sp' (fun h => ?_) fun h => ?_ | refine W.cond' (fun h => ?_) fun h => ?_ | refine WD.sp' (fun h => ?_) fun h => ?_) <;> (try simp only [decide_eq_true_eq, decide_eq_false_iff_not, Bool.not_eq_true', Bool.not_eq_false', Bool.and_eq_true, Bool.or_eq_true, Bool.and_eq_false_iff, Bool.or_eq_false_iff, Bool.not_eq_true, Bool.not_eq_false, Int.not_lt, Int.not_le, List.length_map, beq_self_eq_true, Bool.true_eq_false, Bool.false_eq_true] at h) <;> (try (exfalso; first | contradiction | omega))))
      all_goals first | (exfalso; omega) | skip
      exact ⟨_, _, by omega, ⟨i + 1, p + 2, (p : Int) + 1 + 1, rb ++ [[dY c]], rfl, ⟨by omega, by omega, by omega, by simp [hrl], hrow.symm⟩, rfl⟩, (St.imp.rev 1 1 rfl).trans (St.imp.of_le (by (refine le_ofL rfl ?_ ?_ <;> (repeat (first | exact trivial | refine ⟨⟨rfl, rfl⟩, ?_⟩ | refine ⟨rfl, .inl rfl, ?_⟩ | refine ⟨rfl, .inr rfl, ?_⟩)))))⟩
    | false =>
      obtain ⟨e1, e3⟩ := q2 hsp
      have b1 : byteAt s p = ((t.data.toList[i]'hlt).toNat : Int) := by rw [hp, Nat.add_assoc, Nat.add_comm 1]; exact (hat _ (by omega)).trans e1
      have hc : ((t.data.toList[i]'hlt).toNat : Int) ≠ 34 ∧ ((t.data.toList[i]'hlt).toNat : Int) ≠ 92 := by
        unfold spB at hsp
        simp only [Bool.or_eq_false_iff, decide_eq_false_iff_not] at hsp
        constructor
        · intro e; exact hsp.1 (UInt8.toNat_inj.1 (Int.ofNat.inj e))
        · intro e; exact hsp.2 (UInt8.toNat_inj.1 (Int.ofNat.inj e))
      rw [hbt] at hby
      have k1 := take_fn s p 34 hs hps false (by rw [b1]; simpa using hc.1)
      have k2 := take_fn s p 92 hs hps false (by rw [b1]; simpa using hc.2)
      rw [if_neg (by decide)] at k1 k2
      have b1' : byteAt s (Int.toNat (p : Int)) = ((t.data.toList[i]'hlt).toNat : Int) := by rw [Int.toNat_natCast]; exact b1
      generalize ((t.data.toList[i]'hlt).toNat : Int) = c at *
      rw [← b1'] at hrow
      repeat' (first | (refine W.dre' (id := 4) [11] (fun f => bif bt f 1 then [decO s p, .gr 1 5 (rb ++ [[dY (byteAt s (Int.toNat (p : Int)))]]) 1 false] else [decO s p, .gr 1 5 rb 0 false]) [(0, [0]), (0, [0]), (0, [0]), (0, [0]), (0, [0]), (0, [0]), (0, [0]), (0, [0]), (0, [0]), (0, [0]), (0, [0]), (1, [0]), (0, [1])] [decO s p, .gr 1 5 (rb ++ [[dY (byteAt s (Int.toNat (p : Int)))]]) 1 false] ?_) | refine WE.nil ?_ | refine WE.ixP' ?_ | refine WE.s' (E := env) (t := .d _) ?_ | refine WE.p' ?_ | refine WE.px' ?_ | refine WE.s' (E := env) (t := .lp _ _) ?_ | refine WE.s' (E := env) (t := .og _ _) ?_ | refine WE.s' (E := env) (t := .ea _ _) ?_ | refine WE.s' (E := env) (t := .agg _) ?_ | refine WE.s' (E := env) (t := .tup _) ?_ | refine WE.ixm' (E := env) ?_ | refine WE.ixo' (E := env) ?_ | refine WE.leg' (E := env) ?_ | refine WE.slS' (E := env) ?_ | refine WE.slD' (E := env) ?_ | refine WE.ap' (E := env) ?_ | refine WE.st' (E := env) ?_ | refine WE.seg' (E := env) ?_ | refine WE.bs' (E := env) ?_ | refine W.seq ?_ | refine W.rg ?_ | refine W.dra' ?_ | refine W.block ?_ | refine W.skip ?_ | refine W.exit ?_ | refine W.cond_true' ?_ | refine W.cond_false' ?_ | refine WG.nil ?_ | refine WG.run' (E := env) ?_ | refine WG.gt' ?_ | refine WG.gf' ?_ | refine WG.ixm' (E := env) ?_ | refine WG.ixo' (E := env) ?_ | refine WG.legm' (E := env) ?_ | refine WG.slS' (E := env) ?_ | refine WG.slD' (E := env) ?_ | refine WG.ap' (E := env) ?_ | refine WD.nil ?_ | refine WD.bs' (E := env) ?_ | refine WD.s' (E := env) (t := .d _) ?_ | refine WD.p' ?_ | refine WD.px' ?_ | refine WD.s' (E := env) (t := .ea _ _) ?_ | refine WD.s' (E := env) (t := .lp _ _) ?_ | refine WD.s' (E := env) (t := .og _ _) ?_ | refine WD.s' (E := env) (t := .agg _) ?_ | refine WD.s' (E := env) (t := .tup _) ?_ | refine WD.s' (E := env) (t := .clo _ _) ?_ | refine WD.ixm' (E := env) ?_ | refine WD.ixo' (E := env) ?_ | refine WD.legm' (E := env) ?_ | refine WD.slS' (E := env) ?_ | refine WD.slD' (E := env) ?_ | refine WG.cq (E := env) [0] [0] false rfl rfl (k1) rfl rfl rfl rfl rfl rfl rfl (by first | exact trivial | exact ⟨rfl, trivial⟩ | exact ⟨rfl, rfl, trivial⟩) (.inl rfl) rfl (fun h => nomatch h) rfl rfl ?_ | refine WG.cqx (E := env) [0] [0] false rfl (k1) rfl rfl rfl rfl rfl rfl rfl (by first | exact trivial | exact ⟨rfl, trivial⟩ | exact ⟨rfl, rfl, trivial⟩) (.inl rfl) rfl (fun h => nomatch h) rfl ?_ | refine WG.cq (E := env) [0] [0] false rfl rfl (k2) rfl rfl rfl rfl rfl rfl rfl (by first | exact trivial | exact ⟨rfl, trivial⟩ | exact ⟨rfl, rfl, trivial⟩) (.inl rfl) rfl (fun h => nomatch h) rfl rfl ?_ | refine WG.cqx (E := env) [0] [0] false rfl (k2) rfl rfl rfl rfl rfl rfl rfl (by first | exact trivial | exact ⟨rfl, trivial⟩ | exact ⟨rfl, rfl, trivial⟩) (.inl rfl) rfl (fun h => nomatch h) rfl ?_ | ((first | refine WG.sp' (fun h => ?_) fun h => ?_ | refine W.cond' (fun h => ?_) fun h => ?_ | refine WD.sp' (fun h => ?_) fun h => ?_) <;> (try simp only [decide_eq_true_eq, decide_eq_false_iff_not, Bool.not_eq_true', Bool.not_eq_false', Bool.and_eq_true, Bool.or_eq_true, Bool.and_eq_false_iff, Bool.or_eq_false_iff, Bool.not_eq_true, Bool.not_eq_false, Int.not_lt, Int.not_le, List.length_map, beq_self_eq_true, Bool.true_eq_false, Bool.false_eq_true] at h) <;> (try (exfalso; first | contradiction | omega))))
      all_goals first | (exfalso; omega) | skip
      exact ⟨_, _, by omega, ⟨i + 1, p + 1, (p : Int) + 1, rb ++ [[dY (byteAt s (Int.toNat (p : Int)))]], rfl, ⟨by omega, by omega, by omega, by simp [hrl], hrow.symm⟩, rfl⟩, (St.imp.rev 1 1 rfl).trans (St.imp.of_le (by (refine le_ofL rfl ?_ ?_ <;> (repeat (first | exact trivial | refine ⟨⟨rfl, rfl⟩, ?_⟩ | refine ⟨rfl, .inl rfl, ?_⟩ | refine ⟨rfl, .inr rfl, ?_⟩)))))⟩
  · obtain rfl : i = t.size := by omega
    have b1 : byteAt s p = 34 := by rw [hp, Nat.add_assoc, Nat.add_comm 1]; exact (hat _ (by omega)).trans (quoted_last t)
    have k1 := take_fn s p 34 hs hps true (by rw [b1]; decide)
    rw [if_pos rfl] at k1
    rw [show t.data.toList.take t.size = t.data.toList from List.take_length] at hrb
    have e : (a : Int) + ((quoted t).size : Int) = (p : Int) + 1 := by omega
    have hl : t.data.toList.length = t.size := rfl
    subst hrb
    rw [e]
    repeat' (first | refine WG.b2s (E := env) (ns := t.data.toList.map fun c => (c.toNat : Int)) rfl rfl rfl rfl rfl rfl ?_ | refine W.seq ?_ | refine W.rg ?_ | refine W.dra' ?_ | refine W.block ?_ | refine W.skip ?_ | refine W.exit ?_ | refine W.cond_true' ?_ | refine W.cond_false' ?_ | refine WG.nil ?_ | refine WG.run' (E := env) ?_ | refine WG.gt' ?_ | refine WG.gf' ?_ | refine WG.ixm' (E := env) ?_ | refine WG.ixo' (E := env) ?_ | refine WG.legm' (E := env) ?_ | refine WG.slS' (E := env) ?_ | refine WG.slD' (E := env) ?_ | refine WG.ap' (E := env) ?_ | refine WD.nil ?_ | refine WD.bs' (E := env) ?_ | refine WD.s' (E := env) (t := .d _) ?_ | refine WD.p' ?_ | refine WD.px' ?_ | refine WD.s' (E := env) (t := .ea _ _) ?_ | refine WD.s' (E := env) (t := .lp _ _) ?_ | refine WD.s' (E := env) (t := .og _ _) ?_ | refine WD.s' (E := env) (t := .agg _) ?_ | refine WD.s' (E := env) (t := .tup _) ?_ | refine WD.s' (E := env) (t := .clo _ _) ?_ | refine WD.ixm' (E := env) ?_ | refine WD.ixo' (E := env) ?_ | refine WD.legm' (E := env) ?_ | refine WD.slS' (E := env) ?_ | refine WD.slD' (E := env) ?_ | refine WG.cq (E := env) [0] [0] false rfl rfl (k1) rfl rfl rfl rfl rfl rfl rfl (by first | exact trivial | exact ⟨rfl, trivial⟩ | exact ⟨rfl, rfl, trivial⟩) (.inl rfl) rfl (fun h => nomatch h) rfl rfl ?_ | refine WG.cqx (E := env) [0] [0] false rfl (k1) rfl rfl rfl rfl rfl rfl rfl (by first | exact trivial | exact ⟨rfl, trivial⟩ | exact ⟨rfl, rfl, trivial⟩) (.inl rfl) rfl (fun h => nomatch h) rfl ?_ | ((first | refine WG.sp' (fun h => ?_) fun h => ?_ | refine W.cond' (fun h => ?_) fun h => ?_ | refine WD.sp' (fun h => ?_) fun h => ?_) <;> (try simp only [decide_eq_true_eq, decide_eq_false_iff_not, Bool.not_eq_true', Bool.not_eq_false', Bool.and_eq_true, Bool.or_eq_true, Bool.and_eq_false_iff, Bool.or_eq_false_iff, Bool.not_eq_true, Bool.not_eq_false, Int.not_lt, Int.not_le, List.length_map, beq_self_eq_true, Bool.true_eq_false, Bool.false_eq_true] at h) <;> (try (exfalso; first | contradiction | omega))))
    all_goals first | (exfalso; omega) | skip
    rw [strB_bytes]
    refine W.ret ?_
    exact RetR.own (t := .d (dS t)) (ob' := [decO s ((p : Int) + 1)]) ⟨[0], [0], 2⟩ (.inl rfl) rfl (by first | trivial | exact resOK_of (E := env) rfl) rfl rfl rfl rfl rfl rfl ⟨rfl, trivial⟩ rfl ⟨rfl, rfl⟩

end Go.Proofs.YthaakpbdijhgiaaGreatDoor
