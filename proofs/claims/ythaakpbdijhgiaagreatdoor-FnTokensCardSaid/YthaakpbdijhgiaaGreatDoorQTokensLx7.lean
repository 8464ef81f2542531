/-
  The token at a place, where one stands. Conditions: texts of at most 2^20 bytes.
-/
import Derived.Test.YthaakpbdijhgiaaGreatDoorQTokensLx4
import Derived.Test.YthaakpbdijhgiaaGreatDoorQTokensLx6
set_option linter.unusedVariables false
set_option linter.unusedSimpArgs false
set_option maxRecDepth 100000
namespace Go.Proofs.YthaakpbdijhgiaaGreatDoor
open Go.RowKit

/-- What is read of a token. -/
def lexR (t : Tk) (p : Nat) : D := lexD ⟨t.kind, 0, t.num, t.text⟩ ((tokS t).size : Int) 0 (if t.kind = 1 then (p : Int) else 0)

theorem isDigit_is {c : Int} {b : Bool} (h : digitB c = b) : Fun env.P 30 [dY c] (.d (dB b)) [] := by
  rw [← h]; exact isDigit_fn c

set_option maxHeartbeats 4000000 in
theorem lexAt_num (s : ByteArray) (p n : Nat) (hs : s.size ≤ 1048576) (hn : n ≤ 1000000000000000) (h : Sits s p (decS n)) :
    Fun env.P 15 [dS s, dI p] (.d (lexD ⟨1, 0, n, noS⟩ (decS n).size 0 p)) [] := by
  have hN := lexNumber_fn s p n hs hn h
  have hz := decS_size n (by omega)
  obtain ⟨hp, hb⟩ := h.first (by omega)
  have hd : digitB (byteAt s (Int.toNat (p : Int))) = true := by rw [Int.toNat_natCast, hb]; exact decS_byte n 0 (by omega)
  have h1 := isDigit_is hd
  refine Fun.intro Tryz.func15 rfl (by kernel_rfl) rfl ?_
  repeat' (first | refine W.seq ?_ | refine W.rg ?_ | refine W.dra' ?_ | refine W.block ?_ | refine W.skip ?_ | refine W.exit ?_ | refine W.cond_true' ?_ | refine W.cond_false' ?_ | refine WG.nil ?_ | refine WG.run' (E := env) ?_ | refine WG.gt' ?_ | refine WG.gf' ?_ | refine WG.ixm' (E := env) ?_ | refine WG.ixo' (E := env) ?_ | refine WG.legm' (E := env) ?_ | refine WG.slS' (E := env) ?_ | refine WG.slD' (E := env) ?_ | refine WG.ap' (E := env) ?_ | refine WD.nil ?_ | refine WD.bs' (E := env) ?_ | refine WD.s' (E := env) (t := .d _) ?_ | refine WD.p' ?_ | refine WD.px' ?_ | refine WD.s' (E := env) (t := .ea _ _) ?_ | refine WD.s' (E := env) (t := .lp _ _) ?_ | refine WD.s' (E := env) (t := .og _ _) ?_ | refine WD.s' (E := env) (t := .agg _) ?_ | refine WD.s' (E := env) (t := .tup _) ?_ | refine WD.s' (E := env) (t := .clo _ _) ?_ | refine WD.ixm' (E := env) ?_ | refine WD.ixo' (E := env) ?_ | refine WD.legm' (E := env) ?_ | refine WD.slS' (E := env) ?_ | refine WD.slD' (E := env) ?_ | refine WG.c (E := env) rfl rfl (h1) rfl rfl ?_ | refine WD.c (E := env) rfl rfl (h1) rfl rfl ?_ | refine WG.co (E := env) rfl rfl (h1) rfl rfl rfl rfl ?_ | refine WG.cx (E := env) rfl (h1) rfl ?_ | refine WG.c (E := env) rfl rfl (hN) rfl rfl ?_ | refine WD.c (E := env) rfl rfl (hN) rfl rfl ?_ | refine WG.co (E := env) rfl rfl (hN) rfl rfl rfl rfl ?_ | refine WG.cx (E := env) rfl (hN) rfl ?_ | ((first | refine WG.sp' (fun h => ?_) fun h => ?_ | refine W.cond' (fun h => ?_) fun h => ?_ | refine WD.sp' (fun h => ?_) fun h => ?_) <;> (try simp only [decide_eq_true_eq, decide_eq_false_iff_not, Bool.not_eq_true', Bool.not_eq_false', Bool.and_eq_true, Bool.or_eq_true, Bool.and_eq_false_iff, Bool.or_eq_false_iff, Bool.not_eq_true, Bool.not_eq_false, Int.not_lt, Int.not_le, List.length_map, beq_self_eq_true, Bool.true_eq_false, Bool.false_eq_true] at h) <;> (try (exfalso; first | contradiction | omega))))
  all_goals (refine W.ret ?_; (first | refine RetQ.b' ?_ | refine RetQ.i' ?_ | refine RetQ.d' ?_ | refine RetQ.t2' ?_ ?_ | refine RetQ.t3' ?_ ?_ ?_))
  all_goals rfl

set_option maxHeartbeats 4000000 in
theorem lexAt_str (s t : ByteArray) (p : Nat) (hs : s.size ≤ 1048576) (ht : okText t = true) (h : Sits s p (quoted t)) :
    Fun env.P 15 [dS s, dI p] (.d (lexD ⟨2, 0, 0, t⟩ (quoted t).size 0 0)) [] := by
  have hN := str_fn s t p hs ht h
  have hz := quoted_size t
  have hfit := h.fits
  obtain ⟨hp, hb⟩ := h.first (by omega)
  rw [quoted_first] at hb
  have hb' : byteAt s (Int.toNat (p : Int)) = 34 := by rw [Int.toNat_natCast, hb]
  have h1 := isDigit_is (c := byteAt s (Int.toNat (p : Int))) (b := false) (by rw [hb']; decide)
  have e : (p : Int) + ((quoted t).size : Int) - p = ((quoted t).size : Int) := by omega
  generalize (quoted t).size = z at *
  refine Fun.intro Tryz.func15 rfl (by kernel_rfl) rfl ?_
  repeat' (first | (refine W.dre' (id := 7) [17] (fun f => [.pv (bif bt f 1 then [.d (dI 2), .d (dI 0), .d (dI 0), .d (dS t), .d (dI ((p : Int) + (z : Int) - p)), .d (dI 0), .d (dI 0)] else [.d (dI 0), .d (dI 0), .d (dI 0), .d (dS ByteArray.empty), .d (dI 0), .d (dI 0), .d (dI 0)]), decO s ((p : Int) + (z : Int))]) [(0, [0]), (0, [0]), (0, [0]), (0, [0]), (0, [0]), (0, [0]), (0, [0]), (0, [0]), (0, [0]), (0, [0]), (0, [0]), (0, [0]), (0, [0]), (0, [0]), (0, [0]), (0, [0]), (0, [0]), (1, [0])] [.pv [.d (dI 2), .d (dI 0), .d (dI 0), .d (dS t), .d (dI ((p : Int) + (z : Int) - p)), .d (dI 0), .d (dI 0)], decO s ((p : Int) + (z : Int))] ?_) | refine WE.nil ?_ | refine WE.ixP' ?_ | refine WE.s' (E := env) (t := .d _) ?_ | refine WE.p' ?_ | refine WE.px' ?_ | refine WE.s' (E := env) (t := .lp _ _) ?_ | refine WE.s' (E := env) (t := .og _ _) ?_ | refine WE.s' (E := env) (t := .ea _ _) ?_ | refine WE.s' (E := env) (t := .agg _) ?_ | refine WE.s' (E := env) (t := .tup _) ?_ | refine WE.ixm' (E := env) ?_ | refine WE.ixo' (E := env) ?_ | refine WE.leg' (E := env) ?_ | refine WE.slS' (E := env) ?_ | refine WE.slD' (E := env) ?_ | refine WE.ap' (E := env) ?_ | refine WE.st' (E := env) ?_ | refine WE.seg' (E := env) ?_ | refine WE.bs' (E := env) ?_ | refine W.seq ?_ | refine W.rg ?_ | refine W.dra' ?_ | refine W.block ?_ | refine W.skip ?_ | refine W.exit ?_ | refine W.cond_true' ?_ | refine W.cond_false' ?_ | refine WG.nil ?_ | refine WG.run' (E := env) ?_ | refine WG.gt' ?_ | refine WG.gf' ?_ | refine WG.ixm' (E := env) ?_ | refine WG.ixo' (E := env) ?_ | refine WG.legm' (E := env) ?_ | refine WG.slS' (E := env) ?_ | refine WG.slD' (E := env) ?_ | refine WG.ap' (E := env) ?_ | refine WD.nil ?_ | refine WD.bs' (E := env) ?_ | refine WD.s' (E := env) (t := .d _) ?_ | refine WD.p' ?_ | refine WD.px' ?_ | refine WD.s' (E := env) (t := .ea _ _) ?_ | refine WD.s' (E := env) (t := .lp _ _) ?_ | refine WD.s' (E := env) (t := .og _ _) ?_ | refine WD.s' (E := env) (t := .agg _) ?_ | refine WD.s' (E := env) (t := .tup _) ?_ | refine WD.s' (E := env) (t := .clo _ _) ?_ | refine WD.ixm' (E := env) ?_ | refine WD.ixo' (E := env) ?_ | refine WD.legm' (E := env) ?_ | refine WD.slS' (E := env) ?_ | refine WD.slD' (E := env) ?_ | refine WE.bd' (E := env) (r := .d _) ?_ | refine WG.c (E := env) rfl rfl (h1) rfl rfl ?_ | refine WD.c (E := env) rfl rfl (h1) rfl rfl ?_ | refine WG.co (E := env) rfl rfl (h1) rfl rfl rfl rfl ?_ | refine WG.cx (E := env) rfl (h1) rfl ?_ | refine WG.cq (E := env) [1] [0] false rfl rfl (hN) rfl rfl rfl rfl rfl rfl rfl (by first | exact trivial | exact ⟨rfl, trivial⟩ | exact ⟨rfl, rfl, trivial⟩) (.inl rfl) rfl (fun h => nomatch h) rfl rfl ?_ | refine WG.cqx (E := env) [1] [0] false rfl (hN) rfl rfl rfl rfl rfl rfl rfl (by first | exact trivial | exact ⟨rfl, trivial⟩ | exact ⟨rfl, rfl, trivial⟩) (.inl rfl) rfl (fun h => nomatch h) rfl ?_ | ((first | refine WG.sp' (fun h => ?_) fun h => ?_ | refine W.cond' (fun h => ?_) fun h => ?_ | refine WD.sp' (fun h => ?_) fun h => ?_) <;> (try simp only [decide_eq_true_eq, decide_eq_false_iff_not, Bool.not_eq_true', Bool.not_eq_false', Bool.and_eq_true, Bool.or_eq_true, Bool.and_eq_false_iff, Bool.or_eq_false_iff, Bool.not_eq_true, Bool.not_eq_false, Int.not_lt, Int.not_le, List.length_map, beq_self_eq_true, Bool.true_eq_false, Bool.false_eq_true] at h) <;> (try (exfalso; first | contradiction | omega))))
  all_goals first | (exfalso; omega) | skip
  all_goals (refine W.ret ?_; (first | refine RetQ.b' ?_ | refine RetQ.i' ?_ | refine RetQ.d' ?_ | refine RetQ.t2' ?_ ?_ | refine RetQ.t3' ?_ ?_ ?_))
  rw [e]
  rfl

set_option maxHeartbeats 4000000 in
theorem lexAt_name (s w : ByteArray) (p : Nat) (hs : s.size ≤ 1048576) (hw : isNameM w = true) (h : Sits s p w) :
    Fun env.P 15 [dS s, dI p] (.d (lexD ⟨3, 0, 0, w⟩ w.size 0 0)) [] := by
  have hN := lexNamed_fn s w p 0 3 hs (by omega) hw h
  obtain ⟨h1, h2, h3, h4⟩ := name_bytes hw
  obtain ⟨hp, hb⟩ := h.first (by omega)
  obtain ⟨f1, f2, f3, f4, f5⟩ := letter_facts h3
  rw [← hb] at f1 f3 f4 f5
  have hd := isDigit_is (c := byteAt s (Int.toNat (p : Int))) (b := false) (by rw [Int.toNat_natCast]; exact f1)
  have hr := nameRun_fn s p hs (by omega)
  rw [nameLen_sits h hw] at hr
  rw [show ((0 : Nat) : Int) + (w.size : Int) = (w.size : Int) by omega] at hN
  have f3' : byteAt s (Int.toNat (p : Int)) ≠ 34 := by rw [Int.toNat_natCast]; exact f3
  refine Fun.intro Tryz.func15 rfl (by kernel_rfl) rfl ?_
  repeat' (first | refine W.seq ?_ | refine W.rg ?_ | refine W.dra' ?_ | refine W.block ?_ | refine W.skip ?_ | refine W.exit ?_ | refine W.cond_true' ?_ | refine W.cond_false' ?_ | refine WG.nil ?_ | refine WG.run' (E := env) ?_ | refine WG.gt' ?_ | refine WG.gf' ?_ | refine WG.ixm' (E := env) ?_ | refine WG.ixo' (E := env) ?_ | refine WG.legm' (E := env) ?_ | refine WG.slS' (E := env) ?_ | refine WG.slD' (E := env) ?_ | refine WG.ap' (E := env) ?_ | refine WD.nil ?_ | refine WD.bs' (E := env) ?_ | refine WD.s' (E := env) (t := .d _) ?_ | refine WD.p' ?_ | refine WD.px' ?_ | refine WD.s' (E := env) (t := .ea _ _) ?_ | refine WD.s' (E := env) (t := .lp _ _) ?_ | refine WD.s' (E := env) (t := .og _ _) ?_ | refine WD.s' (E := env) (t := .agg _) ?_ | refine WD.s' (E := env) (t := .tup _) ?_ | refine WD.s' (E := env) (t := .clo _ _) ?_ | refine WD.ixm' (E := env) ?_ | refine WD.ixo' (E := env) ?_ | refine WD.legm' (E := env) ?_ | refine WD.slS' (E := env) ?_ | refine WD.slD' (E := env) ?_ | refine WG.c (E := env) rfl rfl (hd) rfl rfl ?_ | refine WD.c (E := env) rfl rfl (hd) rfl rfl ?_ | refine WG.co (E := env) rfl rfl (hd) rfl rfl rfl rfl ?_ | refine WG.cx (E := env) rfl (hd) rfl ?_ | refine WG.c (E := env) rfl rfl (hr) rfl rfl ?_ | refine WD.c (E := env) rfl rfl (hr) rfl rfl ?_ | refine WG.co (E := env) rfl rfl (hr) rfl rfl rfl rfl ?_ | refine WG.cx (E := env) rfl (hr) rfl ?_ | refine WG.c (E := env) rfl rfl (hN) rfl rfl ?_ | refine WD.c (E := env) rfl rfl (hN) rfl rfl ?_ | refine WG.co (E := env) rfl rfl (hN) rfl rfl rfl rfl ?_ | refine WG.cx (E := env) rfl (hN) rfl ?_ | ((first | refine WG.sp' (fun h => ?_) fun h => ?_ | refine W.cond' (fun h => ?_) fun h => ?_ | refine WD.sp' (fun h => ?_) fun h => ?_) <;> (try simp only [decide_eq_true_eq, decide_eq_false_iff_not, Bool.not_eq_true', Bool.not_eq_false', Bool.and_eq_true, Bool.or_eq_true, Bool.and_eq_false_iff, Bool.or_eq_false_iff, Bool.not_eq_true, Bool.not_eq_false, Int.not_lt, Int.not_le, List.length_map, beq_self_eq_true, Bool.true_eq_false, Bool.false_eq_true] at h) <;> (try (exfalso; first | contradiction | omega))))
  all_goals first | (exfalso; omega) | skip
  all_goals (refine W.ret ?_; (first | refine RetQ.b' ?_ | refine RetQ.i' ?_ | refine RetQ.d' ?_ | refine RetQ.t2' ?_ ?_ | refine RetQ.t3' ?_ ?_ ?_))
  all_goals rfl

set_option maxHeartbeats 4000000 in
theorem lexAt_field (s w : ByteArray) (p : Nat) (hs : s.size ≤ 1048576) (hw : isNameM w = true) (h : Sits s p (⟨#[46]⟩ ++ w)) :
    Fun env.P 15 [dS s, dI p] (.d (lexD ⟨4, 0, 0, w⟩ (1 + w.size : Nat) 0 0)) [] := by
  have hz : (⟨#[46]⟩ ++ w : ByteArray).size = 1 + w.size := by rw [ByteArray.size_append]; rfl
  have hT : Sits s (p + 1) w := h.tail
  have hN := lexNamed_fn s w p 1 4 hs (by omega) hw hT
  obtain ⟨hp, hb⟩ := h.first (by omega)
  rw [byteAt_app, if_pos (show 0 < (⟨#[46]⟩ : ByteArray).size by decide)] at hb
  have hb2 : byteAt s p = 46 := hb
  have hfit := hT.fits
  have hd := isDigit_is (c := byteAt s (Int.toNat (p : Int))) (b := false) (by rw [Int.toNat_natCast, hb2]; decide)
  have hr := nameRun_fn s p hs (by omega)
  rw [nameLen_none (fun _ => by rw [hb2]; decide)] at hr
  have hr1 := nameRun_fn s (p + 1) hs (by omega)
  rw [nameLen_sits hT hw, show ((p + 1 : Nat) : Int) = (p : Int) + 1 by omega] at hr1
  rw [show ((1 : Nat) : Int) + (w.size : Int) = ((1 + w.size : Nat) : Int) by omega, show ((1 : Nat) : Int) = 1 by omega] at hN
  have hb' : byteAt s (Int.toNat (p : Int)) = 46 := by rw [Int.toNat_natCast]; exact hb2
  obtain ⟨h1, _⟩ := name_bytes hw
  refine Fun.intro Tryz.func15 rfl (by kernel_rfl) rfl ?_
  repeat' (first | refine W.seq ?_ | refine W.rg ?_ | refine W.dra' ?_ | refine W.block ?_ | refine W.skip ?_ | refine W.exit ?_ | refine W.cond_true' ?_ | refine W.cond_false' ?_ | refine WG.nil ?_ | refine WG.run' (E := env) ?_ | refine WG.gt' ?_ | refine WG.gf' ?_ | refine WG.ixm' (E := env) ?_ | refine WG.ixo' (E := env) ?_ | refine WG.legm' (E := env) ?_ | refine WG.slS' (E := env) ?_ | refine WG.slD' (E := env) ?_ | refine WG.ap' (E := env) ?_ | refine WD.nil ?_ | refine WD.bs' (E := env) ?_ | refine WD.s' (E := env) (t := .d _) ?_ | refine WD.p' ?_ | refine WD.px' ?_ | refine WD.s' (E := env) (t := .ea _ _) ?_ | refine WD.s' (E := env) (t := .lp _ _) ?_ | refine WD.s' (E := env) (t := .og _ _) ?_ | refine WD.s' (E := env) (t := .agg _) ?_ | refine WD.s' (E := env) (t := .tup _) ?_ | refine WD.s' (E := env) (t := .clo _ _) ?_ | refine WD.ixm' (E := env) ?_ | refine WD.ixo' (E := env) ?_ | refine WD.legm' (E := env) ?_ | refine WD.slS' (E := env) ?_ | refine WD.slD' (E := env) ?_ | refine WG.c (E := env) rfl rfl (hd) rfl rfl ?_ | refine WD.c (E := env) rfl rfl (hd) rfl rfl ?_ | refine WG.co (E := env) rfl rfl (hd) rfl rfl rfl rfl ?_ | refine WG.cx (E := env) rfl (hd) rfl ?_ | refine WG.c (E := env) rfl rfl (hr) rfl rfl ?_ | refine WD.c (E := env) rfl rfl (hr) rfl rfl ?_ | refine WG.co (E := env) rfl rfl (hr) rfl rfl rfl rfl ?_ | refine WG.cx (E := env) rfl (hr) rfl ?_ | refine WG.c (E := env) rfl rfl (hr1) rfl rfl ?_ | refine WD.c (E := env) rfl rfl (hr1) rfl rfl ?_ | refine WG.co (E := env) rfl rfl (hr1) rfl rfl rfl rfl ?_ | refine WG.cx (E := env) rfl (hr1) rfl ?_ | refine WG.c (E := env) rfl rfl (hN) rfl rfl ?_ | refine WD.c (E := env) rfl rfl (hN) rfl rfl ?_ | refine WG.co (E := env) rfl rfl (hN) rfl rfl rfl rfl ?_ | refine WG.cx (E := env) rfl (hN) rfl ?_ | ((first | refine WG.sp' (fun h => ?_) fun h => ?_ | refine W.cond' (fun h => ?_) fun h => ?_ | refine WD.sp' (fun h => ?_) fun h => ?_) <;> (try simp only [decide_eq_true_eq, decide_eq_false_iff_not, Bool.not_eq_true', Bool.not_eq_false', Bool.and_eq_true, Bool.or_eq_true, Bool.and_eq_false_iff, Bool.or_eq_false_iff, Bool.not_eq_true, Bool.not_eq_false, Int.not_lt, Int.not_le, List.length_map, beq_self_eq_true, Bool.true_eq_false, Bool.false_eq_true] at h) <;> (try (exfalso; first | contradiction | omega))))
  all_goals first | (exfalso; omega) | skip
  all_goals (refine W.ret ?_; (first | refine RetQ.b' ?_ | refine RetQ.i' ?_ | refine RetQ.d' ?_ | refine RetQ.t2' ?_ ?_ | refine RetQ.t3' ?_ ?_ ?_))
  all_goals rfl

set_option maxHeartbeats 4000000 in
theorem lexAt_var (s w : ByteArray) (p : Nat) (hs : s.size ≤ 1048576) (hw : isNameM w = true) (h : Sits s p (⟨#[36]⟩ ++ w)) :
    Fun env.P 15 [dS s, dI p] (.d (lexD ⟨5, 0, 0, w⟩ (1 + w.size : Nat) 0 0)) [] := by
  have hz : (⟨#[36]⟩ ++ w : ByteArray).size = 1 + w.size := by rw [ByteArray.size_append]; rfl
  have hT : Sits s (p + 1) w := h.tail
  have hN := lexNamed_fn s w p 1 5 hs (by omega) hw hT
  obtain ⟨hp, hb⟩ := h.first (by omega)
  rw [byteAt_app, if_pos (show 0 < (⟨#[36]⟩ : ByteArray).size by decide)] at hb
  have hb2 : byteAt s p = 36 := hb
  have hfit := hT.fits
  have hd := isDigit_is (c := byteAt s (Int.toNat (p : Int))) (b := false) (by rw [Int.toNat_natCast, hb2]; decide)
  have hr := nameRun_fn s p hs (by omega)
  rw [nameLen_none (fun _ => by rw [hb2]; decide)] at hr
  rw [show ((1 : Nat) : Int) + (w.size : Int) = ((1 + w.size : Nat) : Int) by omega, show ((1 : Nat) : Int) = 1 by omega] at hN
  have hb' : byteAt s (Int.toNat (p : Int)) = 36 := by rw [Int.toNat_natCast]; exact hb2
  obtain ⟨h1, _⟩ := name_bytes hw
  refine Fun.intro Tryz.func15 rfl (by kernel_rfl) rfl ?_
  repeat' (first | refine W.seq ?_ | refine W.rg ?_ | refine W.dra' ?_ | refine W.block ?_ | refine W.skip ?_ | refine W.exit ?_ | refine W.cond_true' ?_ | refine W.cond_false' ?_ | refine WG.nil ?_ | refine WG.run' (E := env) ?_ | refine WG.gt' ?_ | refine WG.gf' ?_ | refine WG.ixm' (E := env) ?_ | refine WG.ixo' (E := env) ?_ | refine WG.legm' (E := env) ?_ | refine WG.slS' (E := env) ?_ | refine WG.slD' (E := env) ?_ | refine WG.ap' (E := env) ?_ | refine WD.nil ?_ | refine WD.bs' (E := env) ?_ | refine WD.s' (E := env) (t := .d _) ?_ | refine WD.p' ?_ | refine WD.px' ?_ | refine WD.s' (E := env) (t := .ea _ _) ?_ | refine WD.s' (E := env) (t := .lp _ _) ?_ | refine WD.s' (E := env) (t := .og _ _) ?_ | refine WD.s' (E := env) (t := .agg _) ?_ | refine WD.s' (E := env) (t := .tup _) ?_ | refine WD.s' (E := env) (t := .clo _ _) ?_ | refine WD.ixm' (E := env) ?_ | refine WD.ixo' (E := env) ?_ | refine WD.legm' (E := env) ?_ | refine WD.slS' (E := env) ?_ | refine WD.slD' (E := env) ?_ | refine WG.c (E := env) rfl rfl (hd) rfl rfl ?_ | refine WD.c (E := env) rfl rfl (hd) rfl rfl ?_ | refine WG.co (E := env) rfl rfl (hd) rfl rfl rfl rfl ?_ | refine WG.cx (E := env) rfl (hd) rfl ?_ | refine WG.c (E := env) rfl rfl (hr) rfl rfl ?_ | refine WD.c (E := env) rfl rfl (hr) rfl rfl ?_ | refine WG.co (E := env) rfl rfl (hr) rfl rfl rfl rfl ?_ | refine WG.cx (E := env) rfl (hr) rfl ?_ | refine WG.c (E := env) rfl rfl (hN) rfl rfl ?_ | refine WD.c (E := env) rfl rfl (hN) rfl rfl ?_ | refine WG.co (E := env) rfl rfl (hN) rfl rfl rfl rfl ?_ | refine WG.cx (E := env) rfl (hN) rfl ?_ | ((first | refine WG.sp' (fun h => ?_) fun h => ?_ | refine W.cond' (fun h => ?_) fun h => ?_ | refine WD.sp' (fun h => ?_) fun h => ?_) <;> (try simp only [decide_eq_true_eq, decide_eq_false_iff_not, Bool.not_eq_true', Bool.not_eq_false', Bool.and_eq_true, Bool.or_eq_true, Bool.and_eq_false_iff, Bool.or_eq_false_iff, Bool.not_eq_true, Bool.not_eq_false, Int.not_lt, Int.not_le, List.length_map, beq_self_eq_true, Bool.true_eq_false, Bool.false_eq_true] at h) <;> (try (exfalso; first | contradiction | omega))))
  all_goals first | (exfalso; omega) | skip
  all_goals (refine W.ret ?_; (first | refine RetQ.b' ?_ | refine RetQ.i' ?_ | refine RetQ.d' ?_ | refine RetQ.t2' ?_ ?_ | refine RetQ.t3' ?_ ?_ ?_))
  all_goals rfl

end Go.Proofs.YthaakpbdijhgiaaGreatDoor
