/-
  DecodeNumber by the program. Conditions: texts of at most 2^20 bytes; the variable strconv.ErrRange holds something.
-/
import Derived.Test.YtgdedcbijgeodaaDoorDn3
set_option linter.unusedVariables false
set_option linter.unusedSimpArgs false
set_option maxRecDepth 100000
namespace Go.Proofs.YtgdedcbijgeodaaDoor
open Go.RowKit

set_option maxHeartbeats 2000000 in
theorem numberOf_fn (s : ByteArray) (hs : s.size ≤ 1048576) (u : Value) (hu : u = .nilIface ∨ ∃ te pe, u = .iface te pe) (h : numOK s = true) :
    FunQ env.P 11 [.d (dS s)] [.x (gvX gER u) 0] (just (.tup [.d (dI (numR s).2), .d (dI (numR s).1)]) [.x (gvX gER u) 0]) := by
  have hT := TrimPrefix_fn s
  have hd := digT_size s
  have hv := numVal_is s
  have hw := fun n => within_fn n (-1000000000000000) 1000000000000000
  have hf := numD_few h
  unfold numR
  rw [if_pos h]
  refine FunQ.intro Tryd.func11 rfl (by kernel_rfl) rfl ?_
  rcases parse_s h with hp | ⟨hp, hbig⟩
  · have hP := ParseInt_ok s hs _ hp
    by_cases hk : s.size - sgnM s ≤ 16 ∧ numD s ≤ 1000000000000000
    · rw [if_pos hk]
      repeat' (first | refine WG.ifNil (E := env) rfl rfl (by kernel_rfl) rfl ?_ | refine W.seq ?_ | refine W.rg ?_ | refine W.dra' ?_ | refine W.block ?_ | refine W.skip ?_ | refine W.exit ?_ | refine W.cond_true' ?_ | refine W.cond_false' ?_ | refine WG.nil ?_ | refine WG.run' (E := env) ?_ | refine WG.gt' ?_ | refine WG.gf' ?_ | refine WG.ixm' (E := env) ?_ | refine WG.ixo' (E := env) ?_ | refine WG.legm' (E := env) ?_ | refine WG.slS' (E := env) ?_ | refine WG.slD' (E := env) ?_ | refine WG.ap' (E := env) ?_ | refine WD.nil ?_ | refine WD.bs' (E := env) ?_ | refine WD.s' (E := env) (t := .d _) ?_ | refine WD.p' ?_ | refine WD.px' ?_ | refine WD.s' (E := env) (t := .ea _ _) ?_ | refine WD.s' (E := env) (t := .lp _ _) ?_ | refine WD.s' (E := env) (t := .og _ _) ?_ | refine WD.s' (E := env) (t := .agg _) ?_ | refine WD.s' (E := env) (t := .tup _) ?_ | refine WD.s' (E := env) (t := .clo _ _) ?_ | refine WD.ixm' (E := env) ?_ | refine WD.ixo' (E := env) ?_ | refine WD.legm' (E := env) ?_ | refine WD.slS' (E := env) ?_ | refine WD.slD' (E := env) ?_ | refine WG.c (E := env) rfl rfl (hP) rfl rfl ?_ | refine WD.c (E := env) rfl rfl (hP) rfl rfl ?_ | refine WG.co (E := env) rfl rfl (hP) rfl rfl rfl rfl ?_ | refine WG.cx (E := env) rfl (hP) rfl ?_ | refine WG.c (E := env) rfl rfl (hT) rfl rfl ?_ | refine WD.c (E := env) rfl rfl (hT) rfl rfl ?_ | refine WG.co (E := env) rfl rfl (hT) rfl rfl rfl rfl ?_ | refine WG.cx (E := env) rfl (hT) rfl ?_ | refine WG.c (E := env) rfl rfl (hw _) rfl rfl ?_ | refine WD.c (E := env) rfl rfl (hw _) rfl rfl ?_ | refine WG.co (E := env) rfl rfl (hw _) rfl rfl rfl rfl ?_ | refine WG.cx (E := env) rfl (hw _) rfl ?_ | ((first | refine WG.sp' (fun h => ?_) fun h => ?_ | refine W.cond' (fun h => ?_) fun h => ?_ | refine WD.sp' (fun h => ?_) fun h => ?_) <;> (try simp only [decide_eq_true_eq, decide_eq_false_iff_not, Bool.not_eq_true', Bool.not_eq_false', Bool.and_eq_true, Bool.or_eq_true, Bool.and_eq_false_iff, Bool.or_eq_false_iff, Bool.not_eq_true, Bool.not_eq_false, Int.not_lt, Int.not_le, List.length_map, beq_self_eq_true, Bool.true_eq_false, Bool.false_eq_true] at h) <;> (try (exfalso; first | contradiction | omega))))
      all_goals first | (exfalso; omega) | skip
      all_goals (refine W.ret ?_; exact RetR.own (ob' := [.x (gvX gER u) 0]) ⟨[0], [0], 1⟩ (.inl rfl) rfl (by first | trivial | exact resOK_of (E := env) rfl) rfl rfl rfl rfl rfl rfl ⟨rfl, trivial⟩ rfl ⟨rfl, rfl⟩)
    · rw [if_neg hk]
      repeat' (first | refine WG.ifNil (E := env) rfl rfl (by kernel_rfl) rfl ?_ | refine W.seq ?_ | refine W.rg ?_ | refine W.dra' ?_ | refine W.block ?_ | refine W.skip ?_ | refine W.exit ?_ | refine W.cond_true' ?_ | refine W.cond_false' ?_ | refine WG.nil ?_ | refine WG.run' (E := env) ?_ | refine WG.gt' ?_ | refine WG.gf' ?_ | refine WG.ixm' (E := env) ?_ | refine WG.ixo' (E := env) ?_ | refine WG.legm' (E := env) ?_ | refine WG.slS' (E := env) ?_ | refine WG.slD' (E := env) ?_ | refine WG.ap' (E := env) ?_ | refine WD.nil ?_ | refine WD.bs' (E := env) ?_ | refine WD.s' (E := env) (t := .d _) ?_ | refine WD.p' ?_ | refine WD.px' ?_ | refine WD.s' (E := env) (t := .ea _ _) ?_ | refine WD.s' (E := env) (t := .lp _ _) ?_ | refine WD.s' (E := env) (t := .og _ _) ?_ | refine WD.s' (E := env) (t := .agg _) ?_ | refine WD.s' (E := env) (t := .tup _) ?_ | refine WD.s' (E := env) (t := .clo _ _) ?_ | refine WD.ixm' (E := env) ?_ | refine WD.ixo' (E := env) ?_ | refine WD.legm' (E := env) ?_ | refine WD.slS' (E := env) ?_ | refine WD.slD' (E := env) ?_ | refine WG.c (E := env) rfl rfl (hP) rfl rfl ?_ | refine WD.c (E := env) rfl rfl (hP) rfl rfl ?_ | refine WG.co (E := env) rfl rfl (hP) rfl rfl rfl rfl ?_ | refine WG.cx (E := env) rfl (hP) rfl ?_ | refine WG.c (E := env) rfl rfl (hT) rfl rfl ?_ | refine WD.c (E := env) rfl rfl (hT) rfl rfl ?_ | refine WG.co (E := env) rfl rfl (hT) rfl rfl rfl rfl ?_ | refine WG.cx (E := env) rfl (hT) rfl ?_ | refine WG.c (E := env) rfl rfl (hw _) rfl rfl ?_ | refine WD.c (E := env) rfl rfl (hw _) rfl rfl ?_ | refine WG.co (E := env) rfl rfl (hw _) rfl rfl rfl rfl ?_ | refine WG.cx (E := env) rfl (hw _) rfl ?_ | ((first | refine WG.sp' (fun h => ?_) fun h => ?_ | refine W.cond' (fun h => ?_) fun h => ?_ | refine WD.sp' (fun h => ?_) fun h => ?_) <;> (try simp only [decide_eq_true_eq, decide_eq_false_iff_not, Bool.not_eq_true', Bool.not_eq_false', Bool.and_eq_true, Bool.or_eq_true, Bool.and_eq_false_iff, Bool.or_eq_false_iff, Bool.not_eq_true, Bool.not_eq_false, Int.not_lt, Int.not_le, List.length_map, beq_self_eq_true, Bool.true_eq_false, Bool.false_eq_true] at h) <;> (try (exfalso; first | contradiction | omega))))
      all_goals first | (exfalso; omega) | skip
      all_goals (refine W.ret ?_; exact RetR.own (ob' := [.x (gvX gER u) 0]) ⟨[0], [0], 1⟩ (.inl rfl) rfl (by first | trivial | exact resOK_of (E := env) rfl) rfl rfl rfl rfl rfl rfl ⟨rfl, trivial⟩ rfl ⟨rfl, rfl⟩)
  · have hP := ParseInt_range s hs u hu hp
    rw [if_neg (fun h => by omega)]
    repeat' (first | refine WG.ifNe (E := env) rfl rfl (by kernel_rfl) rfl ?_ | refine W.seq ?_ | refine W.rg ?_ | refine W.dra' ?_ | refine W.block ?_ | refine W.skip ?_ | refine W.exit ?_ | refine W.cond_true' ?_ | refine W.cond_false' ?_ | refine WG.nil ?_ | refine WG.run' (E := env) ?_ | refine WG.gt' ?_ | refine WG.gf' ?_ | refine WG.ixm' (E := env) ?_ | refine WG.ixo' (E := env) ?_ | refine WG.legm' (E := env) ?_ | refine WG.slS' (E := env) ?_ | refine WG.slD' (E := env) ?_ | refine WG.ap' (E := env) ?_ | refine WD.nil ?_ | refine WD.bs' (E := env) ?_ | refine WD.s' (E := env) (t := .d _) ?_ | refine WD.p' ?_ | refine WD.px' ?_ | refine WD.s' (E := env) (t := .ea _ _) ?_ | refine WD.s' (E := env) (t := .lp _ _) ?_ | refine WD.s' (E := env) (t := .og _ _) ?_ | refine WD.s' (E := env) (t := .agg _) ?_ | refine WD.s' (E := env) (t := .tup _) ?_ | refine WD.s' (E := env) (t := .clo _ _) ?_ | refine WD.ixm' (E := env) ?_ | refine WD.ixo' (E := env) ?_ | refine WD.legm' (E := env) ?_ | refine WD.slS' (E := env) ?_ | refine WD.slD' (E := env) ?_ | refine WG.cq (E := env) [0] [0] false rfl rfl (hP) rfl rfl rfl rfl rfl rfl rfl (by first | exact trivial | exact ⟨rfl, trivial⟩ | exact ⟨rfl, rfl, trivial⟩) (.inl rfl) rfl (fun h => nomatch h) rfl rfl ?_ | refine WG.cqx (E := env) [0] [0] false rfl (hP) rfl rfl rfl rfl rfl rfl rfl (by first | exact trivial | exact ⟨rfl, trivial⟩ | exact ⟨rfl, rfl, trivial⟩) (.inl rfl) rfl (fun h => nomatch h) rfl ?_ | refine WG.c (E := env) rfl rfl (hT) rfl rfl ?_ | refine WD.c (E := env) rfl rfl (hT) rfl rfl ?_ | refine WG.co (E := env) rfl rfl (hT) rfl rfl rfl rfl ?_ | refine WG.cx (E := env) rfl (hT) rfl ?_ | refine WG.c (E := env) rfl rfl (hw _) rfl rfl ?_ | refine WD.c (E := env) rfl rfl (hw _) rfl rfl ?_ | refine WG.co (E := env) rfl rfl (hw _) rfl rfl rfl rfl ?_ | refine WG.cx (E := env) rfl (hw _) rfl ?_ | ((first | refine WG.sp' (fun h => ?_) fun h => ?_ | refine W.cond' (fun h => ?_) fun h => ?_ | refine WD.sp' (fun h => ?_) fun h => ?_) <;> (try simp only [decide_eq_true_eq, decide_eq_false_iff_not, Bool.not_eq_true', Bool.not_eq_false', Bool.and_eq_true, Bool.or_eq_true, Bool.and_eq_false_iff, Bool.or_eq_false_iff, Bool.not_eq_true, Bool.not_eq_false, Int.not_lt, Int.not_le, List.length_map, beq_self_eq_true, Bool.true_eq_false, Bool.false_eq_true] at h) <;> (try (exfalso; first | contradiction | omega))))
    all_goals first | (exfalso; omega) | skip
    all_goals (refine W.ret ?_; exact RetR.own (ob' := [.x (gvX gER u) 0]) ⟨[0], [0], 1⟩ (.inl rfl) rfl (by first | trivial | exact resOK_of (E := env) rfl) rfl rfl rfl rfl rfl rfl ⟨rfl, trivial⟩ rfl ⟨rfl, rfl⟩)

theorem numOK_iff (s : ByteArray) : numOK s = true ↔ 0 < (digT s).size ∧ runOf digitB (digT s) 0 = (digT s).size ∧ (byteAt (digT s) 0 ≠ 48 ∨ (digT s).size = 1) := by
  have h1 := digT_size s
  have h2 := runOf_digT digitB s
  have h3 := digT_byte s 0
  have h4 := sgnM_le s
  rw [Nat.add_zero] at h3
  unfold numOK
  simp only [Bool.and_eq_true, Bool.or_eq_true, decide_eq_true_eq, h3, ne_eq]
  constructor
  · rintro ⟨⟨a, b⟩, c⟩
    refine ⟨by omega, by omega, ?_⟩
    rcases c with c | c
    · exact .inl c
    · exact .inr (by omega)
  · rintro ⟨a, b, c⟩
    refine ⟨⟨by omega, by omega⟩, ?_⟩
    rcases c with c | c
    · exact .inl c
    · exact .inr (by omega)

theorem str0 (d : ByteArray) : d = ⟨#[]⟩ ↔ d.size = 0 := by
  constructor
  · rintro rfl; rfl
  · intro h
    cases d with
    | mk a =>
      have : a.size = 0 := h
      rw [Array.eq_empty_of_size_eq_zero this]
theorem str1 (d : ByteArray) : d = ⟨#[48]⟩ ↔ d.size = 1 ∧ byteAt d 0 = 48 := by
  constructor
  · rintro rfl
    exact ⟨rfl, rfl⟩
  · rintro ⟨h1, h2⟩
    cases d with
    | mk a =>
      have h3 : a.toList.length = 1 := h1
      obtain ⟨c, hc⟩ := List.length_eq_one_iff.1 h3
      unfold byteAt at h2
      simp only [hc, List.getD_cons_zero] at h2
      have h4 : c = 48 := UInt8.toNat_inj.1 (by show c.toNat = 48; omega)
      subst h4
      congr 1
      rw [← Array.toList_inj, hc]

set_option maxHeartbeats 4000000 in
theorem DecodeNumber_fn (s : ByteArray) (hs : s.size ≤ 1048576) (u : Value) (hu : u = .nilIface ∨ ∃ te pe, u = .iface te pe) :
    FunQ env.P 5 [.d (dS s)] [.x (gvX gER u) 0] (just (.d (dIR (numR s).1 (numR s).2)) [.x (gvX gER u) 0]) := by
  have hT := TrimPrefix_fn s
  have hd := digT_size s
  have hi := numOK_iff s
  have e0 := str0 (digT s)
  have e1 := str1 (digT s)
  have hD := digitsAt_fn (digT s) (by omega)
  have hN := fun h => numberOf_fn s hs u hu h
  refine FunQ.intro Tryd.func5 rfl (by kernel_rfl) rfl ?_
  by_cases hok : numOK s = true
  · replace hN := hN hok
    obtain ⟨i1, i2, i3⟩ := hi.1 hok
    generalize numR s = r at *
    generalize digT s = d at *
    clear hi
    rw [i2] at hD
    repeat' (first | refine W.seq ?_ | refine W.rg ?_ | refine W.dra' ?_ | refine W.block ?_ | refine W.skip ?_ | refine W.exit ?_ | refine W.cond_true' ?_ | refine W.cond_false' ?_ | refine WG.nil ?_ | refine WG.run' (E := env) ?_ | refine WG.gt' ?_ | refine WG.gf' ?_ | refine WG.ixm' (E := env) ?_ | refine WG.ixo' (E := env) ?_ | refine WG.legm' (E := env) ?_ | refine WG.slS' (E := env) ?_ | refine WG.slD' (E := env) ?_ | refine WG.ap' (E := env) ?_ | refine WD.nil ?_ | refine WD.bs' (E := env) ?_ | refine WD.s' (E := env) (t := .d _) ?_ | refine WD.p' ?_ | refine WD.px' ?_ | refine WD.s' (E := env) (t := .ea _ _) ?_ | refine WD.s' (E := env) (t := .lp _ _) ?_ | refine WD.s' (E := env) (t := .og _ _) ?_ | refine WD.s' (E := env) (t := .agg _) ?_ | refine WD.s' (E := env) (t := .tup _) ?_ | refine WD.s' (E := env) (t := .clo _ _) ?_ | refine WD.ixm' (E := env) ?_ | refine WD.ixo' (E := env) ?_ | refine WD.legm' (E := env) ?_ | refine WD.slS' (E := env) ?_ | refine WD.slD' (E := env) ?_ | refine WG.c (E := env) rfl rfl (hT) rfl rfl ?_ | refine WD.c (E := env) rfl rfl (hT) rfl rfl ?_ | refine WG.co (E := env) rfl rfl (hT) rfl rfl rfl rfl ?_ | refine WG.cx (E := env) rfl (hT) rfl ?_ | refine WG.c (E := env) rfl rfl (hD) rfl rfl ?_ | refine WD.c (E := env) rfl rfl (hD) rfl rfl ?_ | refine WG.co (E := env) rfl rfl (hD) rfl rfl rfl rfl ?_ | refine WG.cx (E := env) rfl (hD) rfl ?_ | refine WG.cq (E := env) [0] [0] false rfl rfl (hN) rfl rfl rfl rfl rfl rfl rfl (by first | exact trivial | exact ⟨rfl, trivial⟩ | exact ⟨rfl, rfl, trivial⟩) (.inl rfl) rfl (fun h => nomatch h) rfl rfl ?_ | refine WG.cqx (E := env) [0] [0] false rfl (hN) rfl rfl rfl rfl rfl rfl rfl (by first | exact trivial | exact ⟨rfl, trivial⟩ | exact ⟨rfl, rfl, trivial⟩) (.inl rfl) rfl (fun h => nomatch h) rfl ?_ | ((first | refine WG.sp' (fun h => ?_) fun h => ?_ | refine W.cond' (fun h => ?_) fun h => ?_ | refine WD.sp' (fun h => ?_) fun h => ?_) <;> (try simp only [decide_eq_true_eq, decide_eq_false_iff_not, Bool.not_eq_true', Bool.not_eq_false', Bool.and_eq_true, Bool.or_eq_true, Bool.and_eq_false_iff, Bool.or_eq_false_iff, Bool.not_eq_true, Bool.not_eq_false, Int.not_lt, Int.not_le, List.length_map, beq_self_eq_true, Bool.true_eq_false, Bool.false_eq_true] at h) <;> (try (exfalso; first | contradiction | omega))))
    all_goals first | (exfalso; have q := e0.1 (by assumption); omega) | (exfalso; exact ‹¬ d = ⟨#[48]⟩› (e1.2 ⟨i3.elim (fun q => absurd ‹byteAt d (Int.toNat 0) = 48› q) id, ‹byteAt d (Int.toNat 0) = 48›⟩)) | skip
    all_goals (refine W.ret ?_; exact RetR.own (ob' := [.x (gvX gER u) 0]) ⟨[0], [0], 2⟩ (.inl rfl) rfl (by first | trivial | exact resOK_of (E := env) rfl) rfl rfl rfl rfl rfl rfl ⟨rfl, trivial⟩ rfl ⟨rfl, rfl⟩)
  · have hr : numR s = (5, 0) := by unfold numR; rw [if_neg hok]
    rw [hr]
    have hno := fun h => hok (hi.2 h)
    clear hN hi hok
    generalize digT s = d at *
    by_cases hE : d.size = 0
    · have hE2 := e0.2 hE
      repeat' (first | (exfalso; exact ‹¬ d = ⟨#[]⟩› hE2) | refine W.seq ?_ | refine W.rg ?_ | refine W.dra' ?_ | refine W.block ?_ | refine W.skip ?_ | refine W.exit ?_ | refine W.cond_true' ?_ | refine W.cond_false' ?_ | refine WG.nil ?_ | refine WG.run' (E := env) ?_ | refine WG.gt' ?_ | refine WG.gf' ?_ | refine WG.ixm' (E := env) ?_ | refine WG.ixo' (E := env) ?_ | refine WG.legm' (E := env) ?_ | refine WG.slS' (E := env) ?_ | refine WG.slD' (E := env) ?_ | refine WG.ap' (E := env) ?_ | refine WD.nil ?_ | refine WD.bs' (E := env) ?_ | refine WD.s' (E := env) (t := .d _) ?_ | refine WD.p' ?_ | refine WD.px' ?_ | refine WD.s' (E := env) (t := .ea _ _) ?_ | refine WD.s' (E := env) (t := .lp _ _) ?_ | refine WD.s' (E := env) (t := .og _ _) ?_ | refine WD.s' (E := env) (t := .agg _) ?_ | refine WD.s' (E := env) (t := .tup _) ?_ | refine WD.s' (E := env) (t := .clo _ _) ?_ | refine WD.ixm' (E := env) ?_ | refine WD.ixo' (E := env) ?_ | refine WD.legm' (E := env) ?_ | refine WD.slS' (E := env) ?_ | refine WD.slD' (E := env) ?_ | refine WG.c (E := env) rfl rfl (hT) rfl rfl ?_ | refine WD.c (E := env) rfl rfl (hT) rfl rfl ?_ | refine WG.co (E := env) rfl rfl (hT) rfl rfl rfl rfl ?_ | refine WG.cx (E := env) rfl (hT) rfl ?_ | refine WG.c (E := env) rfl rfl (hD) rfl rfl ?_ | refine WD.c (E := env) rfl rfl (hD) rfl rfl ?_ | refine WG.co (E := env) rfl rfl (hD) rfl rfl rfl rfl ?_ | refine WG.cx (E := env) rfl (hD) rfl ?_ | ((first | refine WG.sp' (fun h => ?_) fun h => ?_ | refine W.cond' (fun h => ?_) fun h => ?_ | refine WD.sp' (fun h => ?_) fun h => ?_) <;> (try simp only [decide_eq_true_eq, decide_eq_false_iff_not, Bool.not_eq_true', Bool.not_eq_false', Bool.and_eq_true, Bool.or_eq_true, Bool.and_eq_false_iff, Bool.or_eq_false_iff, Bool.not_eq_true, Bool.not_eq_false, Int.not_lt, Int.not_le, List.length_map, beq_self_eq_true, Bool.true_eq_false, Bool.false_eq_true] at h) <;> (try (exfalso; first | contradiction | omega))))
      all_goals (refine W.ret ?_; exact RetR.own (ob' := [.x (gvX gER u) 0]) ⟨[0], [0], 2⟩ (.inl rfl) rfl (by first | trivial | exact resOK_of (E := env) rfl) rfl rfl rfl rfl rfl rfl ⟨rfl, trivial⟩ rfl ⟨rfl, rfl⟩)
    · have hE2 : 0 < d.size := Nat.pos_of_ne_zero hE
      repeat' (first | refine W.seq ?_ | refine W.rg ?_ | refine W.dra' ?_ | refine W.block ?_ | refine W.skip ?_ | refine W.exit ?_ | refine W.cond_true' ?_ | refine W.cond_false' ?_ | refine WG.nil ?_ | refine WG.run' (E := env) ?_ | refine WG.gt' ?_ | refine WG.gf' ?_ | refine WG.ixm' (E := env) ?_ | refine WG.ixo' (E := env) ?_ | refine WG.legm' (E := env) ?_ | refine WG.slS' (E := env) ?_ | refine WG.slD' (E := env) ?_ | refine WG.ap' (E := env) ?_ | refine WD.nil ?_ | refine WD.bs' (E := env) ?_ | refine WD.s' (E := env) (t := .d _) ?_ | refine WD.p' ?_ | refine WD.px' ?_ | refine WD.s' (E := env) (t := .ea _ _) ?_ | refine WD.s' (E := env) (t := .lp _ _) ?_ | refine WD.s' (E := env) (t := .og _ _) ?_ | refine WD.s' (E := env) (t := .agg _) ?_ | refine WD.s' (E := env) (t := .tup _) ?_ | refine WD.s' (E := env) (t := .clo _ _) ?_ | refine WD.ixm' (E := env) ?_ | refine WD.ixo' (E := env) ?_ | refine WD.legm' (E := env) ?_ | refine WD.slS' (E := env) ?_ | refine WD.slD' (E := env) ?_ | refine WG.c (E := env) rfl rfl (hT) rfl rfl ?_ | refine WD.c (E := env) rfl rfl (hT) rfl rfl ?_ | refine WG.co (E := env) rfl rfl (hT) rfl rfl rfl rfl ?_ | refine WG.cx (E := env) rfl (hT) rfl ?_ | refine WG.c (E := env) rfl rfl (hD) rfl rfl ?_ | refine WD.c (E := env) rfl rfl (hD) rfl rfl ?_ | refine WG.co (E := env) rfl rfl (hD) rfl rfl rfl rfl ?_ | refine WG.cx (E := env) rfl (hD) rfl ?_ | ((first | refine WG.sp' (fun h => ?_) fun h => ?_ | refine W.cond' (fun h => ?_) fun h => ?_ | refine WD.sp' (fun h => ?_) fun h => ?_) <;> (try simp only [decide_eq_true_eq, decide_eq_false_iff_not, Bool.not_eq_true', Bool.not_eq_false', Bool.and_eq_true, Bool.or_eq_true, Bool.and_eq_false_iff, Bool.or_eq_false_iff, Bool.not_eq_true, Bool.not_eq_false, Int.not_lt, Int.not_le, List.length_map, beq_self_eq_true, Bool.true_eq_false, Bool.false_eq_true] at h) <;> (try (exfalso; first | contradiction | omega))))
      all_goals first
        | (exfalso; exact hno ⟨hE2, by omega, .inl ‹¬ byteAt d (Int.toNat 0) = 48›⟩)
        | (exfalso; exact hno ⟨hE2, by omega, .inr (e1.1 ‹d = ⟨#[48]⟩›).1⟩)
        | skip
      all_goals (refine W.ret ?_; exact RetR.own (ob' := [.x (gvX gER u) 0]) ⟨[0], [0], 2⟩ (.inl rfl) rfl (by first | trivial | exact resOK_of (E := env) rfl) rfl rfl rfl rfl rfl rfl ⟨rfl, trivial⟩ rfl ⟨rfl, rfl⟩)

end Go.Proofs.YtgdedcbijgeodaaDoor
