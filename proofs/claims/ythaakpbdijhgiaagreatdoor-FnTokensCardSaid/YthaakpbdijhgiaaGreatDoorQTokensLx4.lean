/-
  Numbers and names read at a place of a text. Conditions: texts of at most 2^20 bytes.
-/
import Derived.Test.YthaakpbdijhgiaaGreatDoorQTokensLs2
set_option linter.unusedVariables false
set_option linter.unusedSimpArgs false
set_option maxRecDepth 100000
namespace Go.Proofs.YthaakpbdijhgiaaGreatDoor
open Go.RowKit

set_option maxHeartbeats 1000000 in
theorem digitsAt_at (s : ByteArray) (hs : s.size ≤ 1048576) (p : Nat) (hp : p ≤ s.size) : Fun env.P 53 [dS s, dI p] (.d (dI (runOf digitB s p - p : Nat))) [] := by
  refine Fun.intro Tryz.func53 rfl (by kernel_rfl) rfl ?_
  repeat' (first | refine W.seq ?_ | refine W.rg ?_ | refine W.dra' ?_ | refine W.block ?_ | refine W.skip ?_ | refine W.exit ?_ | refine W.cond_true' ?_ | refine W.cond_false' ?_ | refine WG.nil ?_ | refine WG.run' (E := env) ?_ | refine WG.gt' ?_ | refine WG.gf' ?_ | refine WG.ixm' (E := env) ?_ | refine WG.ixo' (E := env) ?_ | refine WG.legm' (E := env) ?_ | refine WG.slS' (E := env) ?_ | refine WG.slD' (E := env) ?_ | refine WG.ap' (E := env) ?_ | refine WD.nil ?_ | refine WD.bs' (E := env) ?_ | refine WD.s' (E := env) (t := .d _) ?_ | refine WD.p' ?_ | refine WD.px' ?_ | refine WD.s' (E := env) (t := .ea _ _) ?_ | refine WD.s' (E := env) (t := .lp _ _) ?_ | refine WD.s' (E := env) (t := .og _ _) ?_ | refine WD.s' (E := env) (t := .agg _) ?_ | refine WD.s' (E := env) (t := .tup _) ?_ | refine WD.s' (E := env) (t := .clo _ _) ?_ | refine WD.ixm' (E := env) ?_ | refine WD.ixo' (E := env) ?_ | refine WD.legm' (E := env) ?_ | refine WD.slS' (E := env) ?_ | refine WD.slD' (E := env) ?_ | ((first | refine WG.sp' (fun h => ?_) fun h => ?_ | refine W.cond' (fun h => ?_) fun h => ?_ | refine WD.sp' (fun h => ?_) fun h => ?_) <;> (try simp only [decide_eq_true_eq, decide_eq_false_iff_not, Bool.not_eq_true', Bool.not_eq_false', Bool.and_eq_true, Bool.or_eq_true, Bool.and_eq_false_iff, Bool.or_eq_false_iff, Bool.not_eq_true, Bool.not_eq_false, Int.not_lt, Int.not_le, List.length_map, beq_self_eq_true, Bool.true_eq_false, Bool.false_eq_true] at h) <;> (try (exfalso; first | contradiction | omega))))
  refine W.loop (fun m S => ∃ j : Nat, m = s.size - (p + j) ∧ p + j ≤ s.size ∧ runOf digitB s p = runOf digitB s (p + j) ∧ S = ⟨ofL [(0, vS s), (1, vI .i64 p), (5, vI .i64 j)], []⟩) _ _ ⟨0, rfl, by omega, rfl, rfl⟩ (by (refine le_ofL rfl ?_ ?_ <;> (repeat (first | exact trivial | refine ⟨⟨rfl, rfl⟩, ?_⟩ | refine ⟨rfl, .inl rfl, ?_⟩ | refine ⟨rfl, .inr rfl, ?_⟩)))) ?_
  rintro m S ⟨j, rfl, hj, he, rfl⟩
  have hc : ((p : Int) + (j : Int)).toNat = p + j := by omega
  repeat' (first | refine W.seq ?_ | refine W.rg ?_ | refine W.dra' ?_ | refine W.block ?_ | refine W.skip ?_ | refine W.exit ?_ | refine W.cond_true' ?_ | refine W.cond_false' ?_ | refine WG.nil ?_ | refine WG.run' (E := env) ?_ | refine WG.gt' ?_ | refine WG.gf' ?_ | refine WG.ixm' (E := env) ?_ | refine WG.ixo' (E := env) ?_ | refine WG.legm' (E := env) ?_ | refine WG.slS' (E := env) ?_ | refine WG.slD' (E := env) ?_ | refine WG.ap' (E := env) ?_ | refine WD.nil ?_ | refine WD.bs' (E := env) ?_ | refine WD.s' (E := env) (t := .d _) ?_ | refine WD.p' ?_ | refine WD.px' ?_ | refine WD.s' (E := env) (t := .ea _ _) ?_ | refine WD.s' (E := env) (t := .lp _ _) ?_ | refine WD.s' (E := env) (t := .og _ _) ?_ | refine WD.s' (E := env) (t := .agg _) ?_ | refine WD.s' (E := env) (t := .tup _) ?_ | refine WD.s' (E := env) (t := .clo _ _) ?_ | refine WD.ixm' (E := env) ?_ | refine WD.ixo' (E := env) ?_ | refine WD.legm' (E := env) ?_ | refine WD.slS' (E := env) ?_ | refine WD.slD' (E := env) ?_ | refine WG.c (E := env) rfl rfl (isDigit_fn _) rfl rfl ?_ | refine WD.c (E := env) rfl rfl (isDigit_fn _) rfl rfl ?_ | refine WG.co (E := env) rfl rfl (isDigit_fn _) rfl rfl rfl rfl ?_ | refine WG.cx (E := env) rfl (isDigit_fn _) rfl ?_ | ((first | refine WG.sp' (fun h => ?_) fun h => ?_ | refine W.cond' (fun h => ?_) fun h => ?_ | refine WD.sp' (fun h => ?_) fun h => ?_) <;> (try simp only [decide_eq_true_eq, decide_eq_false_iff_not, Bool.not_eq_true', Bool.not_eq_false', Bool.and_eq_true, Bool.or_eq_true, Bool.and_eq_false_iff, Bool.or_eq_false_iff, Bool.not_eq_true, Bool.not_eq_false, Int.not_lt, Int.not_le, List.length_map, beq_self_eq_true, Bool.true_eq_false, Bool.false_eq_true] at h) <;> (try (exfalso; first | contradiction | omega))))
  · simp only [hc] at *
    exact ⟨_, _, by omega, ⟨j + 1, rfl, by omega, by rw [he]; exact runOf_step (by omega) ‹_›, rfl⟩, (by (refine le_ofL rfl ?_ ?_ <;> (repeat (first | exact trivial | refine ⟨⟨rfl, rfl⟩, ?_⟩ | refine ⟨rfl, .inl rfl, ?_⟩ | refine ⟨rfl, .inr rfl, ?_⟩))))⟩
  · (refine W.ret ?_; (first | refine RetQ.b' ?_ | refine RetQ.i' ?_ | refine RetQ.d' ?_ | refine RetQ.t2' ?_ ?_ | refine RetQ.t3' ?_ ?_ ?_))
    simp only [hc] at *
    rw [he, runOf_stop (by rintro ⟨_, h2⟩; simp_all), Nat.add_sub_cancel_left]
  · (refine W.ret ?_; (first | refine RetQ.b' ?_ | refine RetQ.i' ?_ | refine RetQ.d' ?_ | refine RetQ.t2' ?_ ?_ | refine RetQ.t3' ?_ ?_ ?_))
    rw [he, runOf_stop (by rintro ⟨h1, _⟩; omega), Nat.add_sub_cancel_left]

/-- A token with its length, or a code at a place. -/
abbrev lexD (t : Tk) (n c b : Int) : D := .agg (t.row ++ [dI n, dI c, dI b])

set_option maxHeartbeats 2000000 in
theorem lexNumber_fn (s : ByteArray) (p n : Nat) (hs : s.size ≤ 1048576) (hn : n ≤ 1000000000000000) (h : Sits s p (decS n)) :
    Fun env.P 31 [dS s, dI p] (.d (lexD ⟨1, 0, n, noS⟩ (decS n).size 0 p)) [] := by
  have hsz := decS_size n (by omega)
  have hfit := h.fits
  have hd := digitsAt_at s hs p (by omega)
  have hr := h.run (p := digitB) (by decide) 0 (by omega) fun j _ hj => decS_byte n j hj
  rw [Nat.add_zero] at hr
  rw [show runOf digitB s p - p = (decS n).size by omega] at hd
  have hN := numberOf_dec n hn
  have he := h.extract
  have hb := (h.first (by omega)).2
  have hf := @decS_first n
  have hN1 : ∀ b : Int, b = (decS n).size → Fun env.P 54 [dS (s.extract (Int.toNat (p : Int)) (Int.toNat ((p : Int) + b)))] (.tup [.d (dI n), .d (dI 0)]) [] := fun b hb => by
    subst hb
    rw [show Int.toNat ((p : Int) + ((decS n).size : Int)) = p + (decS n).size by omega, Int.toNat_natCast, he]
    exact hN
  generalize decS n = w at *
  have hf1 : byteAt s p = 48 → (1 : Int) = w.size := fun e => by
    rcases hf with hf | hf
    · exact absurd (hb.symm.trans e) hf
    · omega
  refine Fun.intro Tryz.func31 rfl (by kernel_rfl) rfl ?_
  repeat' (first | refine W.seq ?_ | refine W.rg ?_ | refine W.dra' ?_ | refine W.block ?_ | refine W.skip ?_ | refine W.exit ?_ | refine W.cond_true' ?_ | refine W.cond_false' ?_ | refine WG.nil ?_ | refine WG.run' (E := env) ?_ | refine WG.gt' ?_ | refine WG.gf' ?_ | refine WG.ixm' (E := env) ?_ | refine WG.ixo' (E := env) ?_ | refine WG.legm' (E := env) ?_ | refine WG.slS' (E := env) ?_ | refine WG.slD' (E := env) ?_ | refine WG.ap' (E := env) ?_ | refine WD.nil ?_ | refine WD.bs' (E := env) ?_ | refine WD.s' (E := env) (t := .d _) ?_ | refine WD.p' ?_ | refine WD.px' ?_ | refine WD.s' (E := env) (t := .ea _ _) ?_ | refine WD.s' (E := env) (t := .lp _ _) ?_ | refine WD.s' (E := env) (t := .og _ _) ?_ | refine WD.s' (E := env) (t := .agg _) ?_ | refine WD.s' (E := env) (t := .tup _) ?_ | refine WD.s' (E := env) (t := .clo _ _) ?_ | refine WD.ixm' (E := env) ?_ | refine WD.ixo' (E := env) ?_ | refine WD.legm' (E := env) ?_ | refine WD.slS' (E := env) ?_ | refine WD.slD' (E := env) ?_ | refine WG.c (E := env) rfl rfl (hd) rfl rfl ?_ | refine WD.c (E := env) rfl rfl (hd) rfl rfl ?_ | refine WG.co (E := env) rfl rfl (hd) rfl rfl rfl rfl ?_ | refine WG.cx (E := env) rfl (hd) rfl ?_ | refine WG.c (E := env) rfl rfl (hN1 _ rfl) rfl rfl ?_ | refine WD.c (E := env) rfl rfl (hN1 _ rfl) rfl rfl ?_ | refine WG.co (E := env) rfl rfl (hN1 _ rfl) rfl rfl rfl rfl ?_ | refine WG.cx (E := env) rfl (hN1 _ rfl) rfl ?_ | refine WG.c (E := env) rfl rfl (hN1 _ (hf1 (by simpa using ‹_›))) rfl rfl ?_ | refine WD.c (E := env) rfl rfl (hN1 _ (hf1 (by simpa using ‹_›))) rfl rfl ?_ | refine WG.co (E := env) rfl rfl (hN1 _ (hf1 (by simpa using ‹_›))) rfl rfl rfl rfl ?_ | refine WG.cx (E := env) rfl (hN1 _ (hf1 (by simpa using ‹_›))) rfl ?_ | ((first | refine WG.sp' (fun h => ?_) fun h => ?_ | refine W.cond' (fun h => ?_) fun h => ?_ | refine WD.sp' (fun h => ?_) fun h => ?_) <;> (try simp only [decide_eq_true_eq, decide_eq_false_iff_not, Bool.not_eq_true', Bool.not_eq_false', Bool.and_eq_true, Bool.or_eq_true, Bool.and_eq_false_iff, Bool.or_eq_false_iff, Bool.not_eq_true, Bool.not_eq_false, Int.not_lt, Int.not_le, List.length_map, beq_self_eq_true, Bool.true_eq_false, Bool.false_eq_true] at h) <;> (try (exfalso; first | contradiction | omega))))
  · (refine W.ret ?_; (first | refine RetQ.b' ?_ | refine RetQ.i' ?_ | refine RetQ.d' ?_ | refine RetQ.t2' ?_ ?_ | refine RetQ.t3' ?_ ?_ ?_))
    rw [← hf1 (by simpa using ‹_›)]
    rfl
  · (refine W.ret ?_; (first | refine RetQ.b' ?_ | refine RetQ.i' ?_ | refine RetQ.d' ?_ | refine RetQ.t2' ?_ ?_ | refine RetQ.t3' ?_ ?_ ?_))
    rfl

set_option maxHeartbeats 2000000 in
/-- A name behind a byte or none. -/
theorem lexNamed_fn (s w : ByteArray) (p a : Nat) (k : Int) (hs : s.size ≤ 1048576) (ha : a ≤ 1) (hw : isNameM w = true) (h : Sits s (p + a) w) :
    Fun env.P 34 [dS s, dI p, dI k, dI a] (.d (lexD ⟨k, 0, 0, w⟩ (a + w.size) 0 0)) [] := by
  obtain ⟨h1, h2, h3, h4⟩ := name_bytes hw
  have hfit := h.fits
  have hr := nameRun_fn s (p + a) hs (by omega)
  rw [nameLen_sits h hw, Int.natCast_add] at hr
  have he : s.extract (Int.toNat ((p : Int) + a)) (Int.toNat ((p : Int) + a + w.size)) = w := by
    rw [show Int.toNat ((p : Int) + a + w.size) = p + a + w.size by omega, show Int.toNat ((p : Int) + a) = p + a by omega]
    exact h.extract
  refine Fun.intro Tryz.func34 rfl (by kernel_rfl) rfl ?_
  repeat' (first | refine W.seq ?_ | refine W.rg ?_ | refine W.dra' ?_ | refine W.block ?_ | refine W.skip ?_ | refine W.exit ?_ | refine W.cond_true' ?_ | refine W.cond_false' ?_ | refine WG.nil ?_ | refine WG.run' (E := env) ?_ | refine WG.gt' ?_ | refine WG.gf' ?_ | refine WG.ixm' (E := env) ?_ | refine WG.ixo' (E := env) ?_ | refine WG.legm' (E := env) ?_ | refine WG.slS' (E := env) ?_ | refine WG.slD' (E := env) ?_ | refine WG.ap' (E := env) ?_ | refine WD.nil ?_ | refine WD.bs' (E := env) ?_ | refine WD.s' (E := env) (t := .d _) ?_ | refine WD.p' ?_ | refine WD.px' ?_ | refine WD.s' (E := env) (t := .ea _ _) ?_ | refine WD.s' (E := env) (t := .lp _ _) ?_ | refine WD.s' (E := env) (t := .og _ _) ?_ | refine WD.s' (E := env) (t := .agg _) ?_ | refine WD.s' (E := env) (t := .tup _) ?_ | refine WD.s' (E := env) (t := .clo _ _) ?_ | refine WD.ixm' (E := env) ?_ | refine WD.ixo' (E := env) ?_ | refine WD.legm' (E := env) ?_ | refine WD.slS' (E := env) ?_ | refine WD.slD' (E := env) ?_ | refine WG.c (E := env) rfl rfl (hr) rfl rfl ?_ | refine WD.c (E := env) rfl rfl (hr) rfl rfl ?_ | refine WG.co (E := env) rfl rfl (hr) rfl rfl rfl rfl ?_ | refine WG.cx (E := env) rfl (hr) rfl ?_ | ((first | refine WG.sp' (fun h => ?_) fun h => ?_ | refine W.cond' (fun h => ?_) fun h => ?_ | refine WD.sp' (fun h => ?_) fun h => ?_) <;> (try simp only [decide_eq_true_eq, decide_eq_false_iff_not, Bool.not_eq_true', Bool.not_eq_false', Bool.and_eq_true, Bool.or_eq_true, Bool.and_eq_false_iff, Bool.or_eq_false_iff, Bool.not_eq_true, Bool.not_eq_false, Int.not_lt, Int.not_le, List.length_map, beq_self_eq_true, Bool.true_eq_false, Bool.false_eq_true] at h) <;> (try (exfalso; first | contradiction | omega))))
  all_goals first | (exfalso; omega) | skip
  rw [he]
  (refine W.ret ?_; (first | refine RetQ.b' ?_ | refine RetQ.i' ?_ | refine RetQ.d' ?_ | refine RetQ.t2' ?_ ?_ | refine RetQ.t3' ?_ ?_ ?_))
  rfl

theorem hasPrefix_iff (l : List UInt8) : ∀ m : List UInt8, Lib.hasPrefix l m = true ↔ m.length ≤ l.length ∧ ∀ j, j < m.length → l.getD j (0 : UInt8) = m.getD j 0 := by
  unfold Lib.hasPrefix
  intro m
  rw [List.isPrefixOf_iff_prefix]
  constructor
  · rintro ⟨r, rfl⟩
    refine ⟨by simp, fun j hj => ?_⟩
    rw [List.getD_eq_getElem?_getD, List.getElem?_append_left hj, List.getD_eq_getElem?_getD]
  · rintro ⟨h1, h2⟩
    refine ⟨l.drop m.length, ?_⟩
    have : m = l.take m.length := by
      apply List.ext_getElem
      · rw [List.length_take]; omega
      · intro j q1 q2
        have := h2 j q1
        rw [List.getD_eq_getElem?_getD, List.getD_eq_getElem?_getD, List.getElem?_eq_getElem q1, List.getElem?_eq_getElem (by omega)] at this
        rw [List.getElem_take]
        exact this.symm
    conv => lhs; lhs; rw [this]
    exact List.take_append_drop _ _

theorem pre_isAt {s m : ByteArray} {p : Nat} (hp : p ≤ s.size) : Lib.hasPrefix (s.extract p s.size).data.toList m.data.toList = isAt s p m := by
  rw [Bool.eq_iff_iff, hasPrefix_iff]
  have h1 : (s.extract p s.size).data.toList.length = s.size - p := size_extract (Nat.le_refl _)
  have h2 : m.data.toList.length = m.size := rfl
  rw [h1, h2]
  unfold isAt
  simp only [Bool.and_eq_true, decide_eq_true_eq, List.all_eq_true, List.mem_range]
  have hb : ∀ j, j < m.size → p + m.size ≤ s.size → ((s.extract p s.size).data.toList.getD j (0 : UInt8) = m.data.toList.getD j 0 ↔ byteAt s (p + j) = byteAt m j) := fun j hj hm => by
    rw [← byteAt_extract (s := s) (a := p) (b := s.size) (by omega) (Nat.le_refl _)]
    unfold byteAt
    constructor
    · intro e; rw [e]
    · intro e; exact UInt8.toNat_inj.1 (Int.ofNat.inj e)
  constructor
  · rintro ⟨a, b⟩
    exact ⟨by omega, fun j hj => (hb j hj (by omega)).1 (b j hj)⟩
  · rintro ⟨a, b⟩
    exact ⟨by omega, fun j hj => (hb j hj a).2 (b j hj)⟩

theorem HasPrefix_fn (s m : ByteArray) : Fun env.P 36 [dS s, dS m] (.d (dB (Lib.hasPrefix s.data.toList m.data.toList))) [] := by
  refine Fun.ofRaw (entersD Tryz.func36 (c := _) rfl (by kernel_rfl)) fun w σ0 vals hσ hl hr => ?_
  match vals, hl with
  | [v0, v1], _ =>
    have h0 : v0 = .string s := by have := hr 0 _ v0 rfl rfl; cases this; rfl
    have h1 : v1 = .string m := by have := hr 1 _ v1 rfl rfl; cases this; rfl
    subst h0; subst h1
    refine (Any.strings_HasPrefix lays99 s m w).mono fun e w' ⟨he, hw⟩ => ?_
    subst he; subst hw
    exact ⟨_, rfl, .refl _ _, fun g => .d _ _ (.v _)⟩

end Go.Proofs.YthaakpbdijhgiaaGreatDoor
