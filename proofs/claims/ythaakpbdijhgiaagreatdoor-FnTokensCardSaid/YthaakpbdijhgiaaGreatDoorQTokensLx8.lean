/-
  The token at a place: marks, and all kinds. Conditions: texts of at most 2^20 bytes.
-/
import Derived.Test.YthaakpbdijhgiaaGreatDoorQTokensLx7
set_option linter.unusedVariables false
set_option linter.unusedSimpArgs false
set_option maxRecDepth 100000
namespace Go.Proofs.YthaakpbdijhgiaaGreatDoor
open Go.RowKit

theorem find_at {α : Type} [Inhabited α] {f : α → Bool} : ∀ {l : List α} {k : Nat}, k < l.length → (∀ j, j < k → f (l.getD j default) = false) → f (l.getD k default) = true → l.find? f = some (l.getD k default)
  | [], k, h, _, _ => by simp at h
  | x :: r, 0, _, _, h => by
    have h' : f x = true := h
    rw [List.find?_cons, h']
    rfl
  | x :: r, k + 1, hk, hf, h => by
    have h0 : f x = false := hf 0 (by omega)
    rw [List.find?_cons, h0]
    exact find_at (l := r) (k := k) (by simpa using hk) (fun j hj => hf (j + 1) (by omega)) h
theorem find_none {α : Type} [Inhabited α] {f : α → Bool} : ∀ {l : List α}, (∀ j, j < l.length → f (l.getD j default) = false) → l.find? f = none
  | [], _ => rfl
  | x :: r, h => by
    have h0 : f x = false := h 0 (by simp)
    rw [List.find?_cons, h0]
    exact find_none (l := r) fun j hj => h (j + 1) (by simpa using hj)

theorem HasPrefix_at (s m : ByteArray) (p : Nat) (hp : p ≤ s.size) : Fun env.P 36 [dS (s.extract (Int.toNat (p : Int)) (Int.toNat (s.size : Int))), dS m] (.d (dB (isAt s p m))) [] := by
  rw [← pre_isAt hp]
  exact HasPrefix_fn _ m

set_option maxHeartbeats 4000000 in
theorem lexAt_mark (s w : ByteArray) (p : Nat) (hs : s.size ≤ 1048576) (hw : w ∈ marksT) (h : Sits s p w) :
    Fun env.P 15 [dS s, dI p] (.d (lexD ⟨6, 0, 0, w⟩ w.size 0 0)) [] := by
  have hm := marks_fn
  have hfind := find_sits h hw
  have hfit := h.fits
  have hF := List.all_eq_true.1 marks_first _ hw
  simp only [Bool.and_eq_true, decide_eq_true_eq, Bool.not_eq_true', Bool.or_eq_true] at hF
  obtain ⟨⟨⟨⟨⟨⟨g1, g2⟩, g3⟩, g4⟩, g5⟩, g6⟩, g7⟩ := hF
  obtain ⟨hp, hb⟩ := h.first (by omega)
  rw [← hb] at g2 g4 g5 g6 g7
  have hd := isDigit_is (c := byteAt s (Int.toNat (p : Int))) (b := false) (by rw [Int.toNat_natCast]; exact g2)
  have hr := nameRun_fn s p hs (by omega)
  rw [nameLen_none (fun _ => g5)] at hr
  have hr1 : byteAt s p = 46 → Fun env.P 33 [dS s, dI ((p : Int) + 1)] (.d (dI 0)) [] := fun e => by
    have hr1 := nameRun_fn s (p + 1) hs (by omega)
    rw [nameLen_none (fun hlt => ?_), show ((p + 1 : Nat) : Int) = (p : Int) + 1 by omega] at hr1
    · exact hr1
    · by_cases h1 : w.size = 1
      · rcases h.stop with h2 | ⟨_, h2⟩
        · omega
        · rw [h1] at h2
          rw [h2]; decide
      · rw [h.at_ 1 (by omega)]
        rcases g7 with (g7 | g7) | g7
        · exact absurd e g7
        · exact absurd g7 h1
        · exact g7
  have f3' : byteAt s (Int.toNat (p : Int)) ≠ 34 := by rw [Int.toNat_natCast]; exact g4
  have f4' : byteAt s (Int.toNat (p : Int)) ≠ 36 := by rw [Int.toNat_natCast]; exact g6
  have hP := fun m => HasPrefix_at s m p (by omega)
  have hcast : (p : Int).toNat = p := Int.toNat_natCast p
  have hml : marksT.length = 25 := rfl
  refine Fun.intro Tryz.func15 rfl (by kernel_rfl) rfl ?_
  repeat' (first | refine W.seq ?_ | refine W.rg ?_ | refine W.dra' ?_ | refine W.block ?_ | refine W.skip ?_ | refine W.exit ?_ | refine W.cond_true' ?_ | refine W.cond_false' ?_ | refine WG.nil ?_ | refine WG.run' (E := env) ?_ | refine WG.gt' ?_ | refine WG.gf' ?_ | refine WG.ixm' (E := env) ?_ | refine WG.ixo' (E := env) ?_ | refine WG.legm' (E := env) ?_ | refine WG.slS' (E := env) ?_ | refine WG.slD' (E := env) ?_ | refine WG.ap' (E := env) ?_ | refine WD.nil ?_ | refine WD.bs' (E := env) ?_ | refine WD.s' (E := env) (t := .d _) ?_ | refine WD.p' ?_ | refine WD.px' ?_ | refine WD.s' (E := env) (t := .ea _ _) ?_ | refine WD.s' (E := env) (t := .lp _ _) ?_ | refine WD.s' (E := env) (t := .og _ _) ?_ | refine WD.s' (E := env) (t := .agg _) ?_ | refine WD.s' (E := env) (t := .tup _) ?_ | refine WD.s' (E := env) (t := .clo _ _) ?_ | refine WD.ixm' (E := env) ?_ | refine WD.ixo' (E := env) ?_ | refine WD.legm' (E := env) ?_ | refine WD.slS' (E := env) ?_ | refine WD.slD' (E := env) ?_ | refine WG.c (E := env) rfl rfl (hd) rfl rfl ?_ | refine WD.c (E := env) rfl rfl (hd) rfl rfl ?_ | refine WG.co (E := env) rfl rfl (hd) rfl rfl rfl rfl ?_ | refine WG.cx (E := env) rfl (hd) rfl ?_ | refine WG.c (E := env) rfl rfl (hr) rfl rfl ?_ | refine WD.c (E := env) rfl rfl (hr) rfl rfl ?_ | refine WG.co (E := env) rfl rfl (hr) rfl rfl rfl rfl ?_ | refine WG.cx (E := env) rfl (hr) rfl ?_ | refine WG.c (E := env) rfl rfl (hr1 (by rw [← hcast]; assumption)) rfl rfl ?_ | refine WD.c (E := env) rfl rfl (hr1 (by rw [← hcast]; assumption)) rfl rfl ?_ | refine WG.co (E := env) rfl rfl (hr1 (by rw [← hcast]; assumption)) rfl rfl rfl rfl ?_ | refine WG.cx (E := env) rfl (hr1 (by rw [← hcast]; assumption)) rfl ?_ | refine WG.c (E := env) rfl rfl (hm) rfl rfl ?_ | refine WD.c (E := env) rfl rfl (hm) rfl rfl ?_ | refine WG.co (E := env) rfl rfl (hm) rfl rfl rfl rfl ?_ | refine WG.cx (E := env) rfl (hm) rfl ?_ | ((first | refine WG.sp' (fun h => ?_) fun h => ?_ | refine W.cond' (fun h => ?_) fun h => ?_ | refine WD.sp' (fun h => ?_) fun h => ?_) <;> (try simp only [decide_eq_true_eq, decide_eq_false_iff_not, Bool.not_eq_true', Bool.not_eq_false', Bool.and_eq_true, Bool.or_eq_true, Bool.and_eq_false_iff, Bool.or_eq_false_iff, Bool.not_eq_true, Bool.not_eq_false, Int.not_lt, Int.not_le, List.length_map, beq_self_eq_true, Bool.true_eq_false, Bool.false_eq_true] at h) <;> (try (exfalso; first | contradiction | omega))))
  all_goals first | (exfalso; omega) | skip
  all_goals
    refine W.loop (fun m S => ∃ k : Nat, m = 25 - k ∧ (k ≤ 25 ∧ ∀ j, j < k → isAt s p (marksT.getD j default) = false) ∧ S = ⟨ofL [(0, vS s), (1, vI .i64 p), (4, .lp 0 0), (72, .d (namesD marksT)), (73, vI .i64 25), (74, vI .i64 k)], [.pv [.d (dI 0), .d (dI 0), .d (dI 0), .d (dS ByteArray.empty), .d (dI 0), .d (dI 0), .d (dI 0)]]⟩) _ _ ⟨0, rfl, ⟨by omega, fun j hj => by omega⟩, rfl⟩ (by (refine le_ofL rfl ?_ ?_ <;> (repeat (first | exact trivial | refine ⟨⟨rfl, rfl⟩, ?_⟩ | refine ⟨rfl, .inl rfl, ?_⟩ | refine ⟨rfl, .inr rfl, ?_⟩)))) ?_
    rintro m S ⟨k, rfl, ⟨hk, hno⟩, rfl⟩
    by_cases hlt : k < 25
    · have hP := hP (marksT.getD k default)
      cases hat : isAt s p (marksT.getD k default) with
      | true =>
        rw [hat] at hP
        have hw2 := find_at (f := fun m => isAt s p m) (l := marksT) (by omega) hno hat
        rw [hfind] at hw2
        have hw3 := Option.some.inj hw2
        repeat' (first | refine W.seq ?_ | refine W.rg ?_ | refine W.dra' ?_ | refine W.block ?_ | refine W.skip ?_ | refine W.exit ?_ | refine W.cond_true' ?_ | refine W.cond_false' ?_ | refine WG.nil ?_ | refine WG.run' (E := env) ?_ | refine WG.gt' ?_ | refine WG.gf' ?_ | refine WG.ixm' (E := env) ?_ | refine WG.ixo' (E := env) ?_ | refine WG.legm' (E := env) ?_ | refine WG.slS' (E := env) ?_ | refine WG.slD' (E := env) ?_ | refine WG.ap' (E := env) ?_ | refine WD.nil ?_ | refine WD.bs' (E := env) ?_ | refine WD.s' (E := env) (t := .d _) ?_ | refine WD.p' ?_ | refine WD.px' ?_ | refine WD.s' (E := env) (t := .ea _ _) ?_ | refine WD.s' (E := env) (t := .lp _ _) ?_ | refine WD.s' (E := env) (t := .og _ _) ?_ | refine WD.s' (E := env) (t := .agg _) ?_ | refine WD.s' (E := env) (t := .tup _) ?_ | refine WD.s' (E := env) (t := .clo _ _) ?_ | refine WD.ixm' (E := env) ?_ | refine WD.ixo' (E := env) ?_ | refine WD.legm' (E := env) ?_ | refine WD.slS' (E := env) ?_ | refine WD.slD' (E := env) ?_ | refine WG.ixm (E := env) (f := fun x => [dS x]) (f' := fun x => [dS x]) (xs := marksT) rfl rfl rfl rfl rfl rfl rfl (fun _ => rfl) ⟨by omega, by omega⟩ ?_ | refine WG.c (E := env) rfl rfl (hP) rfl rfl ?_ | refine WD.c (E := env) rfl rfl (hP) rfl rfl ?_ | refine WG.co (E := env) rfl rfl (hP) rfl rfl rfl rfl ?_ | refine WG.cx (E := env) rfl (hP) rfl ?_ | ((first | refine WG.sp' (fun h => ?_) fun h => ?_ | refine W.cond' (fun h => ?_) fun h => ?_ | refine WD.sp' (fun h => ?_) fun h => ?_) <;> (try simp only [decide_eq_true_eq, decide_eq_false_iff_not, Bool.not_eq_true', Bool.not_eq_false', Bool.and_eq_true, Bool.or_eq_true, Bool.and_eq_false_iff, Bool.or_eq_false_iff, Bool.not_eq_true, Bool.not_eq_false, Int.not_lt, Int.not_le, List.length_map, beq_self_eq_true, Bool.true_eq_false, Bool.false_eq_true] at h) <;> (try (exfalso; first | contradiction | omega))))
        all_goals first | (exfalso; omega) | skip
        (refine W.ret ?_; (first | refine RetQ.b' ?_ | refine RetQ.i' ?_ | refine RetQ.d' ?_ | refine RetQ.t2' ?_ ?_ | refine RetQ.t3' ?_ ?_ ?_))
        rw [hw3]
        rfl
      | false =>
        rw [hat] at hP
        repeat' (first | refine W.seq ?_ | refine W.rg ?_ | refine W.dra' ?_ | refine W.block ?_ | refine W.skip ?_ | refine W.exit ?_ | refine W.cond_true' ?_ | refine W.cond_false' ?_ | refine WG.nil ?_ | refine WG.run' (E := env) ?_ | refine WG.gt' ?_ | refine WG.gf' ?_ | refine WG.ixm' (E := env) ?_ | refine WG.ixo' (E := env) ?_ | refine WG.legm' (E := env) ?_ | refine WG.slS' (E := env) ?_ | refine WG.slD' (E := env) ?_ | refine WG.ap' (E := env) ?_ | refine WD.nil ?_ | refine WD.bs' (E := env) ?_ | refine WD.s' (E := env) (t := .d _) ?_ | refine WD.p' ?_ | refine WD.px' ?_ | refine WD.s' (E := env) (t := .ea _ _) ?_ | refine WD.s' (E := env) (t := .lp _ _) ?_ | refine WD.s' (E := env) (t := .og _ _) ?_ | refine WD.s' (E := env) (t := .agg _) ?_ | refine WD.s' (E := env) (t := .tup _) ?_ | refine WD.s' (E := env) (t := .clo _ _) ?_ | refine WD.ixm' (E := env) ?_ | refine WD.ixo' (E := env) ?_ | refine WD.legm' (E := env) ?_ | refine WD.slS' (E := env) ?_ | refine WD.slD' (E := env) ?_ | refine WG.ixm (E := env) (f := fun x => [dS x]) (f' := fun x => [dS x]) (xs := marksT) rfl rfl rfl rfl rfl rfl rfl (fun _ => rfl) ⟨by omega, by omega⟩ ?_ | refine WG.c (E := env) rfl rfl (hP) rfl rfl ?_ | refine WD.c (E := env) rfl rfl (hP) rfl rfl ?_ | refine WG.co (E := env) rfl rfl (hP) rfl rfl rfl rfl ?_ | refine WG.cx (E := env) rfl (hP) rfl ?_ | ((first | refine WG.sp' (fun h => ?_) fun h => ?_ | refine W.cond' (fun h => ?_) fun h => ?_ | refine WD.sp' (fun h => ?_) fun h => ?_) <;> (try simp only [decide_eq_true_eq, decide_eq_false_iff_not, Bool.not_eq_true', Bool.not_eq_false', Bool.and_eq_true, Bool.or_eq_true, Bool.and_eq_false_iff, Bool.or_eq_false_iff, Bool.not_eq_true, Bool.not_eq_false, Int.not_lt, Int.not_le, List.length_map, beq_self_eq_true, Bool.true_eq_false, Bool.false_eq_true] at h) <;> (try (exfalso; first | contradiction | omega))))
        all_goals first | (exfalso; omega) | skip
        exact ⟨_, _, by omega, ⟨k + 1, rfl, ⟨by omega, fun j hj => by
          by_cases e : j = k
          · rw [e]; exact hat
          · exact hno j (by omega)⟩, rfl⟩, (by (refine le_ofL rfl ?_ ?_ <;> (repeat (first | exact trivial | refine ⟨⟨rfl, rfl⟩, ?_⟩ | refine ⟨rfl, .inl rfl, ?_⟩ | refine ⟨rfl, .inr rfl, ?_⟩))))⟩
    · exfalso
      rw [find_none (l := marksT) fun j hj => hno j (by omega)] at hfind
      cases hfind

theorem lexAt_fn (s : ByteArray) (p : Nat) (t : Tk) (hs : s.size ≤ 1048576) (ht : tokC t = 0) (h : Sits s p (tokS t)) : Fun env.P 15 [dS s, dI p] (.d (lexR t p)) [] := by
  unfold lexR
  rcases tokS_cases ht with ⟨k, e1, n0, n1, e⟩ | ⟨k, e1, hq, e⟩ | ⟨k, e1, hn, e⟩ | ⟨k, e1, hn, e⟩ | ⟨k, e1, hn, e⟩ | ⟨k, e1, hm, e⟩ <;> rw [e] at h ⊢ <;> rw [k, e1]
  · have := lexAt_num s p t.num.toNat hs (by omega) h
    rw [if_pos rfl]
    rwa [Int.toNat_of_nonneg n0] at this
  · exact lexAt_str s t.text p hs hq h
  · exact lexAt_name s t.text p hs hn h
  · rw [ByteArray.size_append]
    exact lexAt_field s t.text p hs hn h
  · rw [ByteArray.size_append]
    exact lexAt_var s t.text p hs hn h
  · exact lexAt_mark s t.text p hs hm h

end Go.Proofs.YthaakpbdijhgiaaGreatDoor
