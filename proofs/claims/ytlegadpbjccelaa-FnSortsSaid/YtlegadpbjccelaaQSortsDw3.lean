/-
  What the reference draws out of bytes: arrays and objects. Conditions: at most 2^21 bytes, at most 10^11 draws.
-/
import Derived.Test.YtlegadpbjccelaaQSortsDw2
set_option linter.unusedVariables false
set_option linter.unusedSimpArgs false
set_option maxRecDepth 100000
namespace Go.Proofs.Ytlegadpbjccelaa
open Go.RowKit

theorem insK_memD (key : ByteArray) (ks : List ByteArray) : ∀ y ∈ insK key ks, y = key ∨ y ∈ ks := by
  intro y hy
  unfold insK at hy
  split at hy
  · exact .inr hy
  · rcases List.mem_append.1 hy with h | h
    · exact .inr (List.mem_of_mem_take h)
    · rcases List.mem_cons.1 h with h | h
      · exact .inl h
      · exact .inr (List.mem_of_mem_drop h)
theorem objK_memD (keys : List ByteArray) : ∀ i, i ≤ keys.length → ∀ k ∈ objK keys i, k ∈ keys
  | 0, _, k, h => by simp [objK] at h
  | i + 1, hi, k, h => by
    rcases insK_memD _ _ k h with h | h
    · rw [h]; exact getD_mem' (by omega)
    · exact objK_memD keys i (by omega) k h
theorem objX_memD {α : Type} [Inhabited α] (keys : List ByteArray) (vals : List α) : ∀ i, i ≤ vals.length → ∀ x ∈ objX keys vals i, x ∈ vals
  | 0, _, x, h => by simp [objX] at h
  | i + 1, hi, x, h => by
    rcases insX_mem _ _ _ _ x h with h | h
    · rw [h]; exact getD_mem' (by omega)
    · exact objX_memD keys vals i (by omega) x h
theorem objK_length (keys : List ByteArray) : ∀ i, (objK keys i).length ≤ i
  | 0 => by simp [objK]
  | i + 1 => by
    have := insK_length (keys.getD i default) (objK keys i)
    have := objK_length keys i
    simp only [objK]
    omega
theorem objX_lengthD {α : Type} [Inhabited α] (keys : List ByteArray) (vals : List α) : ∀ i, (objX keys vals i).length = (objK keys i).length
  | 0 => by simp [objX, objK]
  | i + 1 => insX_length _ _ _ _ (objX_lengthD keys vals i)
theorem keyed_small {k : ByteArray} (hk : k.size ≤ 100) {x : List Cell} (hx : ∀ c ∈ x, c.small) : ∀ c ∈ keyed k x, c.small := by
  intro c hc
  cases x with
  | nil => simp [keyed] at hc
  | cons a r =>
    rcases List.mem_cons.1 hc with rfl | h
    · have := hx a (List.mem_cons_self ..)
      exact ⟨this.1, hk, this.2.2⟩
    · exact hx c (List.mem_cons_of_mem _ h)
theorem pcs_small {ks : List ByteArray} {xs : List (List Cell)} (hk : ∀ k ∈ ks, k.size ≤ 100) (hx : ∀ x ∈ xs, ∀ c ∈ x, c.small) : ∀ i, i ≤ ks.length → i ≤ xs.length → ∀ c ∈ pcs ks xs i, c.small
  | 0, _, _, c, h => by simp [pcs] at h
  | i + 1, h1, h2, c, h => by
    rcases List.mem_append.1 h with h | h
    · exact pcs_small hk hx i (by omega) (by omega) c h
    · exact keyed_small (hk _ (getD_mem' (by omega))) (hx _ (getD_mem' (by omega))) c h

set_option maxHeartbeats 8000000 in
theorem l1Arr_fn (bs : List Int) (hb : okB bs) (k d B : Int) (hB : B ≤ 90000000000) (hk : 0 ≤ k ∧ k ≤ B) (hd : 2 ≤ d ∧ d ≤ 3) (M C : Nat) (hM : 1 ≤ M ∧ M ≤ 1000) (hC : C ≤ 1000)
    (ih : ∀ kk, 0 ≤ kk ∧ kk ≤ B + 1000000 → FunQ env.P 162 [.lp 0 0, .d (dI (d - 1))] [srcO bs kk] (drawR bs kk (kk + C) M)) (h78 : nextM bs k 10 = 7 ∨ nextM bs k 10 = 8) :
    FunQ env.P 162 [.lp 0 0, .d (dI d)] [srcO bs k] (drawR bs k (k + 8 + 3 * (C + 1)) (3 * M + 1)) := by
  have h0 := l1Next_fn bs k 10 hb ⟨by omega, by omega⟩
  have h4 := l1Next_fn bs (k + 1) 4 hb ⟨by omega, by omega⟩
  have r4 := nextM_in (n := 4) (k := k + 1) hb (by omega) (by omega)
  generalize nextM bs k 10 = q0 at h0 h78
  generalize nextM bs (k + 1) 4 = q4 at h4 r4
  obtain ⟨n4, rfl⟩ : ∃ n : Nat, q4 = n := ⟨q4.toNat, by omega⟩
  rcases h78 with rfl | rfl
  all_goals
    refine FunQ.intro Try.func162 rfl (by kernel_rfl) rfl ?_
    repeat' (first | refine W.seq ?_ | refine W.rg ?_ | refine W.dra' ?_ | refine W.block ?_ | refine W.skip ?_ | refine W.exit ?_ | refine W.cond_true' ?_ | refine W.cond_false' ?_ | refine WG.nil ?_ | refine WG.run' (E := env) ?_ | refine WG.gt' ?_ | refine WG.gf' ?_ | refine WG.ixm' (E := env) ?_ | refine WG.ixo' (E := env) ?_ | refine WG.legm' (E := env) ?_ | refine WG.slS' (E := env) ?_ | refine WG.slD' (E := env) ?_ | refine WG.ap' (E := env) ?_ | refine WD.nil ?_ | refine WD.bs' (E := env) ?_ | refine WD.s' (E := env) (t := .d _) ?_ | refine WD.p' ?_ | refine WD.px' ?_ | refine WD.s' (E := env) (t := .ea _ _) ?_ | refine WD.s' (E := env) (t := .lp _ _) ?_ | refine WD.s' (E := env) (t := .og _ _) ?_ | refine WD.s' (E := env) (t := .agg _) ?_ | refine WD.s' (E := env) (t := .tup _) ?_ | refine WD.s' (E := env) (t := .clo _ _) ?_ | refine WD.ixm' (E := env) ?_ | refine WD.ixo' (E := env) ?_ | refine WD.legm' (E := env) ?_ | refine WD.slS' (E := env) ?_ | refine WD.slD' (E := env) ?_ | refine WG.cq (E := env) (t' := .d (dI _)) (ob2 := [srcO bs (k + 1)]) [0] [0] false rfl rfl h0 rfl rfl rfl rfl rfl rfl rfl ⟨rfl, trivial⟩ (.inl rfl) rfl (fun h => nomatch h) rfl rfl ?_ | refine WG.cq (E := env) (t' := .d (dI n4)) (ob2 := [srcO bs (k + 1 + 1), .gr 1 24 ([]) 0 false]) [0] [0] false rfl rfl h4 rfl rfl rfl rfl rfl rfl rfl ⟨rfl, trivial⟩ (.inl rfl) rfl (fun h => nomatch h) rfl rfl ?_ | fail | ((first | refine WG.sp' (fun h => ?_) fun h => ?_ | refine W.cond' (fun h => ?_) fun h => ?_ | refine WD.sp' (fun h => ?_) fun h => ?_) <;> (try simp only [decide_eq_true_eq, decide_eq_false_iff_not, Bool.not_eq_true', Bool.not_eq_false', Bool.and_eq_true, Bool.or_eq_true, Bool.and_eq_false_iff, Bool.or_eq_false_iff, Bool.not_eq_true, Bool.not_eq_false, Int.not_lt, Int.not_le, List.length_map, beq_self_eq_true, Bool.true_eq_false, Bool.false_eq_true] at h) <;> (try (exfalso; first | contradiction | omega))))
    all_goals first | (exfalso; omega) | skip
    refine W.loopI (fun m S => ∃ (n : Nat) (q : Int) (xs : List (List Cell)) (kk : Int) (rx : List (List D)), m = 2 * n ∧ (q = n ∧ n + xs.length ≤ 3 ∧ rx = xs.map cellsR ∧ rx.length = xs.length ∧ (∀ x ∈ xs, smallC M x) ∧ k ≤ kk ∧ kk + ((n * (C + 1) : Nat) : Int) ≤ k + 2 + 3 * (C + 1)) ∧ S = ⟨ofL [(0, .lp 0 0), (1, vI .i64 d), (6, .og 1 0), (7, vI .i64 q)], [srcO bs kk, .gr 1 24 (rx) 0 false]⟩) _ _ ⟨n4, n4, [], k + 1 + 1, [], rfl, ⟨rfl, by simp; omega, rfl, rfl, fun x hx => (by cases hx), by omega, by have := Nat.mul_le_mul_right (C + 1) (show n4 ≤ 3 by omega); omega⟩, rfl⟩ (St.imp.of_le (by (refine le_ofL rfl ?_ ?_ <;> (repeat (first | exact trivial | refine ⟨⟨rfl, rfl⟩, ?_⟩ | refine ⟨rfl, .inl rfl, ?_⟩ | refine ⟨rfl, .inr rfl, ?_⟩))))) ?_
    rintro m S ⟨n, q, xs, kk, rx, rfl, ⟨hq, hn, hrx, hrl, hsm, hk1, hk2⟩, rfl⟩
    rcases n with _ | n
    · have hfl := flatten_le (M := M) (xs := xs) fun x hx => (hsm x hx).2.1
      have hfm := Nat.mul_le_mul_right M (show xs.length ≤ 3 by omega)
      have hA := l1ArrayS_fn xs (by omega) (fun i => by
        have := flatten_le (M := M) (xs := xs.take i) fun x hx => (hsm x (List.mem_of_mem_take hx)).2.1
        have h2 := Nat.mul_le_mul_right M (show (xs.take i).length ≤ 3 by rw [List.length_take]; omega)
        omega) (fun i => by
        by_cases hi : i < xs.length
        · have := (hsm _ (getD_mem' hi)).2.1
          omega
        · rw [List.getD_eq_getElem?_getD, List.getElem?_eq_none (by omega)]; exact Nat.zero_le _)
      subst hrx
      repeat' (first | refine W.pubD 1 rfl ?_ | refine W.seq ?_ | refine W.rg ?_ | refine W.dra' ?_ | refine W.block ?_ | refine W.skip ?_ | refine W.exit ?_ | refine W.cond_true' ?_ | refine W.cond_false' ?_ | refine WG.nil ?_ | refine WG.run' (E := env) ?_ | refine WG.gt' ?_ | refine WG.gf' ?_ | refine WG.ixm' (E := env) ?_ | refine WG.ixo' (E := env) ?_ | refine WG.legm' (E := env) ?_ | refine WG.slS' (E := env) ?_ | refine WG.slD' (E := env) ?_ | refine WG.ap' (E := env) ?_ | refine WD.nil ?_ | refine WD.bs' (E := env) ?_ | refine WD.s' (E := env) (t := .d _) ?_ | refine WD.p' ?_ | refine WD.px' ?_ | refine WD.s' (E := env) (t := .ea _ _) ?_ | refine WD.s' (E := env) (t := .lp _ _) ?_ | refine WD.s' (E := env) (t := .og _ _) ?_ | refine WD.s' (E := env) (t := .agg _) ?_ | refine WD.s' (E := env) (t := .tup _) ?_ | refine WD.s' (E := env) (t := .clo _ _) ?_ | refine WD.ixm' (E := env) ?_ | refine WD.ixo' (E := env) ?_ | refine WD.legm' (E := env) ?_ | refine WD.slS' (E := env) ?_ | refine WD.slD' (E := env) ?_ | refine WG.coG' (E := env) rfl rfl (hA) rfl ?_ | refine WG.coA' (E := env) rfl rfl (hA) rfl ?_ | refine WG.coA3' (E := env) rfl rfl (hA) rfl ?_ | ((first | refine WG.sp' (fun h => ?_) fun h => ?_ | refine W.cond' (fun h => ?_) fun h => ?_ | refine WD.sp' (fun h => ?_) fun h => ?_) <;> (try simp only [decide_eq_true_eq, decide_eq_false_iff_not, Bool.not_eq_true', Bool.not_eq_false', Bool.and_eq_true, Bool.or_eq_true, Bool.and_eq_false_iff, Bool.or_eq_false_iff, Bool.not_eq_true, Bool.not_eq_false, Int.not_lt, Int.not_le, List.length_map, beq_self_eq_true, Bool.true_eq_false, Bool.false_eq_true] at h) <;> (try (exfalso; first | contradiction | omega))))
      all_goals first | (exfalso; simp at *; omega) | skip
      refine W.ret ?_
      exact RetR.own (ob' := [srcO bs kk, .gr 5 91 ((⟨5, 0, noS, noS, (xs.length : Int)⟩ :: xs.flatten : List Cell).map Cell.row) 0 false]) ⟨[0, 2], [0, 0], 3⟩ (.inl rfl) rfl (by first | trivial | exact resOK_of (E := env) rfl) rfl rfl rfl rfl rfl rfl ⟨rfl, rfl, trivial⟩ rfl ⟨kk, _, rfl, rfl, by omega, by omega, by simp, by simp only [List.length_cons]; omega, fun c hc => by
        rcases List.mem_cons.1 hc with rfl | h
        · exact ⟨by show noS.size ≤ 100; decide, by show noS.size ≤ 100; decide, by dsimp only; omega, by dsimp only; omega⟩
        · obtain ⟨x, hx, hcx⟩ := List.mem_flatten.1 h
          exact (hsm x hx).2.2 c hcx⟩
    · have hsuc : (n + 1) * (C + 1) = n * (C + 1) + (C + 1) := Nat.succ_mul n (C + 1)
      have ih' := ih kk ⟨by omega, by omega⟩
      repeat' (first | refine W.seq ?_ | refine W.rg ?_ | refine W.dra' ?_ | refine W.block ?_ | refine W.skip ?_ | refine W.exit ?_ | refine W.cond_true' ?_ | refine W.cond_false' ?_ | refine WG.nil ?_ | refine WG.run' (E := env) ?_ | refine WG.gt' ?_ | refine WG.gf' ?_ | refine WG.ixm' (E := env) ?_ | refine WG.ixo' (E := env) ?_ | refine WG.legm' (E := env) ?_ | refine WG.slS' (E := env) ?_ | refine WG.slD' (E := env) ?_ | refine WG.ap' (E := env) ?_ | refine WD.nil ?_ | refine WD.bs' (E := env) ?_ | refine WD.s' (E := env) (t := .d _) ?_ | refine WD.p' ?_ | refine WD.px' ?_ | refine WD.s' (E := env) (t := .ea _ _) ?_ | refine WD.s' (E := env) (t := .lp _ _) ?_ | refine WD.s' (E := env) (t := .og _ _) ?_ | refine WD.s' (E := env) (t := .agg _) ?_ | refine WD.s' (E := env) (t := .tup _) ?_ | refine WD.s' (E := env) (t := .clo _ _) ?_ | refine WD.ixm' (E := env) ?_ | refine WD.ixo' (E := env) ?_ | refine WD.legm' (E := env) ?_ | refine WD.slS' (E := env) ?_ | refine WD.slD' (E := env) ?_ | (refine WG.cQ (E := env) [0] [0] false rfl rfl (ih') rfl rfl rfl rfl rfl rfl rfl ⟨rfl, trivial⟩ (.inl rfl) (fun t ob ⟨k', cs', e1, e2, _⟩ => ⟨by subst e2; rfl, fun h => nomatch h⟩) ?_; rintro _ _ ⟨kk2, cs, rfl, rfl, hk3, hk4, hs2⟩; refine (show WG _ _ _ _ _ _ ⟨upd _ _ (.og 2 0), [srcO bs kk2, .gr 1 24 (rx) 0 false, .gr 5 91 (cs.map Cell.row) 0 false]⟩ from ?_)) | refine WG.pubD 2 rfl ?_ | fail | ((first | refine WG.sp' (fun h => ?_) fun h => ?_ | refine W.cond' (fun h => ?_) fun h => ?_ | refine WD.sp' (fun h => ?_) fun h => ?_) <;> (try simp only [decide_eq_true_eq, decide_eq_false_iff_not, Bool.not_eq_true', Bool.not_eq_false', Bool.and_eq_true, Bool.or_eq_true, Bool.and_eq_false_iff, Bool.or_eq_false_iff, Bool.not_eq_true, Bool.not_eq_false, Int.not_lt, Int.not_le, List.length_map, beq_self_eq_true, Bool.true_eq_false, Bool.false_eq_true] at h) <;> (try (exfalso; first | contradiction | omega))))
      all_goals first | (exfalso; simp at *; omega) | skip
      exact ⟨_, _, by omega, ⟨n, q - 1, xs ++ [cs], kk2, rx ++ [cellsR cs], rfl, ⟨by omega, by rw [List.length_append, List.length_singleton]; omega, by rw [hrx, List.map_append]; rfl, by rw [List.length_append, List.length_append, hrl]; rfl, fun x hx => by
        rcases List.mem_append.1 hx with h | h
        · exact hsm x h
        · rw [List.mem_singleton.1 h]; exact hs2, by omega, by omega⟩, rfl⟩, (St.imp.rev 1 1 rfl).trans (St.imp.of_le (by (refine le_ofL rfl ?_ ?_ <;> (repeat (first | exact trivial | refine ⟨⟨rfl, rfl⟩, ?_⟩ | refine ⟨rfl, .inl rfl, ?_⟩ | refine ⟨rfl, .inr rfl, ?_⟩)))))⟩

set_option maxHeartbeats 8000000 in
theorem l1Obj_fn (bs : List Int) (hb : okB bs) (k d B : Int) (hB : B ≤ 90000000000) (hk : 0 ≤ k ∧ k ≤ B) (hd : 2 ≤ d ∧ d ≤ 3) (M C : Nat) (hM : 1 ≤ M ∧ M ≤ 1000) (hC : C ≤ 1000)
    (ih : ∀ kk, 0 ≤ kk ∧ kk ≤ B + 1000000 → FunQ env.P 162 [.lp 0 0, .d (dI (d - 1))] [srcO bs kk] (drawR bs kk (kk + C) M)) (h9 : nextM bs k 10 = 9) :
    FunQ env.P 162 [.lp 0 0, .d (dI d)] [srcO bs k] (drawR bs k (k + 8 + 3 * (C + 1)) (3 * M + 1)) := by
  have h0 := l1Next_fn bs k 10 hb ⟨by omega, by omega⟩
  have h4 := l1Next_fn bs (k + 1) 4 hb ⟨by omega, by omega⟩
  have r4 := nextM_in (n := 4) (k := k + 1) hb (by omega) (by omega)
  rw [h9] at h0
  clear h9
  generalize nextM bs (k + 1) 4 = q4 at h4 r4
  obtain ⟨n4, rfl⟩ : ∃ n : Nat, q4 = n := ⟨q4.toNat, by omega⟩
  refine FunQ.intro Try.func162 rfl (by kernel_rfl) rfl ?_
  repeat' (first | refine W.seq ?_ | refine W.rg ?_ | refine W.dra' ?_ | refine W.block ?_ | refine W.skip ?_ | refine W.exit ?_ | refine W.cond_true' ?_ | refine W.cond_false' ?_ | refine WG.nil ?_ | refine WG.run' (E := env) ?_ | refine WG.gt' ?_ | refine WG.gf' ?_ | refine WG.ixm' (E := env) ?_ | refine WG.ixo' (E := env) ?_ | refine WG.legm' (E := env) ?_ | refine WG.slS' (E := env) ?_ | refine WG.slD' (E := env) ?_ | refine WG.ap' (E := env) ?_ | refine WD.nil ?_ | refine WD.bs' (E := env) ?_ | refine WD.s' (E := env) (t := .d _) ?_ | refine WD.p' ?_ | refine WD.px' ?_ | refine WD.s' (E := env) (t := .ea _ _) ?_ | refine WD.s' (E := env) (t := .lp _ _) ?_ | refine WD.s' (E := env) (t := .og _ _) ?_ | refine WD.s' (E := env) (t := .agg _) ?_ | refine WD.s' (E := env) (t := .tup _) ?_ | refine WD.s' (E := env) (t := .clo _ _) ?_ | refine WD.ixm' (E := env) ?_ | refine WD.ixo' (E := env) ?_ | refine WD.legm' (E := env) ?_ | refine WD.slS' (E := env) ?_ | refine WD.slD' (E := env) ?_ | refine WG.cq (E := env) (t' := .d (dI _)) (ob2 := [srcO bs (k + 1)]) [0] [0] false rfl rfl h0 rfl rfl rfl rfl rfl rfl rfl ⟨rfl, trivial⟩ (.inl rfl) rfl (fun h => nomatch h) rfl rfl ?_ | refine WG.cq (E := env) (t' := .d (dI n4)) (ob2 := [srcO bs (k + 1 + 1), .gr 1 9 ([]) 0 false, .gr 1 24 ([]) 0 false]) [0] [0] false rfl rfl h4 rfl rfl rfl rfl rfl rfl rfl ⟨rfl, trivial⟩ (.inl rfl) rfl (fun h => nomatch h) rfl rfl ?_ | fail | ((first | refine WG.sp' (fun h => ?_) fun h => ?_ | refine W.cond' (fun h => ?_) fun h => ?_ | refine WD.sp' (fun h => ?_) fun h => ?_) <;> (try simp only [decide_eq_true_eq, decide_eq_false_iff_not, Bool.not_eq_true', Bool.not_eq_false', Bool.and_eq_true, Bool.or_eq_true, Bool.and_eq_false_iff, Bool.or_eq_false_iff, Bool.not_eq_true, Bool.not_eq_false, Int.not_lt, Int.not_le, List.length_map, beq_self_eq_true, Bool.true_eq_false, Bool.false_eq_true] at h) <;> (try (exfalso; first | contradiction | omega))))
  all_goals first | (exfalso; omega) | skip
  refine W.loopI (fun m S => ∃ (n : Nat) (q : Int) (ks : List ByteArray) (xs : List (List Cell)) (kk : Int) (rk rx : List (List D)), m = 2 * n ∧ (q = n ∧ n + xs.length ≤ 3 ∧ rx = xs.map cellsR ∧ rx.length = xs.length ∧ rk = ks.map keyRow ∧ rk.length = xs.length ∧ ks.length = xs.length ∧ (∀ x ∈ ks, x.size ≤ 100) ∧ (∀ x ∈ xs, smallC M x) ∧ k ≤ kk ∧ kk + ((n * (C + 1) : Nat) : Int) ≤ k + 2 + 3 * (C + 1)) ∧ S = ⟨ofL [(0, .lp 0 0), (1, vI .i64 d), (8, .og 1 0), (9, .og 2 0), (10, vI .i64 q)], [srcO bs kk, .gr 1 9 (rk) 0 false, .gr 1 24 (rx) 0 false]⟩) _ _ ⟨n4, n4, [], [], k + 1 + 1, [], [], rfl, ⟨rfl, by simp; omega, rfl, rfl, rfl, rfl, rfl, fun x hx => (by cases hx), fun x hx => (by cases hx), by omega, by have := Nat.mul_le_mul_right (C + 1) (show n4 ≤ 3 by omega); omega⟩, rfl⟩ (St.imp.of_le (by (refine le_ofL rfl ?_ ?_ <;> (repeat (first | exact trivial | refine ⟨⟨rfl, rfl⟩, ?_⟩ | refine ⟨rfl, .inl rfl, ?_⟩ | refine ⟨rfl, .inr rfl, ?_⟩))))) ?_
  rintro m S ⟨n, q, ks, xs, kk, rk, rx, rfl, ⟨hq, hn, hrx, hrl, hrk, hrkl, hkl, hks, hsm, hk1, hk2⟩, rfl⟩
  rcases n with _ | n
  · have hO := l1ObjectS_fn ks xs M hkl (by omega) (by have := Nat.mul_le_mul_right M (show ks.length ≤ 3 by omega); omega) (by omega) fun x hx => ⟨(hsm x hx).1, (hsm x hx).2.1⟩
    have ol := objK_length ks ks.length
    have oxl := objX_lengthD ks xs ks.length
    have oxm := objX_memD ks xs ks.length (by omega)
    have okm := objK_memD ks ks.length (Nat.le_refl _)
    have hpl := pcs_length (objK ks ks.length) (xs := objX ks xs ks.length) (M := M) (fun x hx => (hsm x (oxm x hx)).2.1) (objK ks ks.length).length (by omega)
    have hpm := Nat.mul_le_mul_right M (show (objK ks ks.length).length ≤ 3 by omega)
    have hps := pcs_small (ks := objK ks ks.length) (xs := objX ks xs ks.length) (fun y hy => hks y (okm y hy)) (fun x hx => (hsm x (oxm x hx)).2.2) (objK ks ks.length).length (Nat.le_refl _) (by omega)
    subst hrx
    subst hrk
    repeat' (first | refine W.pubD 1 rfl ?_ | refine W.pubD 2 rfl ?_ | refine W.seq ?_ | refine W.rg ?_ | refine W.dra' ?_ | refine W.block ?_ | refine W.skip ?_ | refine W.exit ?_ | refine W.cond_true' ?_ | refine W.cond_false' ?_ | refine WG.nil ?_ | refine WG.run' (E := env) ?_ | refine WG.gt' ?_ | refine WG.gf' ?_ | refine WG.ixm' (E := env) ?_ | refine WG.ixo' (E := env) ?_ | refine WG.legm' (E := env) ?_ | refine WG.slS' (E := env) ?_ | refine WG.slD' (E := env) ?_ | refine WG.ap' (E := env) ?_ | refine WD.nil ?_ | refine WD.bs' (E := env) ?_ | refine WD.s' (E := env) (t := .d _) ?_ | refine WD.p' ?_ | refine WD.px' ?_ | refine WD.s' (E := env) (t := .ea _ _) ?_ | refine WD.s' (E := env) (t := .lp _ _) ?_ | refine WD.s' (E := env) (t := .og _ _) ?_ | refine WD.s' (E := env) (t := .agg _) ?_ | refine WD.s' (E := env) (t := .tup _) ?_ | refine WD.s' (E := env) (t := .clo _ _) ?_ | refine WD.ixm' (E := env) ?_ | refine WD.ixo' (E := env) ?_ | refine WD.legm' (E := env) ?_ | refine WD.slS' (E := env) ?_ | refine WD.slD' (E := env) ?_ | refine WG.coG' (E := env) rfl rfl (hO) rfl ?_ | refine WG.coA' (E := env) rfl rfl (hO) rfl ?_ | refine WG.coA3' (E := env) rfl rfl (hO) rfl ?_ | ((first | refine WG.sp' (fun h => ?_) fun h => ?_ | refine W.cond' (fun h => ?_) fun h => ?_ | refine WD.sp' (fun h => ?_) fun h => ?_) <;> (try simp only [decide_eq_true_eq, decide_eq_false_iff_not, Bool.not_eq_true', Bool.not_eq_false', Bool.and_eq_true, Bool.or_eq_true, Bool.and_eq_false_iff, Bool.or_eq_false_iff, Bool.not_eq_true, Bool.not_eq_false, Int.not_lt, Int.not_le, List.length_map, beq_self_eq_true, Bool.true_eq_false, Bool.false_eq_true] at h) <;> (try (exfalso; first | contradiction | omega))))
    all_goals first | (exfalso; simp at *; omega) | skip
    refine W.ret ?_
    exact RetR.own (ob' := [srcO bs kk, .gr 5 91 ((⟨6, 0, noS, noS, ((objK ks ks.length).length : Int)⟩ :: pcs (objK ks ks.length) (objX ks xs ks.length) (objK ks ks.length).length : List Cell).map Cell.row) 0 false]) ⟨[0, 3], [0, 0], 4⟩ (.inl rfl) rfl (by first | trivial | exact resOK_of (E := env) rfl) rfl rfl rfl rfl rfl rfl ⟨rfl, rfl, trivial⟩ rfl ⟨kk, _, rfl, rfl, by omega, by omega, by simp, by simp only [List.length_cons]; omega, fun c hc => by
      rcases List.mem_cons.1 hc with rfl | h
      · exact ⟨by show noS.size ≤ 100; decide, by show noS.size ≤ 100; decide, by dsimp only; omega, by dsimp only; omega⟩
      · exact hps c h⟩
  · have hsuc : (n + 1) * (C + 1) = n * (C + 1) + (C + 1) := Nat.succ_mul n (C + 1)
    have hkey := l1Key_fn bs kk hb ⟨by omega, by omega⟩
    have hkz := small_at (l := keysD) (by decide) (nextM bs kk 4).toNat
    generalize keysD.getD (nextM bs kk 4).toNat default = key at hkey hkz
    have ih' := ih (kk + 1) ⟨by omega, by omega⟩
    repeat' (first | refine W.seq ?_ | refine W.rg ?_ | refine W.dra' ?_ | refine W.block ?_ | refine W.skip ?_ | refine W.exit ?_ | refine W.cond_true' ?_ | refine W.cond_false' ?_ | refine WG.nil ?_ | refine WG.run' (E := env) ?_ | refine WG.gt' ?_ | refine WG.gf' ?_ | refine WG.ixm' (E := env) ?_ | refine WG.ixo' (E := env) ?_ | refine WG.legm' (E := env) ?_ | refine WG.slS' (E := env) ?_ | refine WG.slD' (E := env) ?_ | refine WG.ap' (E := env) ?_ | refine WD.nil ?_ | refine WD.bs' (E := env) ?_ | refine WD.s' (E := env) (t := .d _) ?_ | refine WD.p' ?_ | refine WD.px' ?_ | refine WD.s' (E := env) (t := .ea _ _) ?_ | refine WD.s' (E := env) (t := .lp _ _) ?_ | refine WD.s' (E := env) (t := .og _ _) ?_ | refine WD.s' (E := env) (t := .agg _) ?_ | refine WD.s' (E := env) (t := .tup _) ?_ | refine WD.s' (E := env) (t := .clo _ _) ?_ | refine WD.ixm' (E := env) ?_ | refine WD.ixo' (E := env) ?_ | refine WD.legm' (E := env) ?_ | refine WD.slS' (E := env) ?_ | refine WD.slD' (E := env) ?_ | refine WG.cq (E := env) (t' := .d (dS key)) (ob2 := [srcO bs (kk + 1), .gr 1 9 (rk) 0 false, .gr 1 24 (rx) 0 false]) [0] [0] false rfl rfl hkey rfl rfl rfl rfl rfl rfl rfl ⟨rfl, trivial⟩ (.inl rfl) rfl (fun h => nomatch h) rfl rfl ?_ | (refine WG.cQ (E := env) [0] [0] false rfl rfl (ih') rfl rfl rfl rfl rfl rfl rfl ⟨rfl, trivial⟩ (.inl rfl) (fun t ob ⟨k', cs', e1, e2, _⟩ => ⟨by subst e2; rfl, fun h => nomatch h⟩) ?_; rintro _ _ ⟨kk2, cs, rfl, rfl, hk3, hk4, hs2⟩; refine (show WG _ _ _ _ _ _ ⟨upd _ _ (.og 4 0), [srcO bs kk2, .gr 1 9 (rk ++ [[dS key]]) 1 false, .gr 1 24 (rx) 0 false, .gr 1 9 ([[dS key]]) 0 false, .gr 5 91 (cs.map Cell.row) 0 false]⟩ from ?_)) | refine WG.pubD 4 rfl ?_ | fail | ((first | refine WG.sp' (fun h => ?_) fun h => ?_ | refine W.cond' (fun h => ?_) fun h => ?_ | refine WD.sp' (fun h => ?_) fun h => ?_) <;> (try simp only [decide_eq_true_eq, decide_eq_false_iff_not, Bool.not_eq_true', Bool.not_eq_false', Bool.and_eq_true, Bool.or_eq_true, Bool.and_eq_false_iff, Bool.or_eq_false_iff, Bool.not_eq_true, Bool.not_eq_false, Int.not_lt, Int.not_le, List.length_map, beq_self_eq_true, Bool.true_eq_false, Bool.false_eq_true] at h) <;> (try (exfalso; first | contradiction | omega))))
    all_goals first | (exfalso; simp at *; omega) | skip
    exact ⟨_, _, by omega, ⟨n, q - 1, ks ++ [key], xs ++ [cs], kk2, rk ++ [[dS key]], rx ++ [cellsR cs], rfl, ⟨by omega, by rw [List.length_append, List.length_singleton]; omega, by rw [hrx, List.map_append]; rfl, by rw [List.length_append, List.length_append, hrl]; rfl, by rw [hrk, List.map_append]; rfl, by rw [List.length_append, List.length_append, hrkl]; rfl, by rw [List.length_append, List.length_append, hkl]; rfl, fun x hx => by
      rcases List.mem_append.1 hx with h | h
      · exact hks x h
      · rw [List.mem_singleton.1 h]; exact hkz, fun x hx => by
      rcases List.mem_append.1 hx with h | h
      · exact hsm x h
      · rw [List.mem_singleton.1 h]; exact hs2, by omega, by omega⟩, rfl⟩, ((St.imp.rev 1 1 rfl).trans (St.imp.rev 2 1 rfl)).trans (St.imp.of_le (by (refine le_ofL rfl ?_ ?_ <;> (repeat (first | exact trivial | refine ⟨⟨rfl, rfl⟩, ?_⟩ | refine ⟨rfl, .inl rfl, ?_⟩ | refine ⟨rfl, .inr rfl, ?_⟩)))))⟩

end Go.Proofs.Ytlegadpbjccelaa
