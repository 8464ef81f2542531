/-
  The sum of two values, by the program: the walk. Conditions: none.
-/
import Derived.Test.YtlegadpbjccelaaQAddAllAd1
set_option linter.unusedVariables false
set_option linter.unusedSimpArgs false
set_option maxRecDepth 100000
namespace Go.Proofs.Ytlegadpbjccelaa
open Go.RowKit

theorem okNumV2 {v : V} (h : v.good) : -1000000000000000 ≤ v.num ∧ v.num ≤ 1000000000000000 := by obtain ⟨k, n, t, ks, kids⟩ := v; exact h.2.2.2.2.1
theorem okTxtV {v : V} (h : v.good) : v.text.size ≤ 60 := by
  obtain ⟨k, n, t, ks, kids⟩ := v
  have : okText t = true := h.2.2.2.2.2.1
  simp only [okText, Bool.and_eq_true, decide_eq_true_eq] at this
  exact this.2
theorem okKeysV {v : V} (h : v.good) : ∀ k ∈ v.keys, okText k = true := fun k hk => by
  obtain ⟨k', n, t, ks, kids⟩ := v
  exact h.2.2.2.2.2.2.2.2.1 k hk

/-- Two arrays, two objects in one. -/
def catA (a b : V) : V := arrV (a.kids ++ b.kids)
def catO (a b : V) : V := objS (a.keys ++ b.keys) (a.kids ++ b.kids)

theorem cat_kids {a b : V} (ha : a.fine) (hb : b.fine) : (a.kids ++ b.kids).length ≤ 398 ∧ (∀ w ∈ a.kids ++ b.kids, w.fine) ∧ V.counts (a.kids ++ b.kids) ≤ 79600 := by
  have h1 := V.length_counts a.kids
  have h2 := V.count_eq a
  have h3 := ha.2.1
  have h4 := V.length_counts b.kids
  have h5 := V.count_eq b
  have h6 := hb.2.1
  have hf : ∀ w ∈ a.kids ++ b.kids, w.fine := fun w hw => by
    rcases List.mem_append.1 hw with h | h
    · exact (V.fine_kids ha w h).1
    · exact (V.fine_kids hb w h).1
  have hl : (a.kids ++ b.kids).length ≤ 398 := by rw [List.length_append]; omega
  have := counts_le hf
  exact ⟨hl, hf, by omega⟩

theorem catA_good {a b : V} (ha : a.fine) (hb : b.fine) : (catA a b).good ∧ (catA a b).count ≤ 1048576 := by
  obtain ⟨h1, h2, h3⟩ := cat_kids ha hb
  exact ⟨arrV_good fun v hv => (h2 v hv).1, by rw [catA, arrV_count]; omega⟩

theorem cat_keys {a b : V} (ha : a.fine) (hb : b.fine) (ka : a.kind = 6) (kb : b.kind = 6) : (a.keys ++ b.keys).length = (a.kids ++ b.kids).length ∧ badKs (a.keys ++ b.keys) = false ∧ ∀ k ∈ a.keys ++ b.keys, k.size ≤ 60 := by
  have hk : ∀ k ∈ a.keys ++ b.keys, okText k = true := fun k hk => by
    rcases List.mem_append.1 hk with h | h
    · exact okKeysV ha.1 k h
    · exact okKeysV hb.1 k h
  refine ⟨by rw [List.length_append, List.length_append, (V.obj_keys ha.1 ka).1, (V.obj_keys hb.1 kb).1], ?_, fun k h => ?_⟩
  · unfold badKs
    rw [List.any_eq_false]
    intro k h
    simp [hk k h]
  · have := hk k h
    simp only [okText, Bool.and_eq_true, decide_eq_true_eq] at this
    exact this.2

theorem catO_good {a b : V} (ha : a.fine) (hb : b.fine) (ka : a.kind = 6) (kb : b.kind = 6) : (catO a b).good ∧ (catO a b).count ≤ 1048576 := by
  obtain ⟨h1, h2, h3⟩ := cat_kids ha hb
  obtain ⟨k1, k2, k3⟩ := cat_keys ha hb ka kb
  refine ⟨objS_good k1 k2 h2, ?_⟩
  have g2 := counts_le (l := objX (a.keys ++ b.keys) (a.kids ++ b.kids) (a.keys ++ b.keys).length) fun w hw => h2 w (objX_mem _ _ k1 _ (Nat.le_refl _) w hw)
  have g3 := objX_length (a.keys ++ b.keys) (a.kids ++ b.kids) (a.keys ++ b.keys).length
  have g4 := objK_len (a.keys ++ b.keys) (a.keys ++ b.keys).length
  have g5 : (catO a b).count = V.counts (objX (a.keys ++ b.keys) (a.kids ++ b.kids) (a.keys ++ b.keys).length) + 1 := V.count_eq _
  omega

def addO (a b : V) : Int × V :=
  if a.kind = 0 then (0, b) else if b.kind = 0 then (0, a)
  else if a.kind = 3 ∧ b.kind = 3 then leafO 3 (a.num + b.num) noS
  else if a.kind = 4 ∧ b.kind = 4 then leafO 4 0 (a.text ++ b.text)
  else if a.kind = 5 ∧ b.kind = 5 then (faultV (catA a b), givenV (catA a b))
  else if a.kind = 6 ∧ b.kind = 6 then (faultV (catO a b), givenV (catO a b))
  else (6, V.zero)

theorem addO_fine {a b : V} (ha : a.fine) (hb : b.fine) : (addO a b).2.fine := by
  unfold addO
  split
  · exact hb
  split
  · exact ha
  split
  · exact leafO_fine (by decide)
  split
  · exact leafO_fine (by decide)
  split
  · exact givenV_fine (catA_good ha hb).1
  split
  · rename_i h; exact givenV_fine (catO_good ha hb h.1 h.2).1
  · exact V.zero_fine

theorem are_fn (a b : V) (k : Int) : Fun env.P 272 [.agg a.rowP, .agg b.rowP, dI k] (.d (dB (decide (a.kind = k ∧ b.kind = k)))) [] := by
  refine Fun.intro Try.func272 rfl (by kernel_rfl) rfl ?_
  repeat' (first | refine W.seq ?_ | refine W.rg ?_ | refine W.dra' ?_ | refine W.block ?_ | refine W.skip ?_ | refine W.exit ?_ | refine W.cond_true' ?_ | refine W.cond_false' ?_ | refine WG.nil ?_ | refine WG.run' (E := env) ?_ | refine WG.gt' ?_ | refine WG.gf' ?_ | refine WG.ixm' (E := env) ?_ | refine WG.ixo' (E := env) ?_ | refine WG.legm' (E := env) ?_ | refine WG.slS' (E := env) ?_ | refine WG.slD' (E := env) ?_ | refine WG.ap' (E := env) ?_ | refine WD.nil ?_ | refine WD.bs' (E := env) ?_ | refine WD.s' (E := env) (t := .d _) ?_ | refine WD.p' ?_ | refine WD.px' ?_ | refine WD.s' (E := env) (t := .ea _ _) ?_ | refine WD.s' (E := env) (t := .lp _ _) ?_ | refine WD.s' (E := env) (t := .og _ _) ?_ | refine WD.s' (E := env) (t := .agg _) ?_ | refine WD.s' (E := env) (t := .tup _) ?_ | refine WD.s' (E := env) (t := .clo _ _) ?_ | refine WD.ixm' (E := env) ?_ | refine WD.ixo' (E := env) ?_ | refine WD.legm' (E := env) ?_ | refine WD.slS' (E := env) ?_ | refine WD.slD' (E := env) ?_ | ((first | refine WG.sp' (fun h => ?_) fun h => ?_ | refine W.cond' (fun h => ?_) fun h => ?_ | refine WD.sp' (fun h => ?_) fun h => ?_) <;> (try simp only [decide_eq_true_eq, decide_eq_false_iff_not, Bool.not_eq_true', Bool.not_eq_false', Bool.and_eq_true, Bool.or_eq_true, Bool.and_eq_false_iff, Bool.or_eq_false_iff, Bool.not_eq_true, Bool.not_eq_false, Int.not_lt, Int.not_le, List.length_map, beq_self_eq_true, Bool.true_eq_false, Bool.false_eq_true] at h) <;> (try (exfalso; first | contradiction | omega))))
  all_goals (refine W.ret ?_; (first | refine RetQ.b' ?_ | refine RetQ.i' ?_ | refine RetQ.d' ?_ | refine RetQ.t2' ?_ ?_ | refine RetQ.t3' ?_ ?_ ?_))
  all_goals simp [*]

set_option maxHeartbeats 8000000 in
theorem addP_fn (a b : V) (ha : a.fine) (hb : b.fine) : Fun env.P 209 [.agg a.rowP, .agg b.rowP] (.d (outD (addO a b).1 (addO a b).2)) [] := by
  have ga := V.fine_gives ha
  have gb := V.fine_gives hb
  have r3 := are_fn a b 3
  have r4 := are_fn a b 4
  have r5 := are_fn a b 5
  have r6 := are_fn a b 6
  have rf := refusesP_fn 6
  have na := okNumV2 ha.1
  have nb := okNumV2 hb.1
  have ta := okTxtV ha.1
  have tb := okTxtV hb.1
  have n1 := numberP_fn (a.num + b.num)
  have n2 := leafGives_fn 3 (a.num + b.num) noS (.inl rfl) (Nat.zero_le _)
  have t1 := textP_fn (a.text ++ b.text)
  have t2 := leafGives_fn 4 0 (a.text ++ b.text) (.inr rfl) (by rw [ByteArray.size_append]; omega)
  obtain ⟨hl, hf, hc⟩ := cat_kids ha hb
  have cv := (concatV_fn [a.kids, b.kids] (by simp) (by simp at hl ⊢; omega)).cast (args' := [.sl 1 [[.sl 5 (a.kids.map V.row)], [.sl 5 (b.kids.map V.row)]]]) (ob' := [.gr 5 112 ((a.kids ++ b.kids).map V.row) 0 false]) rfl rfl (by simp)
  have ar := arrayP_fn (a.kids ++ b.kids)
  change Fun env.P _ _ (.d (.agg (catA a b).rowP)) [] at ar
  have gA := given_fn _ (catA_good ha hb).1 (catA_good ha hb).2
  unfold addO
  by_cases k0 : a.kind = 0
  · rw [if_pos k0]
    refine Fun.intro Try.func209 rfl (by kernel_rfl) rfl ?_
    repeat' (first | refine W.seq ?_ | refine W.rg ?_ | refine W.dra' ?_ | refine W.block ?_ | refine W.skip ?_ | refine W.exit ?_ | refine W.cond_true' ?_ | refine W.cond_false' ?_ | refine WG.nil ?_ | refine WG.run' (E := env) ?_ | refine WG.gt' ?_ | refine WG.gf' ?_ | refine WG.ixm' (E := env) ?_ | refine WG.ixo' (E := env) ?_ | refine WG.legm' (E := env) ?_ | refine WG.slS' (E := env) ?_ | refine WG.slD' (E := env) ?_ | refine WG.ap' (E := env) ?_ | refine WD.nil ?_ | refine WD.bs' (E := env) ?_ | refine WD.s' (E := env) (t := .d _) ?_ | refine WD.p' ?_ | refine WD.px' ?_ | refine WD.s' (E := env) (t := .ea _ _) ?_ | refine WD.s' (E := env) (t := .lp _ _) ?_ | refine WD.s' (E := env) (t := .og _ _) ?_ | refine WD.s' (E := env) (t := .agg _) ?_ | refine WD.s' (E := env) (t := .tup _) ?_ | refine WD.s' (E := env) (t := .clo _ _) ?_ | refine WD.ixm' (E := env) ?_ | refine WD.ixo' (E := env) ?_ | refine WD.legm' (E := env) ?_ | refine WD.slS' (E := env) ?_ | refine WD.slD' (E := env) ?_ | refine WG.c (E := env) rfl rfl (gb) rfl rfl ?_ | refine WD.c (E := env) rfl rfl (gb) rfl rfl ?_ | refine WG.co (E := env) rfl rfl (gb) rfl rfl rfl rfl ?_ | refine WG.cx (E := env) rfl (gb) rfl ?_ | ((first | refine WG.sp' (fun h => ?_) fun h => ?_ | refine W.cond' (fun h => ?_) fun h => ?_ | refine WD.sp' (fun h => ?_) fun h => ?_) <;> (try simp only [decide_eq_true_eq, decide_eq_false_iff_not, Bool.not_eq_true', Bool.not_eq_false', Bool.and_eq_true, Bool.or_eq_true, Bool.and_eq_false_iff, Bool.or_eq_false_iff, Bool.not_eq_true, Bool.not_eq_false, Int.not_lt, Int.not_le, List.length_map, beq_self_eq_true, Bool.true_eq_false, Bool.false_eq_true] at h) <;> (try (exfalso; first | contradiction | omega))))
    all_goals first | (exfalso; omega) | skip
    (refine W.ret ?_; (first | refine RetQ.b' ?_ | refine RetQ.i' ?_ | refine RetQ.d' ?_ | refine RetQ.t2' ?_ ?_ | refine RetQ.t3' ?_ ?_ ?_))
    rfl
  rw [if_neg k0]
  by_cases k1 : b.kind = 0
  · rw [if_pos k1]
    refine Fun.intro Try.func209 rfl (by kernel_rfl) rfl ?_
    repeat' (first | refine W.seq ?_ | refine W.rg ?_ | refine W.dra' ?_ | refine W.block ?_ | refine W.skip ?_ | refine W.exit ?_ | refine W.cond_true' ?_ | refine W.cond_false' ?_ | refine WG.nil ?_ | refine WG.run' (E := env) ?_ | refine WG.gt' ?_ | refine WG.gf' ?_ | refine WG.ixm' (E := env) ?_ | refine WG.ixo' (E := env) ?_ | refine WG.legm' (E := env) ?_ | refine WG.slS' (E := env) ?_ | refine WG.slD' (E := env) ?_ | refine WG.ap' (E := env) ?_ | refine WD.nil ?_ | refine WD.bs' (E := env) ?_ | refine WD.s' (E := env) (t := .d _) ?_ | refine WD.p' ?_ | refine WD.px' ?_ | refine WD.s' (E := env) (t := .ea _ _) ?_ | refine WD.s' (E := env) (t := .lp _ _) ?_ | refine WD.s' (E := env) (t := .og _ _) ?_ | refine WD.s' (E := env) (t := .agg _) ?_ | refine WD.s' (E := env) (t := .tup _) ?_ | refine WD.s' (E := env) (t := .clo _ _) ?_ | refine WD.ixm' (E := env) ?_ | refine WD.ixo' (E := env) ?_ | refine WD.legm' (E := env) ?_ | refine WD.slS' (E := env) ?_ | refine WD.slD' (E := env) ?_ | refine WG.c (E := env) rfl rfl (ga) rfl rfl ?_ | refine WD.c (E := env) rfl rfl (ga) rfl rfl ?_ | refine WG.co (E := env) rfl rfl (ga) rfl rfl rfl rfl ?_ | refine WG.cx (E := env) rfl (ga) rfl ?_ | ((first | refine WG.sp' (fun h => ?_) fun h => ?_ | refine W.cond' (fun h => ?_) fun h => ?_ | refine WD.sp' (fun h => ?_) fun h => ?_) <;> (try simp only [decide_eq_true_eq, decide_eq_false_iff_not, Bool.not_eq_true', Bool.not_eq_false', Bool.and_eq_true, Bool.or_eq_true, Bool.and_eq_false_iff, Bool.or_eq_false_iff, Bool.not_eq_true, Bool.not_eq_false, Int.not_lt, Int.not_le, List.length_map, beq_self_eq_true, Bool.true_eq_false, Bool.false_eq_true] at h) <;> (try (exfalso; first | contradiction | omega))))
    all_goals first | (exfalso; omega) | skip
    (refine W.ret ?_; (first | refine RetQ.b' ?_ | refine RetQ.i' ?_ | refine RetQ.d' ?_ | refine RetQ.t2' ?_ ?_ | refine RetQ.t3' ?_ ?_ ?_))
    rfl
  rw [if_neg k1]
  by_cases k3 : a.kind = 3 ∧ b.kind = 3
  · rw [if_pos k3]
    rw [decide_eq_true k3] at r3
    generalize leafO 3 (a.num + b.num) noS = p at n2 ⊢
    refine Fun.intro Try.func209 rfl (by kernel_rfl) rfl ?_
    repeat' (first | refine W.seq ?_ | refine W.rg ?_ | refine W.dra' ?_ | refine W.block ?_ | refine W.skip ?_ | refine W.exit ?_ | refine W.cond_true' ?_ | refine W.cond_false' ?_ | refine WG.nil ?_ | refine WG.run' (E := env) ?_ | refine WG.gt' ?_ | refine WG.gf' ?_ | refine WG.ixm' (E := env) ?_ | refine WG.ixo' (E := env) ?_ | refine WG.legm' (E := env) ?_ | refine WG.slS' (E := env) ?_ | refine WG.slD' (E := env) ?_ | refine WG.ap' (E := env) ?_ | refine WD.nil ?_ | refine WD.bs' (E := env) ?_ | refine WD.s' (E := env) (t := .d _) ?_ | refine WD.p' ?_ | refine WD.px' ?_ | refine WD.s' (E := env) (t := .ea _ _) ?_ | refine WD.s' (E := env) (t := .lp _ _) ?_ | refine WD.s' (E := env) (t := .og _ _) ?_ | refine WD.s' (E := env) (t := .agg _) ?_ | refine WD.s' (E := env) (t := .tup _) ?_ | refine WD.s' (E := env) (t := .clo _ _) ?_ | refine WD.ixm' (E := env) ?_ | refine WD.ixo' (E := env) ?_ | refine WD.legm' (E := env) ?_ | refine WD.slS' (E := env) ?_ | refine WD.slD' (E := env) ?_ | refine WG.c (E := env) rfl rfl (r3) rfl rfl ?_ | refine WD.c (E := env) rfl rfl (r3) rfl rfl ?_ | refine WG.co (E := env) rfl rfl (r3) rfl rfl rfl rfl ?_ | refine WG.cx (E := env) rfl (r3) rfl ?_ | refine WG.c (E := env) rfl rfl (n1) rfl rfl ?_ | refine WD.c (E := env) rfl rfl (n1) rfl rfl ?_ | refine WG.co (E := env) rfl rfl (n1) rfl rfl rfl rfl ?_ | refine WG.cx (E := env) rfl (n1) rfl ?_ | refine WG.c (E := env) rfl rfl (n2) rfl rfl ?_ | refine WD.c (E := env) rfl rfl (n2) rfl rfl ?_ | refine WG.co (E := env) rfl rfl (n2) rfl rfl rfl rfl ?_ | refine WG.cx (E := env) rfl (n2) rfl ?_ | ((first | refine WG.sp' (fun h => ?_) fun h => ?_ | refine W.cond' (fun h => ?_) fun h => ?_ | refine WD.sp' (fun h => ?_) fun h => ?_) <;> (try simp only [decide_eq_true_eq, decide_eq_false_iff_not, Bool.not_eq_true', Bool.not_eq_false', Bool.and_eq_true, Bool.or_eq_true, Bool.and_eq_false_iff, Bool.or_eq_false_iff, Bool.not_eq_true, Bool.not_eq_false, Int.not_lt, Int.not_le, List.length_map, beq_self_eq_true, Bool.true_eq_false, Bool.false_eq_true] at h) <;> (try (exfalso; first | contradiction | omega))))
    all_goals first | (exfalso; omega) | (exfalso; simp_all; done) | skip
    (refine W.ret ?_; (first | refine RetQ.b' ?_ | refine RetQ.i' ?_ | refine RetQ.d' ?_ | refine RetQ.t2' ?_ ?_ | refine RetQ.t3' ?_ ?_ ?_))
    rfl
  rw [if_neg k3]
  rw [decide_eq_false k3] at r3
  by_cases k4 : a.kind = 4 ∧ b.kind = 4
  · rw [if_pos k4]
    rw [decide_eq_true k4] at r4
    generalize leafO 4 0 (a.text ++ b.text) = p at t2 ⊢
    refine Fun.intro Try.func209 rfl (by kernel_rfl) rfl ?_
    repeat' (first | refine W.seq ?_ | refine W.rg ?_ | refine W.dra' ?_ | refine W.block ?_ | refine W.skip ?_ | refine W.exit ?_ | refine W.cond_true' ?_ | refine W.cond_false' ?_ | refine WG.nil ?_ | refine WG.run' (E := env) ?_ | refine WG.gt' ?_ | refine WG.gf' ?_ | refine WG.ixm' (E := env) ?_ | refine WG.ixo' (E := env) ?_ | refine WG.legm' (E := env) ?_ | refine WG.slS' (E := env) ?_ | refine WG.slD' (E := env) ?_ | refine WG.ap' (E := env) ?_ | refine WD.nil ?_ | refine WD.bs' (E := env) ?_ | refine WD.s' (E := env) (t := .d _) ?_ | refine WD.p' ?_ | refine WD.px' ?_ | refine WD.s' (E := env) (t := .ea _ _) ?_ | refine WD.s' (E := env) (t := .lp _ _) ?_ | refine WD.s' (E := env) (t := .og _ _) ?_ | refine WD.s' (E := env) (t := .agg _) ?_ | refine WD.s' (E := env) (t := .tup _) ?_ | refine WD.s' (E := env) (t := .clo _ _) ?_ | refine WD.ixm' (E := env) ?_ | refine WD.ixo' (E := env) ?_ | refine WD.legm' (E := env) ?_ | refine WD.slS' (E := env) ?_ | refine WD.slD' (E := env) ?_ | refine WG.c (E := env) rfl rfl (r3) rfl rfl ?_ | refine WD.c (E := env) rfl rfl (r3) rfl rfl ?_ | refine WG.co (E := env) rfl rfl (r3) rfl rfl rfl rfl ?_ | refine WG.cx (E := env) rfl (r3) rfl ?_ | refine WG.c (E := env) rfl rfl (r4) rfl rfl ?_ | refine WD.c (E := env) rfl rfl (r4) rfl rfl ?_ | refine WG.co (E := env) rfl rfl (r4) rfl rfl rfl rfl ?_ | refine WG.cx (E := env) rfl (r4) rfl ?_ | refine WG.c (E := env) rfl rfl (t1) rfl rfl ?_ | refine WD.c (E := env) rfl rfl (t1) rfl rfl ?_ | refine WG.co (E := env) rfl rfl (t1) rfl rfl rfl rfl ?_ | refine WG.cx (E := env) rfl (t1) rfl ?_ | refine WG.c (E := env) rfl rfl (t2) rfl rfl ?_ | refine WD.c (E := env) rfl rfl (t2) rfl rfl ?_ | refine WG.co (E := env) rfl rfl (t2) rfl rfl rfl rfl ?_ | refine WG.cx (E := env) rfl (t2) rfl ?_ | ((first | refine WG.sp' (fun h => ?_) fun h => ?_ | refine W.cond' (fun h => ?_) fun h => ?_ | refine WD.sp' (fun h => ?_) fun h => ?_) <;> (try simp only [decide_eq_true_eq, decide_eq_false_iff_not, Bool.not_eq_true', Bool.not_eq_false', Bool.and_eq_true, Bool.or_eq_true, Bool.and_eq_false_iff, Bool.or_eq_false_iff, Bool.not_eq_true, Bool.not_eq_false, Int.not_lt, Int.not_le, List.length_map, beq_self_eq_true, Bool.true_eq_false, Bool.false_eq_true] at h) <;> (try (exfalso; first | contradiction | omega))))
    all_goals first | (exfalso; omega) | (exfalso; simp_all; done) | skip
    (refine W.ret ?_; (first | refine RetQ.b' ?_ | refine RetQ.i' ?_ | refine RetQ.d' ?_ | refine RetQ.t2' ?_ ?_ | refine RetQ.t3' ?_ ?_ ?_))
    rfl
  rw [if_neg k4]
  rw [decide_eq_false k4] at r4
  by_cases k5 : a.kind = 5 ∧ b.kind = 5
  · rw [if_pos k5]
    rw [decide_eq_true k5] at r5
    unfold givenV
    generalize catA a b = o at ar gA ⊢
    refine Fun.intro Try.func209 rfl (by kernel_rfl) rfl ?_
    repeat' (first | refine W.seq ?_ | refine W.rg ?_ | refine W.dra' ?_ | refine W.block ?_ | refine W.skip ?_ | refine W.exit ?_ | refine W.cond_true' ?_ | refine W.cond_false' ?_ | refine WG.nil ?_ | refine WG.run' (E := env) ?_ | refine WG.gt' ?_ | refine WG.gf' ?_ | refine WG.ixm' (E := env) ?_ | refine WG.ixo' (E := env) ?_ | refine WG.legm' (E := env) ?_ | refine WG.slS' (E := env) ?_ | refine WG.slD' (E := env) ?_ | refine WG.ap' (E := env) ?_ | refine WD.nil ?_ | refine WD.bs' (E := env) ?_ | refine WD.s' (E := env) (t := .d _) ?_ | refine WD.p' ?_ | refine WD.px' ?_ | refine WD.s' (E := env) (t := .ea _ _) ?_ | refine WD.s' (E := env) (t := .lp _ _) ?_ | refine WD.s' (E := env) (t := .og _ _) ?_ | refine WD.s' (E := env) (t := .agg _) ?_ | refine WD.s' (E := env) (t := .tup _) ?_ | refine WD.s' (E := env) (t := .clo _ _) ?_ | refine WD.ixm' (E := env) ?_ | refine WD.ixo' (E := env) ?_ | refine WD.legm' (E := env) ?_ | refine WD.slS' (E := env) ?_ | refine WD.slD' (E := env) ?_ | refine WG.c (E := env) rfl rfl (r3) rfl rfl ?_ | refine WD.c (E := env) rfl rfl (r3) rfl rfl ?_ | refine WG.co (E := env) rfl rfl (r3) rfl rfl rfl rfl ?_ | refine WG.cx (E := env) rfl (r3) rfl ?_ | refine WG.c (E := env) rfl rfl (r4) rfl rfl ?_ | refine WD.c (E := env) rfl rfl (r4) rfl rfl ?_ | refine WG.co (E := env) rfl rfl (r4) rfl rfl rfl rfl ?_ | refine WG.cx (E := env) rfl (r4) rfl ?_ | refine WG.c (E := env) rfl rfl (r5) rfl rfl ?_ | refine WD.c (E := env) rfl rfl (r5) rfl rfl ?_ | refine WG.co (E := env) rfl rfl (r5) rfl rfl rfl rfl ?_ | refine WG.cx (E := env) rfl (r5) rfl ?_ | ((first | refine WG.sp' (fun h => ?_) fun h => ?_ | refine W.cond' (fun h => ?_) fun h => ?_ | refine WD.sp' (fun h => ?_) fun h => ?_) <;> (try simp only [decide_eq_true_eq, decide_eq_false_iff_not, Bool.not_eq_true', Bool.not_eq_false', Bool.and_eq_true, Bool.or_eq_true, Bool.and_eq_false_iff, Bool.or_eq_false_iff, Bool.not_eq_true, Bool.not_eq_false, Int.not_lt, Int.not_le, List.length_map, beq_self_eq_true, Bool.true_eq_false, Bool.false_eq_true] at h) <;> (try (exfalso; first | contradiction | omega))))
    all_goals first | (exfalso; omega) | (exfalso; simp_all; done) | skip
    refine WG.pubw 3 ?_
    repeat' (first | refine W.seq ?_ | refine W.rg ?_ | refine W.dra' ?_ | refine W.block ?_ | refine W.skip ?_ | refine W.exit ?_ | refine W.cond_true' ?_ | refine W.cond_false' ?_ | refine WG.nil ?_ | refine WG.run' (E := env) ?_ | refine WG.gt' ?_ | refine WG.gf' ?_ | refine WG.ixm' (E := env) ?_ | refine WG.ixo' (E := env) ?_ | refine WG.legm' (E := env) ?_ | refine WG.slS' (E := env) ?_ | refine WG.slD' (E := env) ?_ | refine WG.ap' (E := env) ?_ | refine WD.nil ?_ | refine WD.bs' (E := env) ?_ | refine WD.s' (E := env) (t := .d _) ?_ | refine WD.p' ?_ | refine WD.px' ?_ | refine WD.s' (E := env) (t := .ea _ _) ?_ | refine WD.s' (E := env) (t := .lp _ _) ?_ | refine WD.s' (E := env) (t := .og _ _) ?_ | refine WD.s' (E := env) (t := .agg _) ?_ | refine WD.s' (E := env) (t := .tup _) ?_ | refine WD.s' (E := env) (t := .clo _ _) ?_ | refine WD.ixm' (E := env) ?_ | refine WD.ixo' (E := env) ?_ | refine WD.legm' (E := env) ?_ | refine WD.slS' (E := env) ?_ | refine WD.slD' (E := env) ?_ | refine WG.coG' (E := env) rfl rfl (cv) rfl ?_ | refine WG.coA' (E := env) rfl rfl (cv) rfl ?_ | refine WG.coA3' (E := env) rfl rfl (cv) rfl ?_ | ((first | refine WG.sp' (fun h => ?_) fun h => ?_ | refine W.cond' (fun h => ?_) fun h => ?_ | refine WD.sp' (fun h => ?_) fun h => ?_) <;> (try simp only [decide_eq_true_eq, decide_eq_false_iff_not, Bool.not_eq_true', Bool.not_eq_false', Bool.and_eq_true, Bool.or_eq_true, Bool.and_eq_false_iff, Bool.or_eq_false_iff, Bool.not_eq_true, Bool.not_eq_false, Int.not_lt, Int.not_le, List.length_map, beq_self_eq_true, Bool.true_eq_false, Bool.false_eq_true] at h) <;> (try (exfalso; first | contradiction | omega))))
    refine WG.pubw 4 ?_
    repeat' (first | refine W.seq ?_ | refine W.rg ?_ | refine W.dra' ?_ | refine W.block ?_ | refine W.skip ?_ | refine W.exit ?_ | refine W.cond_true' ?_ | refine W.cond_false' ?_ | refine WG.nil ?_ | refine WG.run' (E := env) ?_ | refine WG.gt' ?_ | refine WG.gf' ?_ | refine WG.ixm' (E := env) ?_ | refine WG.ixo' (E := env) ?_ | refine WG.legm' (E := env) ?_ | refine WG.slS' (E := env) ?_ | refine WG.slD' (E := env) ?_ | refine WG.ap' (E := env) ?_ | refine WD.nil ?_ | refine WD.bs' (E := env) ?_ | refine WD.s' (E := env) (t := .d _) ?_ | refine WD.p' ?_ | refine WD.px' ?_ | refine WD.s' (E := env) (t := .ea _ _) ?_ | refine WD.s' (E := env) (t := .lp _ _) ?_ | refine WD.s' (E := env) (t := .og _ _) ?_ | refine WD.s' (E := env) (t := .agg _) ?_ | refine WD.s' (E := env) (t := .tup _) ?_ | refine WD.s' (E := env) (t := .clo _ _) ?_ | refine WD.ixm' (E := env) ?_ | refine WD.ixo' (E := env) ?_ | refine WD.legm' (E := env) ?_ | refine WD.slS' (E := env) ?_ | refine WD.slD' (E := env) ?_ | refine WG.c (E := env) rfl rfl (ar) rfl rfl ?_ | refine WD.c (E := env) rfl rfl (ar) rfl rfl ?_ | refine WG.co (E := env) rfl rfl (ar) rfl rfl rfl rfl ?_ | refine WG.cx (E := env) rfl (ar) rfl ?_ | refine WG.c (E := env) rfl rfl (gA) rfl rfl ?_ | refine WD.c (E := env) rfl rfl (gA) rfl rfl ?_ | refine WG.co (E := env) rfl rfl (gA) rfl rfl rfl rfl ?_ | refine WG.cx (E := env) rfl (gA) rfl ?_ | ((first | refine WG.sp' (fun h => ?_) fun h => ?_ | refine W.cond' (fun h => ?_) fun h => ?_ | refine WD.sp' (fun h => ?_) fun h => ?_) <;> (try simp only [decide_eq_true_eq, decide_eq_false_iff_not, Bool.not_eq_true', Bool.not_eq_false', Bool.and_eq_true, Bool.or_eq_true, Bool.and_eq_false_iff, Bool.or_eq_false_iff, Bool.not_eq_true, Bool.not_eq_false, Int.not_lt, Int.not_le, List.length_map, beq_self_eq_true, Bool.true_eq_false, Bool.false_eq_true] at h) <;> (try (exfalso; first | contradiction | omega))))
    all_goals first | (exfalso; omega) | (exfalso; simp_all; done) | skip
    (refine W.ret ?_; (first | refine RetQ.b' ?_ | refine RetQ.i' ?_ | refine RetQ.d' ?_ | refine RetQ.t2' ?_ ?_ | refine RetQ.t3' ?_ ?_ ?_))
    rfl
  rw [if_neg k5]
  rw [decide_eq_false k5] at r5
  by_cases k6 : a.kind = 6 ∧ b.kind = 6
  case neg =>
    rw [if_neg k6]
    rw [decide_eq_false k6] at r6
    refine Fun.intro Try.func209 rfl (by kernel_rfl) rfl ?_
    repeat' (first | refine W.seq ?_ | refine W.rg ?_ | refine W.dra' ?_ | refine W.block ?_ | refine W.skip ?_ | refine W.exit ?_ | refine W.cond_true' ?_ | refine W.cond_false' ?_ | refine WG.nil ?_ | refine WG.run' (E := env) ?_ | refine WG.gt' ?_ | refine WG.gf' ?_ | refine WG.ixm' (E := env) ?_ | refine WG.ixo' (E := env) ?_ | refine WG.legm' (E := env) ?_ | refine WG.slS' (E := env) ?_ | refine WG.slD' (E := env) ?_ | refine WG.ap' (E := env) ?_ | refine WD.nil ?_ | refine WD.bs' (E := env) ?_ | refine WD.s' (E := env) (t := .d _) ?_ | refine WD.p' ?_ | refine WD.px' ?_ | refine WD.s' (E := env) (t := .ea _ _) ?_ | refine WD.s' (E := env) (t := .lp _ _) ?_ | refine WD.s' (E := env) (t := .og _ _) ?_ | refine WD.s' (E := env) (t := .agg _) ?_ | refine WD.s' (E := env) (t := .tup _) ?_ | refine WD.s' (E := env) (t := .clo _ _) ?_ | refine WD.ixm' (E := env) ?_ | refine WD.ixo' (E := env) ?_ | refine WD.legm' (E := env) ?_ | refine WD.slS' (E := env) ?_ | refine WD.slD' (E := env) ?_ | refine WG.c (E := env) rfl rfl (r3) rfl rfl ?_ | refine WD.c (E := env) rfl rfl (r3) rfl rfl ?_ | refine WG.co (E := env) rfl rfl (r3) rfl rfl rfl rfl ?_ | refine WG.cx (E := env) rfl (r3) rfl ?_ | refine WG.c (E := env) rfl rfl (r4) rfl rfl ?_ | refine WD.c (E := env) rfl rfl (r4) rfl rfl ?_ | refine WG.co (E := env) rfl rfl (r4) rfl rfl rfl rfl ?_ | refine WG.cx (E := env) rfl (r4) rfl ?_ | refine WG.c (E := env) rfl rfl (r5) rfl rfl ?_ | refine WD.c (E := env) rfl rfl (r5) rfl rfl ?_ | refine WG.co (E := env) rfl rfl (r5) rfl rfl rfl rfl ?_ | refine WG.cx (E := env) rfl (r5) rfl ?_ | refine WG.c (E := env) rfl rfl (r6) rfl rfl ?_ | refine WD.c (E := env) rfl rfl (r6) rfl rfl ?_ | refine WG.co (E := env) rfl rfl (r6) rfl rfl rfl rfl ?_ | refine WG.cx (E := env) rfl (r6) rfl ?_ | refine WG.c (E := env) rfl rfl (rf) rfl rfl ?_ | refine WD.c (E := env) rfl rfl (rf) rfl rfl ?_ | refine WG.co (E := env) rfl rfl (rf) rfl rfl rfl rfl ?_ | refine WG.cx (E := env) rfl (rf) rfl ?_ | ((first | refine WG.sp' (fun h => ?_) fun h => ?_ | refine W.cond' (fun h => ?_) fun h => ?_ | refine WD.sp' (fun h => ?_) fun h => ?_) <;> (try simp only [decide_eq_true_eq, decide_eq_false_iff_not, Bool.not_eq_true', Bool.not_eq_false', Bool.and_eq_true, Bool.or_eq_true, Bool.and_eq_false_iff, Bool.or_eq_false_iff, Bool.not_eq_true, Bool.not_eq_false, Int.not_lt, Int.not_le, List.length_map, beq_self_eq_true, Bool.true_eq_false, Bool.false_eq_true] at h) <;> (try (exfalso; first | contradiction | omega))))
    all_goals first | (exfalso; omega) | (exfalso; simp_all; done) | skip
    (refine W.ret ?_; (first | refine RetQ.b' ?_ | refine RetQ.i' ?_ | refine RetQ.d' ?_ | refine RetQ.t2' ?_ ?_ | refine RetQ.t3' ?_ ?_ ?_))
    rfl
  rw [if_pos k6]
  rw [decide_eq_true k6] at r6
  obtain ⟨q1, q2, q3⟩ := cat_keys ha hb k6.1 k6.2
  have ck := (concatS_fn [a.keys, b.keys] (by simp) (by simp at hl q1 ⊢; omega)).cast (args' := [.sl 1 [[.sl 1 (a.keys.map keyRow)], [.sl 1 (b.keys.map keyRow)]]]) (ob' := [.gr 1 9 ((a.keys ++ b.keys).map keyRow) 0 false]) rfl rfl (by simp)
  have ob := objectP_fn (a.keys ++ b.keys) (a.kids ++ b.kids) q1 (fun k hk => Nat.le_trans (q3 k hk) (Nat.le_of_ble_eq_true rfl)) (by omega)
  change Fun env.P _ _ (.d (.agg (catO a b).rowP)) [] at ob
  have gO := given_fn _ (catO_good ha hb k6.1 k6.2).1 (catO_good ha hb k6.1 k6.2).2
  unfold givenV
  generalize catO a b = o at ob gO ⊢
  refine Fun.intro Try.func209 rfl (by kernel_rfl) rfl ?_
  repeat' (first | (refine W.dre' (id := 12) [5, 11, 12, 14] (fun f => [.pv (a.rowP.map .d), .pv (b.rowP.map .d), .pv (bif bt f 8 then ((dI (faultV o) :: (if faultV o = 0 then o else V.zero).rowP).map .d) else [.d (dI 0), .d (dI 0), .d (dI 0), .d (dS ByteArray.empty), .d (.nl 1), .d (.nl 5)])] ++ bif bt f 4 then [.gr 1 9 ((a.keys ++ b.keys).map keyRow) 0 true, .gr 5 112 ((a.kids ++ b.kids).map V.row) 0 true] else bif bt f 2 then [.gr 1 9 ((a.keys ++ b.keys).map keyRow) 0 false, .gr 5 112 ((a.kids ++ b.kids).map V.row) 0 false] else bif bt f 1 then [.gr 1 9 ((a.keys ++ b.keys).map keyRow) 0 false] else []) [(0, [0]), (0, [0]), (0, [0]), (0, [0]), (0, [0]), (1, [0]), (0, [0, 1]), (0, [0, 1]), (0, [0, 1]), (0, [0, 1]), (0, [0, 1]), (2, [1]), (4, [3]), (0, [7]), (8, [7])] [.pv (a.rowP.map .d), .pv (b.rowP.map .d), .pv ((dI (faultV o) :: (if faultV o = 0 then o else V.zero).rowP).map .d), .gr 1 9 ((a.keys ++ b.keys).map keyRow) 0 true, .gr 5 112 ((a.kids ++ b.kids).map V.row) 0 true] ?_) | refine WE.mkd (.og 3 0) ?_ (.c (OpS1.coG rfl rfl ck rfl rfl rfl) .n) | refine WE.mkd (.og 4 0) ?_ (.c (OpS1.coG rfl rfl cv rfl rfl rfl) .n) | refine WE.mkd (.d (.agg o.rowP)) ?_ (.c (OpS1.pub 3 rfl (OpS1.pub 4 rfl (OpS1.c rfl rfl ob rfl rfl))) .n) | refine WE.mkd (.d (outD (faultV o) (if faultV o = 0 then o else V.zero))) ?_ (.c (OpS1.c rfl rfl gO rfl rfl) .n) | refine WE.nil ?_ | refine WE.ixP' ?_ | refine WE.s' (E := env) (t := .d _) ?_ | refine WE.p' ?_ | refine WE.px' ?_ | refine WE.s' (E := env) (t := .lp _ _) ?_ | refine WE.s' (E := env) (t := .og _ _) ?_ | refine WE.s' (E := env) (t := .ea _ _) ?_ | refine WE.s' (E := env) (t := .agg _) ?_ | refine WE.s' (E := env) (t := .tup _) ?_ | refine WE.ixm' (E := env) ?_ | refine WE.ixo' (E := env) ?_ | refine WE.leg' (E := env) ?_ | refine WE.slS' (E := env) ?_ | refine WE.slD' (E := env) ?_ | refine WE.ap' (E := env) ?_ | refine WE.st' (E := env) ?_ | refine WE.seg' (E := env) ?_ | refine WE.bs' (E := env) ?_ | refine W.seq ?_ | refine W.rg ?_ | refine W.dra' ?_ | refine W.block ?_ | refine W.skip ?_ | refine W.exit ?_ | refine W.cond_true' ?_ | refine W.cond_false' ?_ | refine WG.nil ?_ | refine WG.run' (E := env) ?_ | refine WG.gt' ?_ | refine WG.gf' ?_ | refine WG.ixm' (E := env) ?_ | refine WG.ixo' (E := env) ?_ | refine WG.legm' (E := env) ?_ | refine WG.slS' (E := env) ?_ | refine WG.slD' (E := env) ?_ | refine WG.ap' (E := env) ?_ | refine WD.nil ?_ | refine WD.bs' (E := env) ?_ | refine WD.s' (E := env) (t := .d _) ?_ | refine WD.p' ?_ | refine WD.px' ?_ | refine WD.s' (E := env) (t := .ea _ _) ?_ | refine WD.s' (E := env) (t := .lp _ _) ?_ | refine WD.s' (E := env) (t := .og _ _) ?_ | refine WD.s' (E := env) (t := .agg _) ?_ | refine WD.s' (E := env) (t := .tup _) ?_ | refine WD.s' (E := env) (t := .clo _ _) ?_ | refine WD.ixm' (E := env) ?_ | refine WD.ixo' (E := env) ?_ | refine WD.legm' (E := env) ?_ | refine WD.slS' (E := env) ?_ | refine WD.slD' (E := env) ?_ | refine WG.c (E := env) rfl rfl (r3) rfl rfl ?_ | refine WD.c (E := env) rfl rfl (r3) rfl rfl ?_ | refine WG.co (E := env) rfl rfl (r3) rfl rfl rfl rfl ?_ | refine WG.cx (E := env) rfl (r3) rfl ?_ | refine WG.c (E := env) rfl rfl (r4) rfl rfl ?_ | refine WD.c (E := env) rfl rfl (r4) rfl rfl ?_ | refine WG.co (E := env) rfl rfl (r4) rfl rfl rfl rfl ?_ | refine WG.cx (E := env) rfl (r4) rfl ?_ | refine WG.c (E := env) rfl rfl (r5) rfl rfl ?_ | refine WD.c (E := env) rfl rfl (r5) rfl rfl ?_ | refine WG.co (E := env) rfl rfl (r5) rfl rfl rfl rfl ?_ | refine WG.cx (E := env) rfl (r5) rfl ?_ | refine WG.c (E := env) rfl rfl (r6) rfl rfl ?_ | refine WD.c (E := env) rfl rfl (r6) rfl rfl ?_ | refine WG.co (E := env) rfl rfl (r6) rfl rfl rfl rfl ?_ | refine WG.cx (E := env) rfl (r6) rfl ?_ | ((first | refine WG.sp' (fun h => ?_) fun h => ?_ | refine W.cond' (fun h => ?_) fun h => ?_ | refine WD.sp' (fun h => ?_) fun h => ?_) <;> (try simp only [decide_eq_true_eq, decide_eq_false_iff_not, Bool.not_eq_true', Bool.not_eq_false', Bool.and_eq_true, Bool.or_eq_true, Bool.and_eq_false_iff, Bool.or_eq_false_iff, Bool.not_eq_true, Bool.not_eq_false, Int.not_lt, Int.not_le, List.length_map, beq_self_eq_true, Bool.true_eq_false, Bool.false_eq_true] at h) <;> (try (exfalso; first | contradiction | omega))))
  all_goals first | (exfalso; omega) | (exfalso; simp_all; done) | skip
  all_goals (refine W.ret ?_; (first | refine RetQ.b' ?_ | refine RetQ.i' ?_ | refine RetQ.d' ?_ | refine RetQ.t2' ?_ ?_ | refine RetQ.t3' ?_ ?_ ?_))
  all_goals rfl

end Go.Proofs.Ytlegadpbjccelaa
