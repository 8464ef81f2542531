/-
  What the reference draws out of bytes: numbers, choices, short texts. Conditions: at most 2^21 bytes, at most 10^12 draws.
-/
import Derived.Test.YthaakpbdijhgiaaGreatDoorQTokensTk1
import Derived.Test.YthaakpbdijhgiaaGreatDoorQTokensEnv
import Derived.Test.YthaakpbdijhgiaaGreatDoorQTokensVal
import Derived.Test.YthaakpbdijhgiaaGreatDoorQTokensPgD
import Derived.Test.YthaakpbdijhgiaaGreatDoorQTokensPgF
import Derived.Test.YthaakpbdijhgiaaGreatDoorQTokensW2
import Derived.Test.YthaakpbdijhgiaaGreatDoorQTokensPgE
set_option linter.unusedVariables false
set_option linter.unusedSimpArgs false
set_option maxRecDepth 100000
namespace Go.Proofs.YthaakpbdijhgiaaGreatDoor
open Go.RowKit

/-- An own slice is published within a region; the slots that hold it hold data. -/
theorem WG.pubD {P : Program} {N : Nm} {G : List Nat} {ops l : List Oper} {Q : Exit → St → Prop} {tm : Nat → T} {ob : List Ob} (k : Nat) {z n : Nat} {e : TypeId} {rows : List (List D)} (hk : ob[k]? = some (.gr z e rows n false))
    (h : WG G P N ops l Q ⟨fun i => pubd k n (.sl z rows) (tm i), ob.set k (.gr z e rows n true)⟩) : WG G P N ops l Q ⟨tm, ob⟩ := fun w0 σ0 a w g r => by
  obtain ⟨g', hle, hlim, I⟩ := r.inv.pub hk
  have hlt : k < ob.length := (List.getElem?_eq_some_iff.1 hk).1
  exact h w0 σ0 a w g' ⟨I, r.defers, r.size, r.hm, by simpa using r.hl, fun i => ((r.tm i).mono hle).pubd I (List.getElem?_set_self hlt)⟩

abbrev bytD (bs : List Int) : D := .sl 1 (bs.map fun b => [dY b])
abbrev srcO (bs : List Int) (k : Int) : Ob := .pv [.d (bytD bs), .d (dI k)]
def okB (bs : List Int) : Prop := bs.length ≤ 2097152 ∧ ∀ b ∈ bs, 0 ≤ b ∧ b ≤ 255

theorem okB_at {bs : List Int} (h : okB bs) (i : Nat) : 0 ≤ bs.getD i default ∧ bs.getD i default ≤ 255 := by
  by_cases hi : i < bs.length
  · exact h.2 _ (getD_mem' hi)
  · rw [List.getD_eq_getElem?_getD, List.getElem?_eq_none (by omega)]
    exact ⟨by decide, by decide⟩

theorem tdiv_le {k L : Int} (hk : 0 ≤ k) (hL : 0 < L) : 0 ≤ k.tdiv L ∧ k.tdiv L ≤ k := ⟨Int.tdiv_nonneg hk (by omega), Int.tdiv_le_self L hk⟩
theorem tmod_in {k L : Int} (hk : 0 ≤ k) (hL : 0 < L) : 0 ≤ k.tmod L ∧ k.tmod L < L := ⟨Int.tmod_nonneg _ hk, Int.tmod_lt_of_pos _ hL⟩

/-- The number in 0..n-1 that the draw q makes. -/
def nextN (bs : List Int) (q n : Int) : Int :=
  if n < 1 then 0
  else if (bs.length : Int) = 0 then (q * 7).tmod n
  else if 200 < n then ((bs.getD (q.tmod bs.length).toNat default + q.tdiv bs.length * 37) * 251 + bs.getD ((q + 1).tmod bs.length).toNat default * 13 + q).tmod n
  else (bs.getD (q.tmod bs.length).toNat default + q.tdiv bs.length * 37).tmod n

theorem nextN_in {bs : List Int} {k n : Int} (hb : okB bs) (hk : 0 ≤ k) (hn : 1 ≤ n) : 0 ≤ nextN bs k n ∧ nextN bs k n < n := by
  unfold nextN
  rw [if_neg (by omega)]
  by_cases h0 : (bs.length : Int) = 0
  · rw [if_pos h0]; exact tmod_in (by omega) (by omega)
  rw [if_neg h0]
  have h1 := okB_at hb (k.tmod bs.length).toNat
  have h2 := okB_at hb ((k + 1).tmod bs.length).toNat
  have h3 := tdiv_le (k := k) (L := bs.length) hk (by omega)
  by_cases h4 : 200 < n
  · rw [if_pos h4]; exact tmod_in (by omega) (by omega)
  · rw [if_neg h4]; exact tmod_in (by omega) (by omega)

abbrev nextM (bs : List Int) (k n : Int) : Int := nextN bs (k + 1 - 1) n

theorem nextM_in {bs : List Int} {k n : Int} (hb : okB bs) (hk : 0 ≤ k) (hn : 1 ≤ n) : 0 ≤ nextM bs k n ∧ nextM bs k n < n := nextN_in hb (by omega) hn

set_option maxHeartbeats 2000000 in
theorem l1Next_fn (bs : List Int) (k n : Int) (hb : okB bs) (hk : 0 ≤ k ∧ k ≤ 1000000000000) : FunQ env.P 16 [.lp 0 0, .d (dI n)] [srcO bs k] (just (.d (dI (nextM bs k n))) [srcO bs (k + 1)]) := by
  have hl := hb.1
  have ek : k + 1 - 1 = k := by omega
  unfold nextM nextN
  by_cases hn : n < 1
  · rw [if_pos hn]
    refine FunQ.intro Tryz.func16 rfl (by kernel_rfl) rfl ?_
    repeat' (first | refine W.seq ?_ | refine W.rg ?_ | refine W.dra' ?_ | refine W.block ?_ | refine W.skip ?_ | refine W.exit ?_ | refine W.cond_true' ?_ | refine W.cond_false' ?_ | refine WG.nil ?_ | refine WG.run' (E := env) ?_ | refine WG.gt' ?_ | refine WG.gf' ?_ | refine WG.ixm' (E := env) ?_ | refine WG.ixo' (E := env) ?_ | refine WG.legm' (E := env) ?_ | refine WG.slS' (E := env) ?_ | refine WG.slD' (E := env) ?_ | refine WG.ap' (E := env) ?_ | refine WD.nil ?_ | refine WD.bs' (E := env) ?_ | refine WD.s' (E := env) (t := .d _) ?_ | refine WD.p' ?_ | refine WD.px' ?_ | refine WD.s' (E := env) (t := .ea _ _) ?_ | refine WD.s' (E := env) (t := .lp _ _) ?_ | refine WD.s' (E := env) (t := .og _ _) ?_ | refine WD.s' (E := env) (t := .agg _) ?_ | refine WD.s' (E := env) (t := .tup _) ?_ | refine WD.s' (E := env) (t := .clo _ _) ?_ | refine WD.ixm' (E := env) ?_ | refine WD.ixo' (E := env) ?_ | refine WD.legm' (E := env) ?_ | refine WD.slS' (E := env) ?_ | refine WD.slD' (E := env) ?_ | ((first | refine WG.sp' (fun h => ?_) fun h => ?_ | refine W.cond' (fun h => ?_) fun h => ?_ | refine WD.sp' (fun h => ?_) fun h => ?_) <;> (try simp only [decide_eq_true_eq, decide_eq_false_iff_not, Bool.not_eq_true', Bool.not_eq_false', Bool.and_eq_true, Bool.or_eq_true, Bool.and_eq_false_iff, Bool.or_eq_false_iff, Bool.not_eq_true, Bool.not_eq_false, Int.not_lt, Int.not_le, List.length_map, beq_self_eq_true, Bool.true_eq_false, Bool.false_eq_true] at h) <;> (try (exfalso; first | contradiction | omega))))
    all_goals first | (exfalso; omega) | skip
    refine W.ret ?_
    exact RetR.own (ob' := [srcO bs (k + 1)]) ⟨[0], [0], 1⟩ (.inl rfl) rfl (by first | trivial | exact resOK_of (E := env) rfl) rfl rfl rfl rfl rfl rfl ⟨rfl, trivial⟩ rfl ⟨rfl, rfl⟩
  rw [if_neg hn]
  by_cases h0 : (bs.length : Int) = 0
  · rw [if_pos h0]
    refine FunQ.intro Tryz.func16 rfl (by kernel_rfl) rfl ?_
    repeat' (first | refine W.seq ?_ | refine W.rg ?_ | refine W.dra' ?_ | refine W.block ?_ | refine W.skip ?_ | refine W.exit ?_ | refine W.cond_true' ?_ | refine W.cond_false' ?_ | refine WG.nil ?_ | refine WG.run' (E := env) ?_ | refine WG.gt' ?_ | refine WG.gf' ?_ | refine WG.ixm' (E := env) ?_ | refine WG.ixo' (E := env) ?_ | refine WG.legm' (E := env) ?_ | refine WG.slS' (E := env) ?_ | refine WG.slD' (E := env) ?_ | refine WG.ap' (E := env) ?_ | refine WD.nil ?_ | refine WD.bs' (E := env) ?_ | refine WD.s' (E := env) (t := .d _) ?_ | refine WD.p' ?_ | refine WD.px' ?_ | refine WD.s' (E := env) (t := .ea _ _) ?_ | refine WD.s' (E := env) (t := .lp _ _) ?_ | refine WD.s' (E := env) (t := .og _ _) ?_ | refine WD.s' (E := env) (t := .agg _) ?_ | refine WD.s' (E := env) (t := .tup _) ?_ | refine WD.s' (E := env) (t := .clo _ _) ?_ | refine WD.ixm' (E := env) ?_ | refine WD.ixo' (E := env) ?_ | refine WD.legm' (E := env) ?_ | refine WD.slS' (E := env) ?_ | refine WD.slD' (E := env) ?_ | ((first | refine WG.sp' (fun h => ?_) fun h => ?_ | refine W.cond' (fun h => ?_) fun h => ?_ | refine WD.sp' (fun h => ?_) fun h => ?_) <;> (try simp only [decide_eq_true_eq, decide_eq_false_iff_not, Bool.not_eq_true', Bool.not_eq_false', Bool.and_eq_true, Bool.or_eq_true, Bool.and_eq_false_iff, Bool.or_eq_false_iff, Bool.not_eq_true, Bool.not_eq_false, Int.not_lt, Int.not_le, List.length_map, beq_self_eq_true, Bool.true_eq_false, Bool.false_eq_true] at h) <;> (try (exfalso; first | contradiction | omega))))
    all_goals first | (exfalso; omega) | skip
    refine W.ret ?_
    exact RetR.own (ob' := [srcO bs (k + 1)]) ⟨[0], [0], 1⟩ (.inl rfl) rfl (by first | trivial | exact resOK_of (E := env) rfl) rfl rfl rfl rfl rfl rfl ⟨rfl, trivial⟩ rfl ⟨rfl, rfl⟩
  rw [if_neg h0]
  have h1 := okB_at hb ((k + 1 - 1).tmod bs.length).toNat
  have h2 := okB_at hb ((k + 1 - 1 + 1).tmod bs.length).toNat
  have h3 := tdiv_le (k := k + 1 - 1) (L := bs.length) (by omega) (by omega)
  have h4 := tmod_in (k := k + 1 - 1) (L := bs.length) (by omega) (by omega)
  have h5 := tmod_in (k := k + 1 - 1 + 1) (L := bs.length) (by omega) (by omega)
  by_cases h6 : 200 < n
  · rw [if_pos h6]
    refine FunQ.intro Tryz.func16 rfl (by kernel_rfl) rfl ?_
    repeat' (first | (refine W.dre' (id := 10) [] (fun f => [srcO bs (k + 1)]) [(0, [0]), (0, [0]), (0, [0]), (0, [0]), (0, [0]), (0, [0]), (0, [0]), (0, [0]), (0, [0]), (0, [0]), (0, [0]), (0, [0]), (0, [0]), (0, [0]), (0, [0]), (0, [0]), (0, [0]), (0, [0])] [srcO bs (k + 1)] ?_) | refine W.seq ?_ | refine W.rg ?_ | refine W.dra' ?_ | refine W.block ?_ | refine W.skip ?_ | refine W.exit ?_ | refine W.cond_true' ?_ | refine W.cond_false' ?_ | refine WG.nil ?_ | refine WG.run' (E := env) ?_ | refine WG.gt' ?_ | refine WG.gf' ?_ | refine WG.ixm' (E := env) ?_ | refine WG.ixo' (E := env) ?_ | refine WG.legm' (E := env) ?_ | refine WG.slS' (E := env) ?_ | refine WG.slD' (E := env) ?_ | refine WG.ap' (E := env) ?_ | refine WD.nil ?_ | refine WD.bs' (E := env) ?_ | refine WD.s' (E := env) (t := .d _) ?_ | refine WD.p' ?_ | refine WD.px' ?_ | refine WD.s' (E := env) (t := .ea _ _) ?_ | refine WD.s' (E := env) (t := .lp _ _) ?_ | refine WD.s' (E := env) (t := .og _ _) ?_ | refine WD.s' (E := env) (t := .agg _) ?_ | refine WD.s' (E := env) (t := .tup _) ?_ | refine WD.s' (E := env) (t := .clo _ _) ?_ | refine WD.ixm' (E := env) ?_ | refine WD.ixo' (E := env) ?_ | refine WD.legm' (E := env) ?_ | refine WD.slS' (E := env) ?_ | refine WD.slD' (E := env) ?_ | refine WE.nil ?_ | refine WE.ixP' ?_ | refine WE.s' (E := env) (t := .d _) ?_ | refine WE.p' ?_ | refine WE.px' ?_ | refine WE.s' (E := env) (t := .lp _ _) ?_ | refine WE.s' (E := env) (t := .og _ _) ?_ | refine WE.s' (E := env) (t := .ea _ _) ?_ | refine WE.s' (E := env) (t := .agg _) ?_ | refine WE.s' (E := env) (t := .tup _) ?_ | refine WE.ixm' (E := env) ?_ | refine WE.ixo' (E := env) ?_ | refine WE.leg' (E := env) ?_ | refine WE.slS' (E := env) ?_ | refine WE.slD' (E := env) ?_ | refine WE.ap' (E := env) ?_ | refine WE.st' (E := env) ?_ | refine WE.seg' (E := env) ?_ | refine WE.bs' (E := env) ?_ | fail | ((first | refine WG.sp' (fun h => ?_) fun h => ?_ | refine W.cond' (fun h => ?_) fun h => ?_ | refine WD.sp' (fun h => ?_) fun h => ?_) <;> (try simp only [decide_eq_true_eq, decide_eq_false_iff_not, Bool.not_eq_true', Bool.not_eq_false', Bool.and_eq_true, Bool.or_eq_true, Bool.and_eq_false_iff, Bool.or_eq_false_iff, Bool.not_eq_true, Bool.not_eq_false, Int.not_lt, Int.not_le, List.length_map, beq_self_eq_true, Bool.true_eq_false, Bool.false_eq_true] at h) <;> (try (exfalso; first | contradiction | omega))))
    all_goals first | (exfalso; omega) | skip
    simp only [List.length_map]
    refine W.ret ?_
    exact RetR.own (ob' := [srcO bs (k + 1)]) ⟨[0], [0], 1⟩ (.inl rfl) rfl (by first | trivial | exact resOK_of (E := env) rfl) rfl rfl rfl rfl rfl rfl ⟨rfl, trivial⟩ rfl ⟨rfl, rfl⟩
  · rw [if_neg h6]
    refine FunQ.intro Tryz.func16 rfl (by kernel_rfl) rfl ?_
    repeat' (first | refine W.seq ?_ | refine W.rg ?_ | refine W.dra' ?_ | refine W.block ?_ | refine W.skip ?_ | refine W.exit ?_ | refine W.cond_true' ?_ | refine W.cond_false' ?_ | refine WG.nil ?_ | refine WG.run' (E := env) ?_ | refine WG.gt' ?_ | refine WG.gf' ?_ | refine WG.ixm' (E := env) ?_ | refine WG.ixo' (E := env) ?_ | refine WG.legm' (E := env) ?_ | refine WG.slS' (E := env) ?_ | refine WG.slD' (E := env) ?_ | refine WG.ap' (E := env) ?_ | refine WD.nil ?_ | refine WD.bs' (E := env) ?_ | refine WD.s' (E := env) (t := .d _) ?_ | refine WD.p' ?_ | refine WD.px' ?_ | refine WD.s' (E := env) (t := .ea _ _) ?_ | refine WD.s' (E := env) (t := .lp _ _) ?_ | refine WD.s' (E := env) (t := .og _ _) ?_ | refine WD.s' (E := env) (t := .agg _) ?_ | refine WD.s' (E := env) (t := .tup _) ?_ | refine WD.s' (E := env) (t := .clo _ _) ?_ | refine WD.ixm' (E := env) ?_ | refine WD.ixo' (E := env) ?_ | refine WD.legm' (E := env) ?_ | refine WD.slS' (E := env) ?_ | refine WD.slD' (E := env) ?_ | ((first | refine WG.sp' (fun h => ?_) fun h => ?_ | refine W.cond' (fun h => ?_) fun h => ?_ | refine WD.sp' (fun h => ?_) fun h => ?_) <;> (try simp only [decide_eq_true_eq, decide_eq_false_iff_not, Bool.not_eq_true', Bool.not_eq_false', Bool.and_eq_true, Bool.or_eq_true, Bool.and_eq_false_iff, Bool.or_eq_false_iff, Bool.not_eq_true, Bool.not_eq_false, Int.not_lt, Int.not_le, List.length_map, beq_self_eq_true, Bool.true_eq_false, Bool.false_eq_true] at h) <;> (try (exfalso; first | contradiction | omega))))
    all_goals first | (exfalso; omega) | skip
    simp only [List.length_map]
    refine W.ret ?_
    exact RetR.own (ob' := [srcO bs (k + 1)]) ⟨[0], [0], 1⟩ (.inl rfl) rfl (by first | trivial | exact resOK_of (E := env) rfl) rfl rfl rfl rfl rfl rfl ⟨rfl, trivial⟩ rfl ⟨rfl, rfl⟩

theorem l1Pick_fn (bs : List Int) (k : Int) (l : List Int) (hb : okB bs) (hk : 0 ≤ k ∧ k ≤ 1000000000000) (hl : 1 ≤ l.length ∧ l.length ≤ 100) :
    FunQ env.P 39 [.lp 0 0, .d (.sl 1 (l.map intRow))] [srcO bs k] (just (.d (dI (l.getD (nextM bs k (l.map intRow).length).toNat default))) [srcO bs (k + 1)]) := by
  have h := l1Next_fn bs k (l.map intRow).length hb hk
  have h1 := nextM_in (n := (l.map intRow).length) hb hk.1 (by simp; omega)
  have hlm : (l.map intRow).length = l.length := by simp
  refine FunQ.intro Tryz.func39 rfl (by kernel_rfl) rfl ?_
  generalize nextM bs k (l.map intRow).length = r at h h1
  repeat' (first | refine W.seq ?_ | refine W.rg ?_ | refine W.dra' ?_ | refine W.block ?_ | refine W.skip ?_ | refine W.exit ?_ | refine W.cond_true' ?_ | refine W.cond_false' ?_ | refine WG.nil ?_ | refine WG.run' (E := env) ?_ | refine WG.gt' ?_ | refine WG.gf' ?_ | refine WG.ixm' (E := env) ?_ | refine WG.ixo' (E := env) ?_ | refine WG.legm' (E := env) ?_ | refine WG.slS' (E := env) ?_ | refine WG.slD' (E := env) ?_ | refine WG.ap' (E := env) ?_ | refine WD.nil ?_ | refine WD.bs' (E := env) ?_ | refine WD.s' (E := env) (t := .d _) ?_ | refine WD.p' ?_ | refine WD.px' ?_ | refine WD.s' (E := env) (t := .ea _ _) ?_ | refine WD.s' (E := env) (t := .lp _ _) ?_ | refine WD.s' (E := env) (t := .og _ _) ?_ | refine WD.s' (E := env) (t := .agg _) ?_ | refine WD.s' (E := env) (t := .tup _) ?_ | refine WD.s' (E := env) (t := .clo _ _) ?_ | refine WD.ixm' (E := env) ?_ | refine WD.ixo' (E := env) ?_ | refine WD.legm' (E := env) ?_ | refine WD.slS' (E := env) ?_ | refine WD.slD' (E := env) ?_ | refine WG.cq (E := env) (t' := .d (dI r)) (ob2 := [srcO bs (k + 1)]) [0] [0] false rfl rfl h rfl rfl rfl rfl rfl rfl rfl ⟨rfl, trivial⟩ (.inl rfl) rfl (fun h => nomatch h) rfl rfl ?_ | fail | ((first | refine WG.sp' (fun h => ?_) fun h => ?_ | refine W.cond' (fun h => ?_) fun h => ?_ | refine WD.sp' (fun h => ?_) fun h => ?_) <;> (try simp only [decide_eq_true_eq, decide_eq_false_iff_not, Bool.not_eq_true', Bool.not_eq_false', Bool.and_eq_true, Bool.or_eq_true, Bool.and_eq_false_iff, Bool.or_eq_false_iff, Bool.not_eq_true, Bool.not_eq_false, Int.not_lt, Int.not_le, List.length_map, beq_self_eq_true, Bool.true_eq_false, Bool.false_eq_true] at h) <;> (try (exfalso; first | contradiction | omega))))
  refine W.ret ?_
  exact RetR.own (ob' := [srcO bs (k + 1)]) ⟨[0], [0], 1⟩ (.inl rfl) rfl (by first | trivial | exact resOK_of (E := env) rfl) rfl rfl rfl rfl rfl rfl ⟨rfl, trivial⟩ rfl ⟨rfl, rfl⟩

theorem l1Chance_fn (bs : List Int) (k n : Int) (hb : okB bs) (hk : 0 ≤ k ∧ k ≤ 1000000000000) :
    FunQ env.P 18 [.lp 0 0, .d (dI n)] [srcO bs k] (just (.d (dB (decide (nextM bs k n = 0)))) [srcO bs (k + 1)]) := by
  have h := l1Next_fn bs k n hb hk
  refine FunQ.intro Tryz.func18 rfl (by kernel_rfl) rfl ?_
  generalize nextM bs k n = r at h
  repeat' (first | refine W.seq ?_ | refine W.rg ?_ | refine W.dra' ?_ | refine W.block ?_ | refine W.skip ?_ | refine W.exit ?_ | refine W.cond_true' ?_ | refine W.cond_false' ?_ | refine WG.nil ?_ | refine WG.run' (E := env) ?_ | refine WG.gt' ?_ | refine WG.gf' ?_ | refine WG.ixm' (E := env) ?_ | refine WG.ixo' (E := env) ?_ | refine WG.legm' (E := env) ?_ | refine WG.slS' (E := env) ?_ | refine WG.slD' (E := env) ?_ | refine WG.ap' (E := env) ?_ | refine WD.nil ?_ | refine WD.bs' (E := env) ?_ | refine WD.s' (E := env) (t := .d _) ?_ | refine WD.p' ?_ | refine WD.px' ?_ | refine WD.s' (E := env) (t := .ea _ _) ?_ | refine WD.s' (E := env) (t := .lp _ _) ?_ | refine WD.s' (E := env) (t := .og _ _) ?_ | refine WD.s' (E := env) (t := .agg _) ?_ | refine WD.s' (E := env) (t := .tup _) ?_ | refine WD.s' (E := env) (t := .clo _ _) ?_ | refine WD.ixm' (E := env) ?_ | refine WD.ixo' (E := env) ?_ | refine WD.legm' (E := env) ?_ | refine WD.slS' (E := env) ?_ | refine WD.slD' (E := env) ?_ | refine WG.cq (E := env) (t' := .d (dI r)) (ob2 := [srcO bs (k + 1)]) [0] [0] false rfl rfl h rfl rfl rfl rfl rfl rfl rfl ⟨rfl, trivial⟩ (.inl rfl) rfl (fun h => nomatch h) rfl rfl ?_ | fail | ((first | refine WG.sp' (fun h => ?_) fun h => ?_ | refine W.cond' (fun h => ?_) fun h => ?_ | refine WD.sp' (fun h => ?_) fun h => ?_) <;> (try simp only [decide_eq_true_eq, decide_eq_false_iff_not, Bool.not_eq_true', Bool.not_eq_false', Bool.and_eq_true, Bool.or_eq_true, Bool.and_eq_false_iff, Bool.or_eq_false_iff, Bool.not_eq_true, Bool.not_eq_false, Int.not_lt, Int.not_le, List.length_map, beq_self_eq_true, Bool.true_eq_false, Bool.false_eq_true] at h) <;> (try (exfalso; first | contradiction | omega))))
  refine W.ret ?_
  exact RetR.own (ob' := [srcO bs (k + 1)]) ⟨[0], [0], 1⟩ (.inl rfl) rfl (by first | trivial | exact resOK_of (E := env) rfl) rfl rfl rfl rfl rfl rfl ⟨rfl, trivial⟩ rfl ⟨rfl, rfl⟩

def wordsD : List ByteArray := [⟨#[97]⟩, ⟨#[98]⟩, ⟨#[99]⟩, ⟨#[105, 100]⟩, ⟨#[]⟩, ⟨#[120, 32, 121]⟩, ⟨#[97, 98]⟩, ⟨#[34, 113, 92]⟩]
theorem small_at {l : List ByteArray} (h : ∀ x ∈ l, x.size ≤ 100) (i : Nat) : (l.getD i default).size ≤ 100 := by
  by_cases hi : i < l.length
  · exact h _ (getD_mem' hi)
  · rw [List.getD_eq_getElem?_getD, List.getElem?_eq_none (by omega)]
    exact Nat.zero_le _

theorem l1Word_fn (bs : List Int) (k : Int) (hb : okB bs) (hk : 0 ≤ k ∧ k ≤ 1000000000000) :
    FunQ env.P 37 [.lp 0 0] [srcO bs k] (just (.d (dS (wordsD.getD (nextM bs k 8).toNat default))) [srcO bs (k + 1)]) := by
  have h := l1Next_fn bs k 8 hb hk
  have h1 := nextM_in (n := 8) hb hk.1 (by omega)
  refine FunQ.intro Tryz.func37 rfl (by kernel_rfl) rfl ?_
  generalize nextM bs k 8 = r at h h1
  repeat' (first | refine WG.bsD (E := env) (rows := wordsD.map fun x => [dS x]) ?_ | refine W.seq ?_ | refine W.rg ?_ | refine W.dra' ?_ | refine W.block ?_ | refine W.skip ?_ | refine W.exit ?_ | refine W.cond_true' ?_ | refine W.cond_false' ?_ | refine WG.nil ?_ | refine WG.run' (E := env) ?_ | refine WG.gt' ?_ | refine WG.gf' ?_ | refine WG.ixm' (E := env) ?_ | refine WG.ixo' (E := env) ?_ | refine WG.legm' (E := env) ?_ | refine WG.slS' (E := env) ?_ | refine WG.slD' (E := env) ?_ | refine WG.ap' (E := env) ?_ | refine WD.nil ?_ | refine WD.bs' (E := env) ?_ | refine WD.s' (E := env) (t := .d _) ?_ | refine WD.p' ?_ | refine WD.px' ?_ | refine WD.s' (E := env) (t := .ea _ _) ?_ | refine WD.s' (E := env) (t := .lp _ _) ?_ | refine WD.s' (E := env) (t := .og _ _) ?_ | refine WD.s' (E := env) (t := .agg _) ?_ | refine WD.s' (E := env) (t := .tup _) ?_ | refine WD.s' (E := env) (t := .clo _ _) ?_ | refine WD.ixm' (E := env) ?_ | refine WD.ixo' (E := env) ?_ | refine WD.legm' (E := env) ?_ | refine WD.slS' (E := env) ?_ | refine WD.slD' (E := env) ?_ | refine WG.cq (E := env) (t' := .d (dI r)) (ob2 := [srcO bs (k + 1)]) [0] [0] false rfl rfl h rfl rfl rfl rfl rfl rfl rfl ⟨rfl, trivial⟩ (.inl rfl) rfl (fun h => nomatch h) rfl rfl ?_ | refine WG.ixm (E := env) (f := fun x => [dS x]) (f' := fun x => [dS x]) rfl rfl rfl rfl rfl rfl rfl (fun _ => rfl) ⟨by omega, by show r < 8; omega⟩ ?_ | fail | ((first | refine WG.sp' (fun h => ?_) fun h => ?_ | refine W.cond' (fun h => ?_) fun h => ?_ | refine WD.sp' (fun h => ?_) fun h => ?_) <;> (try simp only [decide_eq_true_eq, decide_eq_false_iff_not, Bool.not_eq_true', Bool.not_eq_false', Bool.and_eq_true, Bool.or_eq_true, Bool.and_eq_false_iff, Bool.or_eq_false_iff, Bool.not_eq_true, Bool.not_eq_false, Int.not_lt, Int.not_le, List.length_map, beq_self_eq_true, Bool.true_eq_false, Bool.false_eq_true] at h) <;> (try (exfalso; first | contradiction | omega))))
  refine W.ret ?_
  exact RetR.own (ob' := [srcO bs (k + 1)]) ⟨[0], [0], 1⟩ (.inl rfl) rfl (by first | trivial | exact resOK_of (E := env) rfl) rfl rfl rfl rfl rfl rfl ⟨rfl, trivial⟩ rfl ⟨rfl, rfl⟩

theorem l1Source_fn (bs : List Int) : Fun env.P 10 [bytD bs] (.lp 0 0) [srcO bs 0] := by
  refine Fun.intro Tryz.func10 rfl (by kernel_rfl) rfl ?_
  repeat' (first | refine W.seq ?_ | refine W.rg ?_ | refine W.dra' ?_ | refine W.block ?_ | refine W.skip ?_ | refine W.exit ?_ | refine W.cond_true' ?_ | refine W.cond_false' ?_ | refine WG.nil ?_ | refine WG.run' (E := env) ?_ | refine WG.gt' ?_ | refine WG.gf' ?_ | refine WG.ixm' (E := env) ?_ | refine WG.ixo' (E := env) ?_ | refine WG.legm' (E := env) ?_ | refine WG.slS' (E := env) ?_ | refine WG.slD' (E := env) ?_ | refine WG.ap' (E := env) ?_ | refine WD.nil ?_ | refine WD.bs' (E := env) ?_ | refine WD.s' (E := env) (t := .d _) ?_ | refine WD.p' ?_ | refine WD.px' ?_ | refine WD.s' (E := env) (t := .ea _ _) ?_ | refine WD.s' (E := env) (t := .lp _ _) ?_ | refine WD.s' (E := env) (t := .og _ _) ?_ | refine WD.s' (E := env) (t := .agg _) ?_ | refine WD.s' (E := env) (t := .tup _) ?_ | refine WD.s' (E := env) (t := .clo _ _) ?_ | refine WD.ixm' (E := env) ?_ | refine WD.ixo' (E := env) ?_ | refine WD.legm' (E := env) ?_ | refine WD.slS' (E := env) ?_ | refine WD.slD' (E := env) ?_ | ((first | refine WG.sp' (fun h => ?_) fun h => ?_ | refine W.cond' (fun h => ?_) fun h => ?_ | refine WD.sp' (fun h => ?_) fun h => ?_) <;> (try simp only [decide_eq_true_eq, decide_eq_false_iff_not, Bool.not_eq_true', Bool.not_eq_false', Bool.and_eq_true, Bool.or_eq_true, Bool.and_eq_false_iff, Bool.or_eq_false_iff, Bool.not_eq_true, Bool.not_eq_false, Int.not_lt, Int.not_le, List.length_map, beq_self_eq_true, Bool.true_eq_false, Bool.false_eq_true] at h) <;> (try (exfalso; first | contradiction | omega))))
  refine W.ret ?_
  exact RetR.own (ob' := [srcO bs 0]) ⟨[0], [0], 1⟩ (.inl rfl) rfl (by first | trivial | exact resOK_of (E := env) rfl) rfl rfl rfl rfl rfl rfl ⟨rfl, trivial⟩ rfl ⟨rfl, rfl⟩

end Go.Proofs.YthaakpbdijhgiaaGreatDoor
