/-
  A text of joined tokens is read as these tokens. Conditions: none.
-/
import Derived.Test.YthaakpbdijhgiaaGreatDoorQTokensLx8
set_option linter.unusedVariables false
set_option linter.unusedSimpArgs false
set_option maxRecDepth 100000
namespace Go.Proofs.YthaakpbdijhgiaaGreatDoor
open Go.RowKit

/-- The token i as it is read: with its place. -/
def lexK (ts : List Tk) (i : Nat) : Tk := ⟨(ts.getD i default).kind, offW (ts.map tokS) i, (ts.getD i default).num, (ts.getD i default).text⟩
def lexL (ts : List Tk) : List Tk := (List.range ts.length).map (lexK ts)
theorem lexL_length (ts : List Tk) : (lexL ts).length = ts.length := by simp [lexL]
theorem lexL_at (ts : List Tk) {i : Nat} (h : i < ts.length) : (lexL ts).getD i default = lexK ts i := by
  unfold lexL
  rw [List.getD_eq_getElem?_getD, List.getElem?_map, List.getElem?_range h]
  rfl

theorem ws_at (ts : List Tk) {i : Nat} (h : i < ts.length) : (ts.map tokS).getD i default = tokS (ts.getD i default) := by
  rw [List.getD_eq_getElem?_getD, List.getElem?_map, List.getD_eq_getElem?_getD, List.getElem?_eq_getElem h]
  rfl

/-- Where the reading goes on behind a token. -/
def nextP (ts : List Tk) (i : Nat) : Nat := if i < ts.length then offW (ts.map tokS) i else (joinS (ts.map tokS) spS).size

theorem sits_tok {ts : List Tk} {i : Nat} (h : i < ts.length) : Sits (joinS (ts.map tokS) spS) (offW (ts.map tokS) i) (tokS (ts.getD i default)) := by
  have := sits_join (ts.map tokS) i (by simpa using h)
  rwa [ws_at ts h] at this
theorem skip_tok {ts : List Tk} (hts : ∀ t ∈ ts, tokC t = 0) {i : Nat} (h : i < ts.length) : runOf blankB (joinS (ts.map tokS) spS) (offW (ts.map tokS) i) = offW (ts.map tokS) i :=
  skip_here (sits_tok h) (tok_first (hts _ (getD_mem' h)))
theorem skip_zero {ts : List Tk} (hts : ∀ t ∈ ts, tokC t = 0) : runOf blankB (joinS (ts.map tokS) spS) 0 = nextP ts 0 := by
  unfold nextP
  split
  · rename_i h
    have := skip_tok hts h
    rwa [show offW (ts.map tokS) 0 = 0 by unfold offW; rfl] at this ⊢
  · rename_i h
    have : ts = [] := List.eq_nil_of_length_eq_zero (by omega)
    subst this
    rfl
theorem skip_next {ts : List Tk} (hts : ∀ t ∈ ts, tokC t = 0) {i : Nat} (h : i < ts.length) : runOf blankB (joinS (ts.map tokS) spS) (offW (ts.map tokS) i + (tokS (ts.getD i default)).size) = nextP ts (i + 1) := by
  have hs := sits_tok h
  have hst := offW_step (ts.map tokS) i (by simpa using h)
  rw [ws_at ts h] at hst
  unfold nextP
  by_cases h1 : i + 1 < ts.length
  · rw [if_pos h1]
    have h2 := (sits_tok h1).fits
    have h3 := (tok_first (hts _ (getD_mem' h1))).1
    rcases hs.stop with h4 | ⟨h4, h5⟩
    · omega
    · rw [runOf_step h4 (by rw [h5]; decide), show offW (ts.map tokS) i + (tokS (ts.getD i default)).size + 1 = offW (ts.map tokS) (i + 1) by omega]
      exact skip_tok hts h1
  · rw [if_neg h1]
    have hj := join_size (ts.map tokS) (by intro e; rw [List.map_eq_nil_iff] at e; subst e; simp at h)
    rw [List.length_map, show ts.length = i + 1 by omega, hst] at hj
    rw [show offW (ts.map tokS) i + (tokS (ts.getD i default)).size = (joinS (ts.map tokS) spS).size by omega, runOf_stop (by rintro ⟨a, _⟩; omega)]

set_option maxHeartbeats 4000000 in
theorem LexProgram_big (s : ByteArray) (hs : s.size ≤ 1048576) (h : 4000 < s.size) : Fun env.P 8 [dS s] (.d (.agg [dI 2, dI 0, toksD []])) [] := by
  refine Fun.intro Tryz.func8 rfl (by kernel_rfl) rfl ?_
  repeat' (first | refine W.seq ?_ | refine W.rg ?_ | refine W.dra' ?_ | refine W.block ?_ | refine W.skip ?_ | refine W.exit ?_ | refine W.cond_true' ?_ | refine W.cond_false' ?_ | refine WG.nil ?_ | refine WG.run' (E := env) ?_ | refine WG.gt' ?_ | refine WG.gf' ?_ | refine WG.ixm' (E := env) ?_ | refine WG.ixo' (E := env) ?_ | refine WG.legm' (E := env) ?_ | refine WG.slS' (E := env) ?_ | refine WG.slD' (E := env) ?_ | refine WG.ap' (E := env) ?_ | refine WD.nil ?_ | refine WD.bs' (E := env) ?_ | refine WD.s' (E := env) (t := .d _) ?_ | refine WD.p' ?_ | refine WD.px' ?_ | refine WD.s' (E := env) (t := .ea _ _) ?_ | refine WD.s' (E := env) (t := .lp _ _) ?_ | refine WD.s' (E := env) (t := .og _ _) ?_ | refine WD.s' (E := env) (t := .agg _) ?_ | refine WD.s' (E := env) (t := .tup _) ?_ | refine WD.s' (E := env) (t := .clo _ _) ?_ | refine WD.ixm' (E := env) ?_ | refine WD.ixo' (E := env) ?_ | refine WD.legm' (E := env) ?_ | refine WD.slS' (E := env) ?_ | refine WD.slD' (E := env) ?_ | ((first | refine WG.sp' (fun h => ?_) fun h => ?_ | refine W.cond' (fun h => ?_) fun h => ?_ | refine WD.sp' (fun h => ?_) fun h => ?_) <;> (try simp only [decide_eq_true_eq, decide_eq_false_iff_not, Bool.not_eq_true', Bool.not_eq_false', Bool.and_eq_true, Bool.or_eq_true, Bool.and_eq_false_iff, Bool.or_eq_false_iff, Bool.not_eq_true, Bool.not_eq_false, Int.not_lt, Int.not_le, List.length_map, beq_self_eq_true, Bool.true_eq_false, Bool.false_eq_true] at h) <;> (try (exfalso; first | contradiction | omega))))
  all_goals first | (exfalso; omega) | skip
  all_goals (refine W.ret ?_; (first | refine RetQ.b' ?_ | refine RetQ.i' ?_ | refine RetQ.d' ?_ | refine RetQ.t2' ?_ ?_ | refine RetQ.t3' ?_ ?_ ?_))
  all_goals rfl

set_option maxHeartbeats 8000000 in
theorem LexProgram_fn (ts : List Tk) (hts : ∀ t ∈ ts, tokC t = 0) (hl : ts.length ≤ 300) (hs : (joinS (ts.map tokS) spS).size ≤ 4000) :
    Fun env.P 8 [dS (joinS (ts.map tokS) spS)] (.d (.agg [dI 0, dI 0, toksD (lexL ts)])) [] := by
  have h0 := skipBlanksAt_fn (joinS (ts.map tokS) spS) 0 (by omega) (by omega)
  rw [skip_zero hts, show ((0 : Nat) : Int) = 0 by omega] at h0
  have hn : ∀ i, i < ts.length → ∀ q : Int, q = offW (ts.map tokS) i → Fun env.P 14 [dS (joinS (ts.map tokS) spS), dI (q + ((tokS (ts.getD i default)).size : Int))] (.d (dI (nextP ts (i + 1)))) [] := fun i hi q hq => by
    have h1 := (sits_tok hi).fits
    have := skipBlanksAt_fn (joinS (ts.map tokS) spS) (offW (ts.map tokS) i + (tokS (ts.getD i default)).size) (by omega) h1
    rw [skip_next hts hi, Int.natCast_add] at this
    subst hq
    exact this
  have hx : ∀ i, i < ts.length → ∀ q : Int, q = offW (ts.map tokS) i → Fun env.P 15 [dS (joinS (ts.map tokS) spS), dI q] (.d (lexR (ts.getD i default) (offW (ts.map tokS) i))) [] := fun i hi q hq => by
    subst hq
    exact lexAt_fn _ _ _ (by omega) (hts _ (getD_mem' hi)) (sits_tok hi)
  have hlt : ∀ i, i < ts.length → ((nextP ts i : Nat) : Int) = offW (ts.map tokS) i ∧ offW (ts.map tokS) i + (tokS (ts.getD i default)).size ≤ (joinS (ts.map tokS) spS).size ∧ 0 < (tokS (ts.getD i default)).size := fun i hi => by
    have h1 := (sits_tok hi).fits
    have h3 := (tok_first (hts _ (getD_mem' hi))).1
    refine ⟨?_, h1, h3⟩
    unfold nextP
    rw [if_pos hi]
  have hend : ((nextP ts ts.length : Nat) : Int) = (joinS (ts.map tokS) spS).size := by
    unfold nextP
    rw [if_neg (by omega)]
  unfold lexR at hx
  generalize joinS (ts.map tokS) spS = s at *
  refine Fun.intro Tryz.func8 rfl (by kernel_rfl) rfl ?_
  repeat' (first | refine W.seq ?_ | refine W.rg ?_ | refine W.dra' ?_ | refine W.block ?_ | refine W.skip ?_ | refine W.exit ?_ | refine W.cond_true' ?_ | refine W.cond_false' ?_ | refine WG.nil ?_ | refine WG.run' (E := env) ?_ | refine WG.gt' ?_ | refine WG.gf' ?_ | refine WG.ixm' (E := env) ?_ | refine WG.ixo' (E := env) ?_ | refine WG.legm' (E := env) ?_ | refine WG.slS' (E := env) ?_ | refine WG.slD' (E := env) ?_ | refine WG.ap' (E := env) ?_ | refine WD.nil ?_ | refine WD.bs' (E := env) ?_ | refine WD.s' (E := env) (t := .d _) ?_ | refine WD.p' ?_ | refine WD.px' ?_ | refine WD.s' (E := env) (t := .ea _ _) ?_ | refine WD.s' (E := env) (t := .lp _ _) ?_ | refine WD.s' (E := env) (t := .og _ _) ?_ | refine WD.s' (E := env) (t := .agg _) ?_ | refine WD.s' (E := env) (t := .tup _) ?_ | refine WD.s' (E := env) (t := .clo _ _) ?_ | refine WD.ixm' (E := env) ?_ | refine WD.ixo' (E := env) ?_ | refine WD.legm' (E := env) ?_ | refine WD.slS' (E := env) ?_ | refine WD.slD' (E := env) ?_ | refine WG.c (E := env) rfl rfl (h0) rfl rfl ?_ | refine WD.c (E := env) rfl rfl (h0) rfl rfl ?_ | refine WG.co (E := env) rfl rfl (h0) rfl rfl rfl rfl ?_ | refine WG.cx (E := env) rfl (h0) rfl ?_ | ((first | refine WG.sp' (fun h => ?_) fun h => ?_ | refine W.cond' (fun h => ?_) fun h => ?_ | refine WD.sp' (fun h => ?_) fun h => ?_) <;> (try simp only [decide_eq_true_eq, decide_eq_false_iff_not, Bool.not_eq_true', Bool.not_eq_false', Bool.and_eq_true, Bool.or_eq_true, Bool.and_eq_false_iff, Bool.or_eq_false_iff, Bool.not_eq_true, Bool.not_eq_false, Int.not_lt, Int.not_le, List.length_map, beq_self_eq_true, Bool.true_eq_false, Bool.false_eq_true] at h) <;> (try (exfalso; first | contradiction | omega))))
  all_goals first | (exfalso; omega) | skip
  refine W.loopI (fun m S => ∃ (i : Nat) (q : Int) (rb : List (List D)), m = ts.length - i ∧ (i ≤ ts.length ∧ q = (nextP ts i : Nat) ∧ rb.length = i ∧ rb = (List.range i).map fun j => (lexK ts j).row) ∧ S = ⟨ofL [(0, vS s), (2, .lp 0 0), (3, .og 1 0), (4, vI .i64 q)], [.pv [.d (dI 0), .d (dI 0), .d (.nl 4)], .gr 4 33 rb 0 false]⟩) _ _ ⟨0, (nextP ts 0 : Nat), [], rfl, ⟨by omega, rfl, rfl, rfl⟩, rfl⟩ (St.imp.of_le (by (refine le_ofL rfl ?_ ?_ <;> (repeat (first | exact trivial | refine ⟨⟨rfl, rfl⟩, ?_⟩ | refine ⟨rfl, .inl rfl, ?_⟩ | refine ⟨rfl, .inr rfl, ?_⟩))))) ?_
  rintro m S ⟨i, q, rb, rfl, ⟨hi, hq, hrl, hrb⟩, rfl⟩
  by_cases hil : i < ts.length
  · obtain ⟨g1, g2, g3⟩ := hlt i hil
    have hqo : q = offW (ts.map tokS) i := by rw [hq, g1]
    have hx := hx i hil q hqo
    have hn := hn i hil q hqo
    have hrow : (List.range (i + 1)).map (fun j => (lexK ts j).row) = rb ++ [[dI (ts.getD i default).kind, dI q, dI (ts.getD i default).num, dS (ts.getD i default).text]] := by
      rw [List.range_succ, List.map_append, ← hrb, hqo]
      rfl
    obtain ⟨q2, hq2⟩ : ∃ q2, q2 = nextP ts (i + 1) := ⟨_, rfl⟩
    rw [← hq2] at hn
    generalize hbad : (if (ts.getD i default).kind = 1 then ((offW (ts.map tokS) i : Nat) : Int) else 0) = bad at hx
    generalize (tokS (ts.getD i default)).size = z at *
    generalize ts.getD i default = t at *
    obtain ⟨kk, pp, nn, xx⟩ := t
    dsimp only at *
    repeat' (first | (refine W.dre' (id := 13) [4] (fun f => bif bt f 1 then [.pv [.d (dI 0), .d (dI 0), .d (.nl 4)], .gr 4 33 (rb ++ [[dI kk, dI q, dI nn, dS xx]]) 1 false, .pv [.d (dI kk), .d (dI q), .d (dI nn), .d (dS xx), .d (dI z), .d (dI 0), .d (dI bad)]] else [.pv [.d (dI 0), .d (dI 0), .d (.nl 4)], .gr 4 33 rb 0 false, .pv [.d (dI kk), .d (dI q), .d (dI nn), .d (dS xx), .d (dI z), .d (dI 0), .d (dI bad)]]) [(0, [0]), (0, [0]), (0, [0]), (0, [0]), (1, [0]), (0, [0, 1]), (0, [0, 1]), (0, [0, 1]), (0, [0, 1]), (0, [1]), (0, [1])] [.pv [.d (dI 0), .d (dI 0), .d (.nl 4)], .gr 4 33 (rb ++ [[dI kk, dI q, dI nn, dS xx]]) 1 false, .pv [.d (dI kk), .d (dI q), .d (dI nn), .d (dS xx), .d (dI z), .d (dI 0), .d (dI bad)]] ?_) | refine WE.nil ?_ | refine WE.ixP' ?_ | refine WE.s' (E := env) (t := .d _) ?_ | refine WE.p' ?_ | refine WE.px' ?_ | refine WE.s' (E := env) (t := .lp _ _) ?_ | refine WE.s' (E := env) (t := .og _ _) ?_ | refine WE.s' (E := env) (t := .ea _ _) ?_ | refine WE.s' (E := env) (t := .agg _) ?_ | refine WE.s' (E := env) (t := .tup _) ?_ | refine WE.ixm' (E := env) ?_ | refine WE.ixo' (E := env) ?_ | refine WE.leg' (E := env) ?_ | refine WE.slS' (E := env) ?_ | refine WE.slD' (E := env) ?_ | refine WE.ap' (E := env) ?_ | refine WE.st' (E := env) ?_ | refine WE.seg' (E := env) ?_ | refine WE.bs' (E := env) ?_ | refine W.seq ?_ | refine W.rg ?_ | refine W.dra' ?_ | refine W.block ?_ | refine W.skip ?_ | refine W.exit ?_ | refine W.cond_true' ?_ | refine W.cond_false' ?_ | refine WG.nil ?_ | refine WG.run' (E := env) ?_ | refine WG.gt' ?_ | refine WG.gf' ?_ | refine WG.ixm' (E := env) ?_ | refine WG.ixo' (E := env) ?_ | refine WG.legm' (E := env) ?_ | refine WG.slS' (E := env) ?_ | refine WG.slD' (E := env) ?_ | refine WG.ap' (E := env) ?_ | refine WD.nil ?_ | refine WD.bs' (E := env) ?_ | refine WD.s' (E := env) (t := .d _) ?_ | refine WD.p' ?_ | refine WD.px' ?_ | refine WD.s' (E := env) (t := .ea _ _) ?_ | refine WD.s' (E := env) (t := .lp _ _) ?_ | refine WD.s' (E := env) (t := .og _ _) ?_ | refine WD.s' (E := env) (t := .agg _) ?_ | refine WD.s' (E := env) (t := .tup _) ?_ | refine WD.s' (E := env) (t := .clo _ _) ?_ | refine WD.ixm' (E := env) ?_ | refine WD.ixo' (E := env) ?_ | refine WD.legm' (E := env) ?_ | refine WD.slS' (E := env) ?_ | refine WD.slD' (E := env) ?_ | refine WG.c (E := env) rfl rfl (hx) rfl rfl ?_ | refine WD.c (E := env) rfl rfl (hx) rfl rfl ?_ | refine WG.co (E := env) rfl rfl (hx) rfl rfl rfl rfl ?_ | refine WG.cx (E := env) rfl (hx) rfl ?_ | refine WG.c (E := env) rfl rfl (hn) rfl rfl ?_ | refine WD.c (E := env) rfl rfl (hn) rfl rfl ?_ | refine WG.co (E := env) rfl rfl (hn) rfl rfl rfl rfl ?_ | refine WG.cx (E := env) rfl (hn) rfl ?_ | ((first | refine WG.sp' (fun h => ?_) fun h => ?_ | refine W.cond' (fun h => ?_) fun h => ?_ | refine WD.sp' (fun h => ?_) fun h => ?_) <;> (try simp only [decide_eq_true_eq, decide_eq_false_iff_not, Bool.not_eq_true', Bool.not_eq_false', Bool.and_eq_true, Bool.or_eq_true, Bool.and_eq_false_iff, Bool.or_eq_false_iff, Bool.not_eq_true, Bool.not_eq_false, Int.not_lt, Int.not_le, List.length_map, beq_self_eq_true, Bool.true_eq_false, Bool.false_eq_true] at h) <;> (try (exfalso; first | contradiction | omega))))
    all_goals first | (exfalso; omega) | skip
    exact ⟨_, _, by omega, ⟨i + 1, q2, rb ++ [[dI kk, dI q, dI nn, dS xx]], rfl, ⟨by omega, by rw [hq2], by simp [hrl], hrow.symm⟩, rfl⟩, (St.imp.rev 1 1 rfl).trans (St.imp.of_le (by (refine le_ofL rfl ?_ ?_ <;> (repeat (first | exact trivial | refine ⟨⟨rfl, rfl⟩, ?_⟩ | refine ⟨rfl, .inl rfl, ?_⟩ | refine ⟨rfl, .inr rfl, ?_⟩)))))⟩
  · obtain rfl : i = ts.length := by omega
    have hqs : q = s.size := by rw [hq, hend]
    repeat' (first | refine W.pubD 1 rfl ?_ | refine W.seq ?_ | refine W.rg ?_ | refine W.dra' ?_ | refine W.block ?_ | refine W.skip ?_ | refine W.exit ?_ | refine W.cond_true' ?_ | refine W.cond_false' ?_ | refine WG.nil ?_ | refine WG.run' (E := env) ?_ | refine WG.gt' ?_ | refine WG.gf' ?_ | refine WG.ixm' (E := env) ?_ | refine WG.ixo' (E := env) ?_ | refine WG.legm' (E := env) ?_ | refine WG.slS' (E := env) ?_ | refine WG.slD' (E := env) ?_ | refine WG.ap' (E := env) ?_ | refine WD.nil ?_ | refine WD.bs' (E := env) ?_ | refine WD.s' (E := env) (t := .d _) ?_ | refine WD.p' ?_ | refine WD.px' ?_ | refine WD.s' (E := env) (t := .ea _ _) ?_ | refine WD.s' (E := env) (t := .lp _ _) ?_ | refine WD.s' (E := env) (t := .og _ _) ?_ | refine WD.s' (E := env) (t := .agg _) ?_ | refine WD.s' (E := env) (t := .tup _) ?_ | refine WD.s' (E := env) (t := .clo _ _) ?_ | refine WD.ixm' (E := env) ?_ | refine WD.ixo' (E := env) ?_ | refine WD.legm' (E := env) ?_ | refine WD.slS' (E := env) ?_ | refine WD.slD' (E := env) ?_ | fail | ((first | refine WG.sp' (fun h => ?_) fun h => ?_ | refine W.cond' (fun h => ?_) fun h => ?_ | refine WD.sp' (fun h => ?_) fun h => ?_) <;> (try simp only [decide_eq_true_eq, decide_eq_false_iff_not, Bool.not_eq_true', Bool.not_eq_false', Bool.and_eq_true, Bool.or_eq_true, Bool.and_eq_false_iff, Bool.or_eq_false_iff, Bool.not_eq_true, Bool.not_eq_false, Int.not_lt, Int.not_le, List.length_map, beq_self_eq_true, Bool.true_eq_false, Bool.false_eq_true] at h) <;> (try (exfalso; first | contradiction | omega))))
    all_goals first | (exfalso; omega) | skip
    (refine W.ret ?_; (first | refine RetQ.b' ?_ | refine RetQ.i' ?_ | refine RetQ.d' ?_ | refine RetQ.t2' ?_ ?_ | refine RetQ.t3' ?_ ?_ ?_))
    unfold lexL toksD
    rw [List.map_map]
    subst hrb
    rfl

end Go.Proofs.YthaakpbdijhgiaaGreatDoor
