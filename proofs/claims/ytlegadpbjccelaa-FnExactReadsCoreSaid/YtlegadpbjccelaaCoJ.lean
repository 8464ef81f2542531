/-
  The names that a core reads, by the program and by the reference. Conditions: cells of at most 2^20 bytes.
-/
import Derived.Test.YtlegadpbjccelaaMk3
import Derived.Test.YtlegadpbjccelaaSl1
import Derived.Test.YtlegadpbjccelaaSo2
import Derived.Test.YtlegadpbjccelaaCl1
import Derived.Test.YtlegadpbjccelaaSo1
import Derived.Test.YtlegadpbjccelaaCoC
import Derived.Test.YtlegadpbjccelaaP1
set_option linter.unusedVariables false
set_option linter.unusedSimpArgs false
set_option maxRecDepth 100000
namespace Go.Proofs.Ytlegadpbjccelaa
open Go.RowKit

/-- The node that the second name of a node is; the first cell of its value. -/
def bN (cs : List Co) (i : Nat) : Co := cs.getD (Int.toNat (cs.getD i default).b) default
def tN (cs : List Co) (i : Nat) : ByteArray := ((bN cs i).val.getD 0 default).text
def readP (cs : List Co) (i : Nat) : Option ByteArray := if (cs.getD i default).op = 7 ∧ (bN cs i).op = 2 ∧ ((bN cs i).val.getD 0 default).kind = 4 then some (tN cs i) else none
noncomputable def readsL (cs : List Co) : List ByteArray := if coreM cs = 0 then gI (readP cs) cs.length else []

theorem coreC_val {n : Co} {k : Nat} (h : coreC n k = 0) (hv : n.op = 2) : (valOfM n.val).2 = 0 := by
  unfold coreC at h
  split at h
  · cases h
  split at h
  · cases h
  split at h
  · rename_i h1; exact absurd h h1.2
  · rename_i h1
    by_cases e : (valOfM n.val).2 = 0
    · exact e
    · exact absurd ⟨by rw [hv]; rfl, e⟩ h1

theorem reads_named {cs : List Co} (h : coreM cs = 0) {i : Nat} (hi : i < cs.length) (h7 : (cs.getD i default).op = 7) : 0 ≤ (cs.getD i default).b ∧ (cs.getD i default).b < i := by
  have hc := firstK_zero (coreM_ok h).2.1 i (by omega) (by omega)
  refine coreC_named (ns := cs) hc (cs.getD i default).b ?_
  show (cs.getD i default).b ∈ (cs.getD i default).named
  unfold Co.named arC
  rw [h7]
  simp

theorem reads_val {cs : List Co} (h : coreM cs = 0) {i : Nat} (hi : i < cs.length) (h7 : (cs.getD i default).op = 7) (h2 : (bN cs i).op = 2) : (valOfM (bN cs i).val).2 = 0 := by
  obtain ⟨h3, h4⟩ := reads_named h hi h7
  exact coreC_val (firstK_zero (coreM_ok h).2.1 (Int.toNat (cs.getD i default).b) (by omega) (by omega)) h2

theorem V.cells_hd (v : V) : v.cells.getD 0 default = ⟨v.kind, v.num, v.text, noS, (v.kids.length : Int)⟩ ∧ 1 ≤ v.cells.length := by cases v; exact ⟨rfl, by simp [V.cells, V.cellsK]⟩
theorem valOfM_first {cs : List Cell} (h : (valOfM cs).2 = 0) : (cs.getD 0 default).kind = (valOfM cs).1.kind ∧ (cs.getD 0 default).text = (valOfM cs).1.text ∧ 1 ≤ cs.length := by
  obtain ⟨_, hc, _⟩ := valOfM_cells h
  obtain ⟨h1, h2⟩ := V.cells_hd (valOfM cs).1
  rw [← hc] at h1 h2
  rw [h1]
  exact ⟨rfl, rfl, h2⟩

set_option maxHeartbeats 8000000 in
theorem ReadsCore_fn (cs : List Co) (hf : fitsK cs) : Fun env.P 69 [coresD cs] (.agg [vI .i64 (coreM cs), .og 0 0]) [.gr 1 9 ((readsL cs).map keyRow) 0 false] := by
  have ht := CoreFault_fn cs hf.2 hf.1
  have hl := hf.2
  have hnm := @reads_named cs
  have hrv := @reads_val cs
  unfold readsL
  generalize coreM cs = c at ht hnm hrv
  by_cases hc : c = 0
  · subst hc
    rw [if_pos rfl]
    replace hnm := fun {i} => @hnm rfl i
    replace hrv := fun {i} => @hrv rfl i
    refine Fun.intro Try.func69 rfl (by kernel_rfl) rfl ?_
    repeat' (first | refine W.seq ?_ | refine W.rg ?_ | refine W.dra' ?_ | refine W.block ?_ | refine W.skip ?_ | refine W.exit ?_ | refine W.cond_true' ?_ | refine W.cond_false' ?_ | refine WG.nil ?_ | refine WG.run' (E := env) ?_ | refine WG.gt' ?_ | refine WG.gf' ?_ | refine WG.ixm' (E := env) ?_ | refine WG.ixo' (E := env) ?_ | refine WG.legm' (E := env) ?_ | refine WG.slS' (E := env) ?_ | refine WG.slD' (E := env) ?_ | refine WG.ap' (E := env) ?_ | refine WD.nil ?_ | refine WD.bs' (E := env) ?_ | refine WD.s' (E := env) (t := .d _) ?_ | refine WD.p' ?_ | refine WD.px' ?_ | refine WD.s' (E := env) (t := .ea _ _) ?_ | refine WD.s' (E := env) (t := .lp _ _) ?_ | refine WD.s' (E := env) (t := .og _ _) ?_ | refine WD.s' (E := env) (t := .agg _) ?_ | refine WD.s' (E := env) (t := .tup _) ?_ | refine WD.s' (E := env) (t := .clo _ _) ?_ | refine WD.ixm' (E := env) ?_ | refine WD.ixo' (E := env) ?_ | refine WD.legm' (E := env) ?_ | refine WD.slS' (E := env) ?_ | refine WD.slD' (E := env) ?_ | refine WG.c (E := env) rfl rfl (ht) rfl rfl ?_ | refine WD.c (E := env) rfl rfl (ht) rfl rfl ?_ | refine WG.co (E := env) rfl rfl (ht) rfl rfl rfl rfl ?_ | refine WG.cx (E := env) rfl (ht) rfl ?_ | ((first | refine WG.sp' (fun h => ?_) fun h => ?_ | refine W.cond' (fun h => ?_) fun h => ?_ | refine WD.sp' (fun h => ?_) fun h => ?_) <;> (try simp only [decide_eq_true_eq, decide_eq_false_iff_not, Bool.not_eq_true', Bool.not_eq_false', Bool.and_eq_true, Bool.or_eq_true, Bool.and_eq_false_iff, Bool.or_eq_false_iff, Bool.not_eq_true, Bool.not_eq_false, Int.not_lt, Int.not_le, List.length_map, beq_self_eq_true, Bool.true_eq_false, Bool.false_eq_true] at h) <;> (try (exfalso; first | contradiction | omega))))
    refine W.loopI (fun m S => ∃ (i : Nat) (rv : List (List D)), m = cs.length - i ∧ (i ≤ cs.length ∧ rv = (gD (readP cs) i).map keyRow) ∧ S = ⟨ofL [(0, .d (coresD cs)), (2, .lp 0 0), (4, .og 1 0), (16, .d (coresD cs)), (17, vI .i64 (cs.map Co.row).length), (18, vI .i64 i)], [.pv [.d (dI 0), .d (.nl 1)], .gr 1 9 rv 0 false]⟩) _ _ ⟨0, [], rfl, ⟨by omega, rfl⟩, rfl⟩ (St.imp.of_le (by (refine le_ofL rfl ?_ ?_ <;> (repeat (first | exact trivial | refine ⟨⟨rfl, rfl⟩, ?_⟩ | refine ⟨rfl, .inl rfl, ?_⟩ | refine ⟨rfl, .inr rfl, ?_⟩))))) ?_
    rintro m S ⟨i, rv, rfl, ⟨hi, rfl⟩, rfl⟩
    have hdl := gD_len (readP cs) i
    by_cases hin : i < cs.length
    · have hn : cs.getD (Int.toNat (i : Int)) default = cs.getD i default := by simp
      by_cases h7 : (cs.getD i default).op = 7
      · have hb := hnm hin h7
        have hrp : readP cs i = if (bN cs i).op = 2 ∧ ((bN cs i).val.getD 0 default).kind = 4 then some (tN cs i) else none := by simp only [readP, h7, true_and]
        have hbf : (bN cs i).fine := hf.1 _ (getD_mem' (by omega))
        by_cases h2 : (bN cs i).op = 2
        · have hv0 := hrv hin h7 h2
          obtain ⟨e1, e2, e3⟩ := valOfM_first hv0
          have hvo := (valOf_fn (bN cs i).val hbf.1 hbf.2).cast rfl (show _ = T.tup [.d (.agg (valOfM (bN cs i).val).1.rowP), .d (dI (valOfM (bN cs i).val).2)] by rw [V.row_eq]) rfl
          have hct := containsS_fn (gD (readP cs) i) (valOfM (bN cs i).val).1.text (by omega)
          rw [hv0] at hvo
          have h7' : (cs.getD (Int.toNat (i : Int)) default).op = 7 := by rw [hn]; exact h7
          have hbb : 0 ≤ (cs.getD (Int.toNat (i : Int)) default).b ∧ (cs.getD (Int.toNat (i : Int)) default).b < (cs.length : Int) := by rw [hn]; omega
          have h2' : (cs.getD (Int.toNat (cs.getD (Int.toNat (i : Int)) default).b) default).op = 2 := by rw [hn]; exact h2
          have hvo' : Fun env.P 92 [cellsD (cs.getD (Int.toNat (cs.getD (Int.toNat (i : Int)) default).b) default).val] (.tup [.d (.agg (valOfM (bN cs i).val).1.rowP), .d (dI 0)]) [] := by rw [hn]; exact hvo
          have ht4 : (valOfM (bN cs i).val).1.kind = 4 → readP cs i = some (valOfM (bN cs i).val).1.text := fun h => by rw [hrp, if_pos ⟨h2, by rw [e1]; exact h⟩, tN, e2]
          have ht5 : ¬ (valOfM (bN cs i).val).1.kind = 4 → readP cs i = none := fun h => by rw [hrp, if_neg fun hh => h (by rw [← e1]; exact hh.2)]
          repeat' (first | refine W.seq ?_ | refine W.rg ?_ | refine W.dra' ?_ | refine W.block ?_ | refine W.skip ?_ | refine W.exit ?_ | refine W.cond_true' ?_ | refine W.cond_false' ?_ | refine WG.nil ?_ | refine WG.run' (E := env) ?_ | refine WG.gt' ?_ | refine WG.gf' ?_ | refine WG.ixm' (E := env) ?_ | refine WG.ixo' (E := env) ?_ | refine WG.legm' (E := env) ?_ | refine WG.slS' (E := env) ?_ | refine WG.slD' (E := env) ?_ | refine WG.ap' (E := env) ?_ | refine WD.nil ?_ | refine WD.bs' (E := env) ?_ | refine WD.s' (E := env) (t := .d _) ?_ | refine WD.p' ?_ | refine WD.px' ?_ | refine WD.s' (E := env) (t := .ea _ _) ?_ | refine WD.s' (E := env) (t := .lp _ _) ?_ | refine WD.s' (E := env) (t := .og _ _) ?_ | refine WD.s' (E := env) (t := .agg _) ?_ | refine WD.s' (E := env) (t := .tup _) ?_ | refine WD.s' (E := env) (t := .clo _ _) ?_ | refine WD.ixm' (E := env) ?_ | refine WD.ixo' (E := env) ?_ | refine WD.legm' (E := env) ?_ | refine WD.slS' (E := env) ?_ | refine WD.slD' (E := env) ?_ | refine WG.c (E := env) rfl rfl (hvo') rfl rfl ?_ | refine WD.c (E := env) rfl rfl (hvo') rfl rfl ?_ | refine WG.co (E := env) rfl rfl (hvo') rfl rfl rfl rfl ?_ | refine WG.cx (E := env) rfl (hvo') rfl ?_ | refine WG.cL (E := env) rfl rfl (hct) rfl rfl rfl rfl ?_ | ((first | refine WG.sp' (fun h => ?_) fun h => ?_ | refine W.cond' (fun h => ?_) fun h => ?_ | refine WD.sp' (fun h => ?_) fun h => ?_) <;> (try simp only [decide_eq_true_eq, decide_eq_false_iff_not, Bool.not_eq_true', Bool.not_eq_false', Bool.and_eq_true, Bool.or_eq_true, Bool.and_eq_false_iff, Bool.or_eq_false_iff, Bool.not_eq_true, Bool.not_eq_false, Int.not_lt, Int.not_le, List.length_map, beq_self_eq_true, Bool.true_eq_false, Bool.false_eq_true] at h) <;> (try (exfalso; first | contradiction | omega))))
          all_goals first
            | (refine ⟨_, _, by omega, ⟨i + 1, (gD (readP cs) i).map keyRow ++ [keyRow (valOfM (bN cs i).val).1.text], rfl, ⟨by omega, ?_⟩, rfl⟩, (St.imp.rev 1 1 rfl).trans (St.imp.of_le (by (refine le_ofL rfl ?_ ?_ <;> (repeat (first | exact trivial | refine ⟨⟨rfl, rfl⟩, ?_⟩ | refine ⟨rfl, .inl rfl, ?_⟩ | refine ⟨rfl, .inr rfl, ?_⟩)))))⟩
               rw [gD_step (ht4 (by assumption)) (by assumption), List.map_append]
               rfl)
            | (refine ⟨_, _, by omega, ⟨i + 1, (gD (readP cs) i).map keyRow, rfl, ⟨by omega, ?_⟩, rfl⟩, (St.imp.of_le (by (refine le_ofL rfl ?_ ?_ <;> (repeat (first | exact trivial | refine ⟨⟨rfl, rfl⟩, ?_⟩ | refine ⟨rfl, .inl rfl, ?_⟩ | refine ⟨rfl, .inr rfl, ?_⟩)))))⟩
               first | rw [gD_same (ht4 (by assumption)) (by assumption)] | rw [gD_none (ht5 (by assumption))])
        · have h7' : (cs.getD (Int.toNat (i : Int)) default).op = 7 := by rw [hn]; exact h7
          have hbb : 0 ≤ (cs.getD (Int.toNat (i : Int)) default).b ∧ (cs.getD (Int.toNat (i : Int)) default).b < (cs.length : Int) := by rw [hn]; omega
          have h2' : ¬ (cs.getD (Int.toNat (cs.getD (Int.toNat (i : Int)) default).b) default).op = 2 := by rw [hn]; exact h2
          repeat' (first | refine W.seq ?_ | refine W.rg ?_ | refine W.dra' ?_ | refine W.block ?_ | refine W.skip ?_ | refine W.exit ?_ | refine W.cond_true' ?_ | refine W.cond_false' ?_ | refine WG.nil ?_ | refine WG.run' (E := env) ?_ | refine WG.gt' ?_ | refine WG.gf' ?_ | refine WG.ixm' (E := env) ?_ | refine WG.ixo' (E := env) ?_ | refine WG.legm' (E := env) ?_ | refine WG.slS' (E := env) ?_ | refine WG.slD' (E := env) ?_ | refine WG.ap' (E := env) ?_ | refine WD.nil ?_ | refine WD.bs' (E := env) ?_ | refine WD.s' (E := env) (t := .d _) ?_ | refine WD.p' ?_ | refine WD.px' ?_ | refine WD.s' (E := env) (t := .ea _ _) ?_ | refine WD.s' (E := env) (t := .lp _ _) ?_ | refine WD.s' (E := env) (t := .og _ _) ?_ | refine WD.s' (E := env) (t := .agg _) ?_ | refine WD.s' (E := env) (t := .tup _) ?_ | refine WD.s' (E := env) (t := .clo _ _) ?_ | refine WD.ixm' (E := env) ?_ | refine WD.ixo' (E := env) ?_ | refine WD.legm' (E := env) ?_ | refine WD.slS' (E := env) ?_ | refine WD.slD' (E := env) ?_ | ((first | refine WG.sp' (fun h => ?_) fun h => ?_ | refine W.cond' (fun h => ?_) fun h => ?_ | refine WD.sp' (fun h => ?_) fun h => ?_) <;> (try simp only [decide_eq_true_eq, decide_eq_false_iff_not, Bool.not_eq_true', Bool.not_eq_false', Bool.and_eq_true, Bool.or_eq_true, Bool.and_eq_false_iff, Bool.or_eq_false_iff, Bool.not_eq_true, Bool.not_eq_false, Int.not_lt, Int.not_le, List.length_map, beq_self_eq_true, Bool.true_eq_false, Bool.false_eq_true] at h) <;> (try (exfalso; first | contradiction | omega))))
          refine ⟨_, _, by omega, ⟨i + 1, (gD (readP cs) i).map keyRow, rfl, ⟨by omega, ?_⟩, rfl⟩, (St.imp.of_le (by (refine le_ofL rfl ?_ ?_ <;> (repeat (first | exact trivial | refine ⟨⟨rfl, rfl⟩, ?_⟩ | refine ⟨rfl, .inl rfl, ?_⟩ | refine ⟨rfl, .inr rfl, ?_⟩)))))⟩
          rw [gD_none (by rw [hrp, if_neg fun h => h2 h.1])]
      · have h7' : ¬ (cs.getD (Int.toNat (i : Int)) default).op = 7 := by rw [hn]; exact h7
        repeat' (first | refine W.seq ?_ | refine W.rg ?_ | refine W.dra' ?_ | refine W.block ?_ | refine W.skip ?_ | refine W.exit ?_ | refine W.cond_true' ?_ | refine W.cond_false' ?_ | refine WG.nil ?_ | refine WG.run' (E := env) ?_ | refine WG.gt' ?_ | refine WG.gf' ?_ | refine WG.ixm' (E := env) ?_ | refine WG.ixo' (E := env) ?_ | refine WG.legm' (E := env) ?_ | refine WG.slS' (E := env) ?_ | refine WG.slD' (E := env) ?_ | refine WG.ap' (E := env) ?_ | refine WD.nil ?_ | refine WD.bs' (E := env) ?_ | refine WD.s' (E := env) (t := .d _) ?_ | refine WD.p' ?_ | refine WD.px' ?_ | refine WD.s' (E := env) (t := .ea _ _) ?_ | refine WD.s' (E := env) (t := .lp _ _) ?_ | refine WD.s' (E := env) (t := .og _ _) ?_ | refine WD.s' (E := env) (t := .agg _) ?_ | refine WD.s' (E := env) (t := .tup _) ?_ | refine WD.s' (E := env) (t := .clo _ _) ?_ | refine WD.ixm' (E := env) ?_ | refine WD.ixo' (E := env) ?_ | refine WD.legm' (E := env) ?_ | refine WD.slS' (E := env) ?_ | refine WD.slD' (E := env) ?_ | ((first | refine WG.sp' (fun h => ?_) fun h => ?_ | refine W.cond' (fun h => ?_) fun h => ?_ | refine WD.sp' (fun h => ?_) fun h => ?_) <;> (try simp only [decide_eq_true_eq, decide_eq_false_iff_not, Bool.not_eq_true', Bool.not_eq_false', Bool.and_eq_true, Bool.or_eq_true, Bool.and_eq_false_iff, Bool.or_eq_false_iff, Bool.not_eq_true, Bool.not_eq_false, Int.not_lt, Int.not_le, List.length_map, beq_self_eq_true, Bool.true_eq_false, Bool.false_eq_true] at h) <;> (try (exfalso; first | contradiction | omega))))
        refine ⟨_, _, by omega, ⟨i + 1, (gD (readP cs) i).map keyRow, rfl, ⟨by omega, ?_⟩, rfl⟩, (St.imp.of_le (by (refine le_ofL rfl ?_ ?_ <;> (repeat (first | exact trivial | refine ⟨⟨rfl, rfl⟩, ?_⟩ | refine ⟨rfl, .inl rfl, ?_⟩ | refine ⟨rfl, .inr rfl, ?_⟩)))))⟩
        rw [gD_none (by rw [readP, if_neg fun h => h7 h.1])]
    · obtain rfl : i = cs.length := by omega
      have hso := slicesSort_fn (gD (readP cs) cs.length) (by omega)
      rw [srt_gD] at hso
      repeat' (first | refine W.seq ?_ | refine W.rg ?_ | refine W.dra' ?_ | refine W.block ?_ | refine W.skip ?_ | refine W.exit ?_ | refine W.cond_true' ?_ | refine W.cond_false' ?_ | refine WG.nil ?_ | refine WG.run' (E := env) ?_ | refine WG.gt' ?_ | refine WG.gf' ?_ | refine WG.ixm' (E := env) ?_ | refine WG.ixo' (E := env) ?_ | refine WG.legm' (E := env) ?_ | refine WG.slS' (E := env) ?_ | refine WG.slD' (E := env) ?_ | refine WG.ap' (E := env) ?_ | refine WD.nil ?_ | refine WD.bs' (E := env) ?_ | refine WD.s' (E := env) (t := .d _) ?_ | refine WD.p' ?_ | refine WD.px' ?_ | refine WD.s' (E := env) (t := .ea _ _) ?_ | refine WD.s' (E := env) (t := .lp _ _) ?_ | refine WD.s' (E := env) (t := .og _ _) ?_ | refine WD.s' (E := env) (t := .agg _) ?_ | refine WD.s' (E := env) (t := .tup _) ?_ | refine WD.s' (E := env) (t := .clo _ _) ?_ | refine WD.ixm' (E := env) ?_ | refine WD.ixo' (E := env) ?_ | refine WD.legm' (E := env) ?_ | refine WD.slS' (E := env) ?_ | refine WD.slD' (E := env) ?_ | refine WG.cq (E := env) [1] [0] false rfl rfl (hso) rfl rfl rfl rfl rfl rfl rfl (by first | exact trivial | exact ⟨rfl, trivial⟩ | exact ⟨rfl, rfl, trivial⟩) (.inl rfl) rfl (fun h => nomatch h) rfl rfl ?_ | refine WG.cqx (E := env) [1] [0] false rfl (hso) rfl rfl rfl rfl rfl rfl rfl (by first | exact trivial | exact ⟨rfl, trivial⟩ | exact ⟨rfl, rfl, trivial⟩) (.inl rfl) rfl (fun h => nomatch h) rfl ?_ | ((first | refine WG.sp' (fun h => ?_) fun h => ?_ | refine W.cond' (fun h => ?_) fun h => ?_ | refine WD.sp' (fun h => ?_) fun h => ?_) <;> (try simp only [decide_eq_true_eq, decide_eq_false_iff_not, Bool.not_eq_true', Bool.not_eq_false', Bool.and_eq_true, Bool.or_eq_true, Bool.and_eq_false_iff, Bool.or_eq_false_iff, Bool.not_eq_true, Bool.not_eq_false, Int.not_lt, Int.not_le, List.length_map, beq_self_eq_true, Bool.true_eq_false, Bool.false_eq_true] at h) <;> (try (exfalso; first | contradiction | omega))))
      (refine W.ret ?_; first | refine RetR.g' ?_ | refine RetR.ag' ?_ ?_ | refine RetR.agn' ?_ | exact RetR.gn' | refine RetR.ag3' ?_ ?_ ?_ | refine RetR.agn3' ?_ ?_)
      all_goals rfl
  · rw [if_neg hc]
    refine Fun.intro Try.func69 rfl (by kernel_rfl) rfl ?_
    repeat' (first | refine W.seq ?_ | refine W.rg ?_ | refine W.dra' ?_ | refine W.block ?_ | refine W.skip ?_ | refine W.exit ?_ | refine W.cond_true' ?_ | refine W.cond_false' ?_ | refine WG.nil ?_ | refine WG.run' (E := env) ?_ | refine WG.gt' ?_ | refine WG.gf' ?_ | refine WG.ixm' (E := env) ?_ | refine WG.ixo' (E := env) ?_ | refine WG.legm' (E := env) ?_ | refine WG.slS' (E := env) ?_ | refine WG.slD' (E := env) ?_ | refine WG.ap' (E := env) ?_ | refine WD.nil ?_ | refine WD.bs' (E := env) ?_ | refine WD.s' (E := env) (t := .d _) ?_ | refine WD.p' ?_ | refine WD.px' ?_ | refine WD.s' (E := env) (t := .ea _ _) ?_ | refine WD.s' (E := env) (t := .lp _ _) ?_ | refine WD.s' (E := env) (t := .og _ _) ?_ | refine WD.s' (E := env) (t := .agg _) ?_ | refine WD.s' (E := env) (t := .tup _) ?_ | refine WD.s' (E := env) (t := .clo _ _) ?_ | refine WD.ixm' (E := env) ?_ | refine WD.ixo' (E := env) ?_ | refine WD.legm' (E := env) ?_ | refine WD.slS' (E := env) ?_ | refine WD.slD' (E := env) ?_ | refine WG.c (E := env) rfl rfl (ht) rfl rfl ?_ | refine WD.c (E := env) rfl rfl (ht) rfl rfl ?_ | refine WG.co (E := env) rfl rfl (ht) rfl rfl rfl rfl ?_ | refine WG.cx (E := env) rfl (ht) rfl ?_ | ((first | refine WG.sp' (fun h => ?_) fun h => ?_ | refine W.cond' (fun h => ?_) fun h => ?_ | refine WD.sp' (fun h => ?_) fun h => ?_) <;> (try simp only [decide_eq_true_eq, decide_eq_false_iff_not, Bool.not_eq_true', Bool.not_eq_false', Bool.and_eq_true, Bool.or_eq_true, Bool.and_eq_false_iff, Bool.or_eq_false_iff, Bool.not_eq_true, Bool.not_eq_false, Int.not_lt, Int.not_le, List.length_map, beq_self_eq_true, Bool.true_eq_false, Bool.false_eq_true] at h) <;> (try (exfalso; first | contradiction | omega))))
    all_goals (refine W.ret ?_; first | refine RetR.g' ?_ | refine RetR.ag' ?_ ?_ | refine RetR.agn' ?_ | exact RetR.gn' | refine RetR.ag3' ?_ ?_ ?_ | refine RetR.agn3' ?_ ?_)
    all_goals rfl

end Go.Proofs.Ytlegadpbjccelaa
