/-
  The text of a core: its words; numbers and values as words, by the program. Conditions: the table of powers of ten is lent.
-/
import Derived.Test.YtfmhfdegkpbeiaaGreatDoorQCoreTextEn5
import Derived.Test.YtfmhfdegkpbeiaaGreatDoorQCoreTextPgG
import Derived.Test.YtfmhfdegkpbeiaaGreatDoorQCoreTextWq1
set_option linter.unusedVariables false
set_option linter.unusedSimpArgs false
set_option maxRecDepth 100000
namespace Go.Proofs.YtfmhfdegkpbeiaaGreatDoor
open Go.RowKit

def numsK (n : Co) (i : Nat) : List Int := [(i : Int), n.op, n.a, n.b, n.c, n.num]
def wordK (n : Co) (i : Nat) : List ByteArray := (numsK n i).map itoaS
abbrev dashS : ByteArray := ⟨#[45]⟩
noncomputable def valT (n : Co) : ByteArray := if hasVl n.op = true then (valOfM n.val).1.enc else dashS
noncomputable def lineK (n : Co) (i : Nat) : ByteArray := joinS (wordK n i ++ [valT n]) ⟨#[32]⟩ ++ nlS
noncomputable def coreT (cs : List Co) : Nat → ByteArray
  | 0 => ⟨#[]⟩
  | i + 1 => coreT cs i ++ lineK (cs.getD i default) i

theorem kidCB_bound {n : Co} {k i : Nat} (h : kidCB n k i = true) : 0 ≤ kidC n i ∧ kidC n i ≤ k := by
  unfold kidCB at h
  split at h
  · simp only [Bool.and_eq_true, decide_eq_true_eq] at h
    omega
  · rw [decide_eq_true_eq] at h
    omega

theorem coreC_zero {n : Co} {k : Nat} (h : coreC n k = 0) : (1 ≤ n.op ∧ n.op ≤ 17) ∧ formC3 n k = true ∧ (hasVl n.op = true → (valOfM n.val).2 = 0) ∧ numOkC n = true := by
  unfold coreC at h
  split at h
  · exact absurd h (by decide)
  · rename_i h1
    split at h
    · exact absurd h (by decide)
    · rename_i h2
      split at h
      · rename_i h3
        exact absurd h h3.2
      · rename_i h3
        split at h
        · exact absurd h (by decide)
        · split at h
          · exact absurd h (by decide)
          · rename_i h5
            exact ⟨Classical.not_not.1 h1, by simpa using h2, fun hv => Classical.not_not.1 fun e => h3 ⟨hv, e⟩, by simpa using h5⟩

theorem numsK_bound {n : Co} {k : Nat} (h : coreC n k = 0) (hk : k ≤ 1048576) : ∀ x ∈ numsK n k, 0 ≤ x ∧ x ≤ 1048576 := by
  obtain ⟨h1, h2, h3, h4⟩ := coreC_zero h
  unfold formC3 at h2
  simp only [Bool.and_eq_true, Bool.or_eq_true, decide_eq_true_eq] at h2
  obtain ⟨⟨⟨⟨k0, k1⟩, k2⟩, kn⟩, kv⟩ := h2
  have b0 := kidCB_bound k0
  have b1 := kidCB_bound k1
  have b2 := kidCB_bound k2
  have e0 : kidC n 0 = n.a := rfl
  have e1 : kidC n 1 = n.b := rfl
  have e2 : kidC n 2 = n.c := rfl
  have hn : 0 ≤ n.num ∧ n.num ≤ 59 := by
    unfold numOkC at h4
    split at h4
    · simp only [Bool.and_eq_true, decide_eq_true_eq] at h4
      have l0 : 0 ≤ numLoC n.op := by unfold numLoC; split <;> omega
      have l1 : numHiC n.op ≤ 59 := by unfold numHiC; (repeat' split) <;> omega
      omega
    · rename_i hh
      rcases kn with kn | kn
      · exact absurd kn hh
      · omega
  intro x hx
  simp only [numsK, List.mem_cons, List.not_mem_nil, or_false] at hx
  rcases hx with rfl | rfl | rfl | rfl | rfl | rfl <;> omega

theorem val_empty {n : Co} {k : Nat} (h : coreC n k = 0) (hv : hasVl n.op = false) : n.val.length = 0 := by
  obtain ⟨h1, h2, h3, h4⟩ := coreC_zero h
  unfold formC3 at h2
  simp only [Bool.and_eq_true, Bool.or_eq_true, decide_eq_true_eq] at h2
  rcases h2.2 with h | h
  · rw [hv] at h; cases h
  · exact h
theorem val_some {n : Co} {k : Nat} (h : coreC n k = 0) (hv : hasVl n.op = true) : (valOfM n.val).2 = 0 ∧ n.val.length ≠ 0 := by
  obtain ⟨h1, h2, h3, h4⟩ := coreC_zero h
  refine ⟨h3 hv, fun e => ?_⟩
  have := h3 hv
  rw [valOfM, if_pos (by omega)] at this
  exact absurd this (by decide)

theorem word_size {n : Co} {k : Nat} (h : coreC n k = 0) (hk : k ≤ 1048576) : ∀ w ∈ wordK n k, 1 ≤ w.size ∧ w.size ≤ 21 := by
  intro w hw
  obtain ⟨x, hx, rfl⟩ := List.mem_map.1 hw
  have := numsK_bound h hk x hx
  exact itoaS_size x (by omega) (by omega)
theorem valT_size {n : Co} {k : Nat} (h : coreC n k = 0) : (valT n).size ≤ 60000 := by
  unfold valT
  split
  · rename_i hv
    exact V.enc_le (valOfM_fine (val_some h hv).1).1
  · show 1 ≤ 60000
    omega
theorem join_line_size {n : Co} {k : Nat} (h : coreC n k = 0) (hk : k ≤ 1048576) : (joinS (wordK n k ++ [valT n]) ⟨#[32]⟩).size ≤ 420007 := by
  have h1 := joinS_size_le (wordK n k ++ [valT n]) ⟨#[32]⟩ 60000 fun x hx => by
    rcases List.mem_append.1 hx with hx | hx
    · have := word_size h hk x hx; omega
    · rw [List.mem_singleton] at hx
      rw [hx]
      exact valT_size h
  have h2 : (wordK n k ++ [valT n]).length = 7 := rfl
  have h3 : (⟨#[32]⟩ : ByteArray).size = 1 := rfl
  rw [h2, h3] at h1
  exact h1
theorem lineK_size {n : Co} {k : Nat} (h : coreC n k = 0) (hk : k ≤ 1048576) : 1 ≤ (lineK n k).size ∧ (lineK n k).size ≤ 420008 := by
  have h1 := join_line_size h hk
  have h2 : (lineK n k).size = (joinS (wordK n k ++ [valT n]) ⟨#[32]⟩).size + 1 := by unfold lineK; rw [ByteArray.size_append]; rfl
  omega
theorem coreT_size {cs : List Co} (h : ∀ j, j < cs.length → coreC (cs.getD j default) j = 0) (hl : cs.length ≤ 1048576) : ∀ i, i ≤ cs.length → (coreT cs i).size ≤ 420008 * i
  | 0, _ => Nat.le_refl _
  | i + 1, hi => by
    have h1 := coreT_size h hl i (by omega)
    have h2 := lineK_size (h i (by omega)) (by omega)
    rw [coreT, ByteArray.size_append]
    omega

set_option maxHeartbeats 2000000 in
theorem numberTexts_fn (q : TypeId × (Nat × Nat)) (ns : List Int) (hl : ns.length ≤ 1000) (hb : ∀ x ∈ ns, 0 ≤ x ∧ x ≤ 1048576) : FunQ env.P 71 [.d (.sl 1 (ns.map intRow))] [tabO q] (just (.og 1 0) [tabO q, .gr 1 9 ((ns.map itoaS).map keyRow) 0 false]) := by
  refine FunQ.intro Tryz.func71 rfl (by kernel_rfl) rfl ?_
  repeat' (first | refine W.seq ?_ | refine W.rg ?_ | refine W.dra' ?_ | refine W.block ?_ | refine W.skip ?_ | refine W.exit ?_ | refine W.cond_true' ?_ | refine W.cond_false' ?_ | refine WG.nil ?_ | refine WG.run' (E := env) ?_ | refine WG.gt' ?_ | refine WG.gf' ?_ | refine WG.ixm' (E := env) ?_ | refine WG.ixo' (E := env) ?_ | refine WG.legm' (E := env) ?_ | refine WG.slS' (E := env) ?_ | refine WG.slD' (E := env) ?_ | refine WG.ap' (E := env) ?_ | refine WD.nil ?_ | refine WD.bs' (E := env) ?_ | refine WD.s' (E := env) (t := .d _) ?_ | refine WD.p' ?_ | refine WD.px' ?_ | refine WD.s' (E := env) (t := .ea _ _) ?_ | refine WD.s' (E := env) (t := .lp _ _) ?_ | refine WD.s' (E := env) (t := .og _ _) ?_ | refine WD.s' (E := env) (t := .agg _) ?_ | refine WD.s' (E := env) (t := .tup _) ?_ | refine WD.s' (E := env) (t := .clo _ _) ?_ | refine WD.ixm' (E := env) ?_ | refine WD.ixo' (E := env) ?_ | refine WD.legm' (E := env) ?_ | refine WD.slS' (E := env) ?_ | refine WD.slD' (E := env) ?_ | ((first | refine WG.sp' (fun h => ?_) fun h => ?_ | refine W.cond' (fun h => ?_) fun h => ?_ | refine WD.sp' (fun h => ?_) fun h => ?_) <;> (try simp only [decide_eq_true_eq, decide_eq_false_iff_not, Bool.not_eq_true', Bool.not_eq_false', Bool.and_eq_true, Bool.or_eq_true, Bool.and_eq_false_iff, Bool.or_eq_false_iff, Bool.not_eq_true, Bool.not_eq_false, Int.not_lt, Int.not_le, List.length_map, beq_self_eq_true, Bool.true_eq_false, Bool.false_eq_true] at h) <;> (try (exfalso; first | contradiction | omega))))
  refine W.loopI (fun m S => ∃ (i : Nat) (rv : List (List D)), m = ns.length - i ∧ (i ≤ ns.length ∧ rv.length = i ∧ rv = ((ns.take i).map itoaS).map keyRow) ∧ S = ⟨ofL [(3, .og 1 0), (7, .d (.sl 1 (ns.map intRow))), (8, vI .i64 (ns.map intRow).length), (9, vI .i64 i)], [tabO q, .gr 1 9 rv 0 false]⟩) _ _ ⟨0, [], rfl, ⟨by omega, rfl, rfl⟩, rfl⟩ (St.imp.of_le (by (refine le_ofL rfl ?_ ?_ <;> (repeat (first | exact trivial | refine ⟨⟨rfl, rfl⟩, ?_⟩ | refine ⟨rfl, .inl rfl, ?_⟩ | refine ⟨rfl, .inr rfl, ?_⟩))))) ?_
  rintro m S ⟨i, rv, rfl, ⟨hi, hrl, hrv⟩, rfl⟩
  by_cases hlt : i < ns.length
  · have hx := hb _ (getD_mem' (show Int.toNat (i : Int) < ns.length by rw [Int.toNat_natCast]; exact hlt))
    have hf := FormatInt_fn q (ns.getD (Int.toNat (i : Int)) default) (by omega) (by omega)
    have hn : ((ns.take (i + 1)).map itoaS).map keyRow = rv ++ [keyRow (itoaS (ns.getD (Int.toNat (i : Int)) default))] := by
      rw [take_step hlt, List.map_append, List.map_append, ← hrv, Int.toNat_natCast]
      rfl
    generalize itoaS (ns.getD (Int.toNat (i : Int)) default) = w at *
    repeat' (first | refine W.seq ?_ | refine W.rg ?_ | refine W.dra' ?_ | refine W.block ?_ | refine W.skip ?_ | refine W.exit ?_ | refine W.cond_true' ?_ | refine W.cond_false' ?_ | refine WG.nil ?_ | refine WG.run' (E := env) ?_ | refine WG.gt' ?_ | refine WG.gf' ?_ | refine WG.ixm' (E := env) ?_ | refine WG.ixo' (E := env) ?_ | refine WG.legm' (E := env) ?_ | refine WG.slS' (E := env) ?_ | refine WG.slD' (E := env) ?_ | refine WG.ap' (E := env) ?_ | refine WD.nil ?_ | refine WD.bs' (E := env) ?_ | refine WD.s' (E := env) (t := .d _) ?_ | refine WD.p' ?_ | refine WD.px' ?_ | refine WD.s' (E := env) (t := .ea _ _) ?_ | refine WD.s' (E := env) (t := .lp _ _) ?_ | refine WD.s' (E := env) (t := .og _ _) ?_ | refine WD.s' (E := env) (t := .agg _) ?_ | refine WD.s' (E := env) (t := .tup _) ?_ | refine WD.s' (E := env) (t := .clo _ _) ?_ | refine WD.ixm' (E := env) ?_ | refine WD.ixo' (E := env) ?_ | refine WD.legm' (E := env) ?_ | refine WD.slS' (E := env) ?_ | refine WD.slD' (E := env) ?_ | refine WG.cq (E := env) [0] [0] false rfl rfl (hf) rfl rfl rfl rfl rfl rfl rfl (by first | exact trivial | exact ⟨rfl, trivial⟩ | exact ⟨rfl, rfl, trivial⟩) (.inl rfl) rfl (fun h => nomatch h) rfl rfl ?_ | refine WG.cqx (E := env) [0] [0] false rfl (hf) rfl rfl rfl rfl rfl rfl rfl (by first | exact trivial | exact ⟨rfl, trivial⟩ | exact ⟨rfl, rfl, trivial⟩) (.inl rfl) rfl (fun h => nomatch h) rfl ?_ | ((first | refine WG.sp' (fun h => ?_) fun h => ?_ | refine W.cond' (fun h => ?_) fun h => ?_ | refine WD.sp' (fun h => ?_) fun h => ?_) <;> (try simp only [decide_eq_true_eq, decide_eq_false_iff_not, Bool.not_eq_true', Bool.not_eq_false', Bool.and_eq_true, Bool.or_eq_true, Bool.and_eq_false_iff, Bool.or_eq_false_iff, Bool.not_eq_true, Bool.not_eq_false, Int.not_lt, Int.not_le, List.length_map, beq_self_eq_true, Bool.true_eq_false, Bool.false_eq_true] at h) <;> (try (exfalso; first | contradiction | omega))))
    exact ⟨_, _, by omega, ⟨i + 1, rv ++ [keyRow w], rfl, ⟨by omega, by simp [hrl], hn.symm⟩, rfl⟩, (St.imp.rev 1 1 rfl).trans (St.imp.of_le (by (refine le_ofL rfl ?_ ?_ <;> (repeat (first | exact trivial | refine ⟨⟨rfl, rfl⟩, ?_⟩ | refine ⟨rfl, .inl rfl, ?_⟩ | refine ⟨rfl, .inr rfl, ?_⟩)))))⟩
  · obtain rfl : i = ns.length := by omega
    rw [List.take_length] at hrv
    subst hrv
    repeat' (first | refine W.seq ?_ | refine W.rg ?_ | refine W.dra' ?_ | refine W.block ?_ | refine W.skip ?_ | refine W.exit ?_ | refine W.cond_true' ?_ | refine W.cond_false' ?_ | refine WG.nil ?_ | refine WG.run' (E := env) ?_ | refine WG.gt' ?_ | refine WG.gf' ?_ | refine WG.ixm' (E := env) ?_ | refine WG.ixo' (E := env) ?_ | refine WG.legm' (E := env) ?_ | refine WG.slS' (E := env) ?_ | refine WG.slD' (E := env) ?_ | refine WG.ap' (E := env) ?_ | refine WD.nil ?_ | refine WD.bs' (E := env) ?_ | refine WD.s' (E := env) (t := .d _) ?_ | refine WD.p' ?_ | refine WD.px' ?_ | refine WD.s' (E := env) (t := .ea _ _) ?_ | refine WD.s' (E := env) (t := .lp _ _) ?_ | refine WD.s' (E := env) (t := .og _ _) ?_ | refine WD.s' (E := env) (t := .agg _) ?_ | refine WD.s' (E := env) (t := .tup _) ?_ | refine WD.s' (E := env) (t := .clo _ _) ?_ | refine WD.ixm' (E := env) ?_ | refine WD.ixo' (E := env) ?_ | refine WD.legm' (E := env) ?_ | refine WD.slS' (E := env) ?_ | refine WD.slD' (E := env) ?_ | ((first | refine WG.sp' (fun h => ?_) fun h => ?_ | refine W.cond' (fun h => ?_) fun h => ?_ | refine WD.sp' (fun h => ?_) fun h => ?_) <;> (try simp only [decide_eq_true_eq, decide_eq_false_iff_not, Bool.not_eq_true', Bool.not_eq_false', Bool.and_eq_true, Bool.or_eq_true, Bool.and_eq_false_iff, Bool.or_eq_false_iff, Bool.not_eq_true, Bool.not_eq_false, Int.not_lt, Int.not_le, List.length_map, beq_self_eq_true, Bool.true_eq_false, Bool.false_eq_true] at h) <;> (try (exfalso; first | contradiction | omega))))
    refine W.ret ?_
    exact RetR.own (ob' := [tabO q, .gr 1 9 ((ns.map itoaS).map keyRow) 0 false]) ⟨[0, 1], [0, 0], 2⟩ (.inl rfl) rfl (by first | trivial | exact resOK_of (E := env) rfl) rfl rfl rfl rfl rfl rfl ⟨rfl, rfl, trivial⟩ rfl ⟨rfl, rfl⟩

noncomputable def valTx (cs : List Cell) : ByteArray := if cs.length = 0 then dashS else (valOfM cs).1.enc

set_option maxHeartbeats 2000000 in
theorem valText_fn (q : TypeId × (Nat × Nat)) (cs : List Cell) (hc : fitsC cs) (h0 : cs.length ≠ 0 → (valOfM cs).2 = 0) : FunQ env.P 72 [.d (cellsD cs)] [tabO q] (just (.d (dS (valTx cs))) [tabO q]) := by
  refine FunQ.intro Tryz.func72 rfl (by kernel_rfl) rfl ?_
  unfold valTx
  by_cases hl : cs.length = 0
  · rw [if_pos hl]
    repeat' (first | refine W.seq ?_ | refine W.rg ?_ | refine W.dra' ?_ | refine W.block ?_ | refine W.skip ?_ | refine W.exit ?_ | refine W.cond_true' ?_ | refine W.cond_false' ?_ | refine WG.nil ?_ | refine WG.run' (E := env) ?_ | refine WG.gt' ?_ | refine WG.gf' ?_ | refine WG.ixm' (E := env) ?_ | refine WG.ixo' (E := env) ?_ | refine WG.legm' (E := env) ?_ | refine WG.slS' (E := env) ?_ | refine WG.slD' (E := env) ?_ | refine WG.ap' (E := env) ?_ | refine WD.nil ?_ | refine WD.bs' (E := env) ?_ | refine WD.s' (E := env) (t := .d _) ?_ | refine WD.p' ?_ | refine WD.px' ?_ | refine WD.s' (E := env) (t := .ea _ _) ?_ | refine WD.s' (E := env) (t := .lp _ _) ?_ | refine WD.s' (E := env) (t := .og _ _) ?_ | refine WD.s' (E := env) (t := .agg _) ?_ | refine WD.s' (E := env) (t := .tup _) ?_ | refine WD.s' (E := env) (t := .clo _ _) ?_ | refine WD.ixm' (E := env) ?_ | refine WD.ixo' (E := env) ?_ | refine WD.legm' (E := env) ?_ | refine WD.slS' (E := env) ?_ | refine WD.slD' (E := env) ?_ | ((first | refine WG.sp' (fun h => ?_) fun h => ?_ | refine W.cond' (fun h => ?_) fun h => ?_ | refine WD.sp' (fun h => ?_) fun h => ?_) <;> (try simp only [decide_eq_true_eq, decide_eq_false_iff_not, Bool.not_eq_true', Bool.not_eq_false', Bool.and_eq_true, Bool.or_eq_true, Bool.and_eq_false_iff, Bool.or_eq_false_iff, Bool.not_eq_true, Bool.not_eq_false, Int.not_lt, Int.not_le, List.length_map, beq_self_eq_true, Bool.true_eq_false, Bool.false_eq_true] at h) <;> (try (exfalso; first | contradiction | omega))))
    all_goals first | (exfalso; omega) | skip
    (refine W.ret ?_; refine RetR.tb' ?_)
    rfl
  · rw [if_neg hl]
    have hvo := (valOf_fn cs hc.1 hc.2).cast rfl (show _ = T.tup [.d (.agg (valOfM cs).1.rowP), .d (dI (valOfM cs).2)] by rw [V.row_eq]) rfl
    have hv := (valOfM_fine (h0 hl)).1
    have he := encode_fn q (valOfM cs).1.count (valOfM cs).1 (Nat.le_refl _) hv
    generalize (valOfM cs).1.enc = e at *
    generalize (valOfM cs).1 = v at *
    generalize (valOfM cs).2 = c at *
    repeat' (first | refine W.seq ?_ | refine W.rg ?_ | refine W.dra' ?_ | refine W.block ?_ | refine W.skip ?_ | refine W.exit ?_ | refine W.cond_true' ?_ | refine W.cond_false' ?_ | refine WG.nil ?_ | refine WG.run' (E := env) ?_ | refine WG.gt' ?_ | refine WG.gf' ?_ | refine WG.ixm' (E := env) ?_ | refine WG.ixo' (E := env) ?_ | refine WG.legm' (E := env) ?_ | refine WG.slS' (E := env) ?_ | refine WG.slD' (E := env) ?_ | refine WG.ap' (E := env) ?_ | refine WD.nil ?_ | refine WD.bs' (E := env) ?_ | refine WD.s' (E := env) (t := .d _) ?_ | refine WD.p' ?_ | refine WD.px' ?_ | refine WD.s' (E := env) (t := .ea _ _) ?_ | refine WD.s' (E := env) (t := .lp _ _) ?_ | refine WD.s' (E := env) (t := .og _ _) ?_ | refine WD.s' (E := env) (t := .agg _) ?_ | refine WD.s' (E := env) (t := .tup _) ?_ | refine WD.s' (E := env) (t := .clo _ _) ?_ | refine WD.ixm' (E := env) ?_ | refine WD.ixo' (E := env) ?_ | refine WD.legm' (E := env) ?_ | refine WD.slS' (E := env) ?_ | refine WD.slD' (E := env) ?_ | refine WG.c (E := env) rfl rfl (hvo) rfl rfl ?_ | refine WD.c (E := env) rfl rfl (hvo) rfl rfl ?_ | refine WG.co (E := env) rfl rfl (hvo) rfl rfl rfl rfl ?_ | refine WG.cx (E := env) rfl (hvo) rfl ?_ | refine WG.cq (E := env) [0] [0] false rfl rfl (he) rfl rfl rfl rfl rfl rfl rfl (by first | exact trivial | exact ⟨rfl, trivial⟩ | exact ⟨rfl, rfl, trivial⟩) (.inl rfl) rfl (fun h => nomatch h) rfl rfl ?_ | refine WG.cqx (E := env) [0] [0] false rfl (he) rfl rfl rfl rfl rfl rfl rfl (by first | exact trivial | exact ⟨rfl, trivial⟩ | exact ⟨rfl, rfl, trivial⟩) (.inl rfl) rfl (fun h => nomatch h) rfl ?_ | ((first | refine WG.sp' (fun h => ?_) fun h => ?_ | refine W.cond' (fun h => ?_) fun h => ?_ | refine WD.sp' (fun h => ?_) fun h => ?_) <;> (try simp only [decide_eq_true_eq, decide_eq_false_iff_not, Bool.not_eq_true', Bool.not_eq_false', Bool.and_eq_true, Bool.or_eq_true, Bool.and_eq_false_iff, Bool.or_eq_false_iff, Bool.not_eq_true, Bool.not_eq_false, Int.not_lt, Int.not_le, List.length_map, beq_self_eq_true, Bool.true_eq_false, Bool.false_eq_true] at h) <;> (try (exfalso; first | contradiction | omega))))
    all_goals first | (exfalso; omega) | skip
    (refine W.ret ?_; refine RetR.tb' ?_)
    rfl

end Go.Proofs.YtfmhfdegkpbeiaaGreatDoor
