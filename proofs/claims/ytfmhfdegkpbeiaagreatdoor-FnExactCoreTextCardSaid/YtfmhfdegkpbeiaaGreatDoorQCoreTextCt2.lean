/-
  The text of a core, by the program. Conditions: the table of powers of ten is lent; cores of at most 2^20 nodes.
-/
import Derived.Test.YtfmhfdegkpbeiaaGreatDoorQCoreTextCt1
set_option linter.unusedVariables false
set_option linter.unusedSimpArgs false
set_option maxRecDepth 100000
namespace Go.Proofs.YtfmhfdegkpbeiaaGreatDoor
open Go.RowKit

theorem coreM_zero {cs : List Co} (h : coreM cs = 0) : cs.length ≤ 900 ∧ ∀ j, j < cs.length → coreC (cs.getD j default) j = 0 := by
  unfold coreM at h
  split at h
  · exact absurd h (by decide)
  · rename_i h1
    split at h
    · rename_i h2
      exact absurd h h2
    · rename_i h2
      exact ⟨by omega, fun j hj => firstK_zero (f := cCode cs) (Classical.not_not.1 h2) j (by omega) (by omega)⟩

noncomputable def coreR (cs : List Co) : ByteArray := if coreM cs = 0 then coreT cs cs.length else noS

theorem valTx_eq {n : Co} {k : Nat} (h : coreC n k = 0) : valTx n.val = valT n := by
  unfold valTx valT
  cases hv : hasVl n.op with
  | true => rw [if_neg (val_some h hv).2, if_pos rfl]
  | false => rw [if_pos (val_empty h hv), if_neg (fun h => by cases h)]

/-- What a round leans on. -/
theorem line_facts (q : TypeId × (Nat × Nat)) (n : Co) (i : Nat) (h : coreC n i = 0) (hf : n.fine) (hi : i ≤ 1048576) : ∃ (R : List (List D)) (vt js : ByteArray),
    FunQ env.P 71 [.d (.sl 1 ((numsK n i).map intRow))] [tabO q] (just (.og 1 0) [tabO q, .gr 1 9 R 0 false]) ∧
    FunQ env.P 72 [.d (cellsD n.val)] [tabO q] (just (.d (dS vt)) [tabO q]) ∧
    Fun env.P 46 [.sl 1 (R ++ [keyRow vt]), dS ⟨#[32]⟩] (.d (dS js)) [] ∧ lineK n i = js ++ ⟨#[10]⟩ ∧ js.size ≤ 420007 ∧ R.length = 6 := by
  refine ⟨((numsK n i).map itoaS).map keyRow, valTx n.val, joinS (wordK n i ++ [valT n]) ⟨#[32]⟩, numberTexts_fn q _ (by show 6 ≤ 1000; omega) (numsK_bound h hi), valText_fn q n.val hf (fun hne => ?_), ?_, rfl, join_line_size h hi, rfl⟩
  · cases hv : hasVl n.op with
    | true => exact (val_some h hv).1
    | false => exact absurd (val_empty h hv) hne
  · have hj := Join_fn (wordK n i ++ [valT n]) ⟨#[32]⟩ (by have := join_line_size h hi; omega) (by show 7 ≤ 1048576; omega)
    exact hj.cast (by rw [valTx_eq h]; simp [wordK]) rfl rfl

set_option maxHeartbeats 8000000 in
theorem CoreText_fn (q : TypeId × (Nat × Nat)) (cs : List Co) (hf : fitsK cs) : FunQ env.P 37 [.d (coresD cs)] [tabO q] (just (.d (.agg [dI (coreM cs), dS (coreR cs)])) [tabO q]) := by
  have hcf := CoreFault_fn cs hf.2 hf.1
  refine FunQ.intro Tryz.func37 rfl (by kernel_rfl) rfl ?_
  by_cases h0 : coreM cs = 0
  · rw [coreR, if_pos h0]
    obtain ⟨hl, hz⟩ := coreM_zero h0
    rw [h0] at hcf ⊢
    repeat' (first | refine WG.bd (E := env) (t := 114) rfl rfl rfl rfl rfl ?_ | refine WG.alB (E := env) (t := 114) 5 rfl rfl rfl rfl rfl ?_ | refine WG.stB (E := env) (t := 114) rfl rfl rfl rfl rfl rfl ?_ | refine W.seq ?_ | refine W.rg ?_ | refine W.dra' ?_ | refine W.block ?_ | refine W.skip ?_ | refine W.exit ?_ | refine W.cond_true' ?_ | refine W.cond_false' ?_ | refine WG.nil ?_ | refine WG.run' (E := env) ?_ | refine WG.gt' ?_ | refine WG.gf' ?_ | refine WG.ixm' (E := env) ?_ | refine WG.ixo' (E := env) ?_ | refine WG.legm' (E := env) ?_ | refine WG.slS' (E := env) ?_ | refine WG.slD' (E := env) ?_ | refine WG.ap' (E := env) ?_ | refine WD.nil ?_ | refine WD.bs' (E := env) ?_ | refine WD.s' (E := env) (t := .d _) ?_ | refine WD.p' ?_ | refine WD.px' ?_ | refine WD.s' (E := env) (t := .ea _ _) ?_ | refine WD.s' (E := env) (t := .lp _ _) ?_ | refine WD.s' (E := env) (t := .og _ _) ?_ | refine WD.s' (E := env) (t := .agg _) ?_ | refine WD.s' (E := env) (t := .tup _) ?_ | refine WD.s' (E := env) (t := .clo _ _) ?_ | refine WD.ixm' (E := env) ?_ | refine WD.ixo' (E := env) ?_ | refine WD.legm' (E := env) ?_ | refine WD.slS' (E := env) ?_ | refine WD.slD' (E := env) ?_ | refine WG.c (E := env) rfl rfl (hcf) rfl rfl ?_ | refine WD.c (E := env) rfl rfl (hcf) rfl rfl ?_ | refine WG.co (E := env) rfl rfl (hcf) rfl rfl rfl rfl ?_ | refine WG.cx (E := env) rfl (hcf) rfl ?_ | ((first | refine WG.sp' (fun h => ?_) fun h => ?_ | refine W.cond' (fun h => ?_) fun h => ?_ | refine WD.sp' (fun h => ?_) fun h => ?_) <;> (try simp only [decide_eq_true_eq, decide_eq_false_iff_not, Bool.not_eq_true', Bool.not_eq_false', Bool.and_eq_true, Bool.or_eq_true, Bool.and_eq_false_iff, Bool.or_eq_false_iff, Bool.not_eq_true, Bool.not_eq_false, Int.not_lt, Int.not_le, List.length_map, beq_self_eq_true, Bool.true_eq_false, Bool.false_eq_true] at h) <;> (try (exfalso; first | contradiction | omega))))
    refine W.loopI (fun m S => ∃ (i : Nat) (s : ByteArray), m = cs.length - i ∧ (i ≤ cs.length ∧ s = coreT cs i) ∧ S = ⟨ofL [(2, .lp 1 0), (4, .lp 2 0), (15, .d (coresD cs)), (16, vI .i64 (cs.map Co.row).length), (17, vI .i64 i)], [tabO q, .pv [.d (dI 0), .d (dS ByteArray.empty)], bdO s]⟩) _ _ ⟨0, _, rfl, ⟨by omega, rfl⟩, rfl⟩ (St.imp.of_le (by (refine le_ofL rfl ?_ ?_ <;> (repeat (first | exact trivial | refine ⟨⟨rfl, rfl⟩, ?_⟩ | refine ⟨rfl, .inl rfl, ?_⟩ | refine ⟨rfl, .inr rfl, ?_⟩))))) ?_
    rintro m S ⟨i, s, rfl, ⟨hi, hs⟩, rfl⟩
    have hss := coreT_size hz (by omega) i hi
    rw [← hs] at hss
    by_cases hlt : i < cs.length
    · have hci : coreC (cs.getD (Int.toNat (i : Int)) default) i = 0 := by rw [Int.toNat_natCast]; exact hz i hlt
      have hfi : (cs.getD (Int.toNat (i : Int)) default).fine := hf.1 _ (getD_mem' (by rw [Int.toNat_natCast]; exact hlt))
      have hnx : coreT cs (i + 1) = s ++ lineK (cs.getD (Int.toNat (i : Int)) default) i := by rw [coreT, ← hs, Int.toNat_natCast]
      obtain ⟨R, vt, js, hnt, hvt, hj, hlk, hjz, hR6⟩ := line_facts q _ i hci hfi (by omega)
      rw [hlk] at hnx
      have z1 : (js ++ ⟨#[10]⟩).size = js.size + 1 := by rw [ByteArray.size_append]; rfl
      have z2 : (⟨#[10]⟩ : ByteArray).size = 1 := rfl
      have hsz : s.size ≤ 420008 * 900 := Nat.le_trans hss (Nat.mul_le_mul_left _ (by omega))
      have hw := WriteString_fn s (js ++ ⟨#[10]⟩) (by omega) (by omega)
      repeat' (first | (refine W.dre' (id := 8) [12, 17] (fun f => bif bt f 2 then [tabO q, .pv [.d (dI 0), .d (dS ByteArray.empty)], bdO s, .pv ((cs.getD (Int.toNat (i : Int)) default).row.map .d), .gr 1 9 (R ++ [keyRow vt]) 1 false] else bif bt f 1 then [tabO q, .pv [.d (dI 0), .d (dS ByteArray.empty)], bdO s, .pv ((cs.getD (Int.toNat (i : Int)) default).row.map .d), .gr 1 9 R 0 false] else [tabO q, .pv [.d (dI 0), .d (dS ByteArray.empty)], bdO s, .pv ((cs.getD (Int.toNat (i : Int)) default).row.map .d)]) [(0, [0]), (0, [0]), (0, [0]), (0, [0]), (0, [0]), (0, [0]), (0, [0]), (0, [0]), (0, [0]), (0, [0]), (0, [0]), (0, [0]), (1, [0]), (0, [0, 1]), (0, [0, 1]), (0, [1]), (0, [1]), (2, [1]), (0, [3])] [tabO q, .pv [.d (dI 0), .d (dS ByteArray.empty)], bdO s, .pv ((cs.getD (Int.toNat (i : Int)) default).row.map .d), .gr 1 9 (R ++ [keyRow vt]) 1 false] ?_) | refine W.pubD 4 rfl ?_ | (refine WE.mkd (.og 4 0) ?_ ?_; rotate_left; exact .c (OpS1.cq (E := env) [0] [0] false rfl rfl hnt rfl rfl rfl rfl rfl rfl rfl ⟨rfl, trivial⟩ (.inl rfl) rfl (fun h => nomatch h) rfl rfl) .n) | (refine WE.mkd (.d (dS vt)) ?_ ?_; rotate_left; exact .c (OpS1.cq (E := env) [0] [0] false rfl rfl hvt rfl rfl rfl rfl rfl rfl rfl ⟨rfl, trivial⟩ (.inl rfl) rfl (fun h => nomatch h) rfl rfl) .n) | refine WE.nil ?_ | refine WE.ixP' ?_ | refine WE.s' (E := env) (t := .d _) ?_ | refine WE.p' ?_ | refine WE.px' ?_ | refine WE.s' (E := env) (t := .lp _ _) ?_ | refine WE.s' (E := env) (t := .og _ _) ?_ | refine WE.s' (E := env) (t := .ea _ _) ?_ | refine WE.s' (E := env) (t := .agg _) ?_ | refine WE.s' (E := env) (t := .tup _) ?_ | refine WE.ixm' (E := env) ?_ | refine WE.ixo' (E := env) ?_ | refine WE.leg' (E := env) ?_ | refine WE.slS' (E := env) ?_ | refine WE.slD' (E := env) ?_ | refine WE.ap' (E := env) ?_ | refine WE.st' (E := env) ?_ | refine WE.seg' (E := env) ?_ | refine WE.bs' (E := env) ?_ | refine W.seq ?_ | refine W.rg ?_ | refine W.dra' ?_ | refine W.block ?_ | refine W.skip ?_ | refine W.exit ?_ | refine W.cond_true' ?_ | refine W.cond_false' ?_ | refine WG.nil ?_ | refine WG.run' (E := env) ?_ | refine WG.gt' ?_ | refine WG.gf' ?_ | refine WG.ixm' (E := env) ?_ | refine WG.ixo' (E := env) ?_ | refine WG.legm' (E := env) ?_ | refine WG.slS' (E := env) ?_ | refine WG.slD' (E := env) ?_ | refine WG.ap' (E := env) ?_ | refine WD.nil ?_ | refine WD.bs' (E := env) ?_ | refine WD.s' (E := env) (t := .d _) ?_ | refine WD.p' ?_ | refine WD.px' ?_ | refine WD.s' (E := env) (t := .ea _ _) ?_ | refine WD.s' (E := env) (t := .lp _ _) ?_ | refine WD.s' (E := env) (t := .og _ _) ?_ | refine WD.s' (E := env) (t := .agg _) ?_ | refine WD.s' (E := env) (t := .tup _) ?_ | refine WD.s' (E := env) (t := .clo _ _) ?_ | refine WD.ixm' (E := env) ?_ | refine WD.ixo' (E := env) ?_ | refine WD.legm' (E := env) ?_ | refine WD.slS' (E := env) ?_ | refine WD.slD' (E := env) ?_ | refine WG.c (E := env) rfl rfl (hj) rfl rfl ?_ | refine WD.c (E := env) rfl rfl (hj) rfl rfl ?_ | refine WG.co (E := env) rfl rfl (hj) rfl rfl rfl rfl ?_ | refine WG.cx (E := env) rfl (hj) rfl ?_ | refine WG.cq (E := env) [2] [0] false rfl rfl (hw) rfl rfl rfl rfl rfl rfl rfl (by first | exact trivial | exact ⟨rfl, trivial⟩ | exact ⟨rfl, rfl, trivial⟩) (.inl rfl) rfl (fun h => nomatch h) rfl rfl ?_ | refine WG.cqx (E := env) [2] [0] false rfl (hw) rfl rfl rfl rfl rfl rfl rfl (by first | exact trivial | exact ⟨rfl, trivial⟩ | exact ⟨rfl, rfl, trivial⟩) (.inl rfl) rfl (fun h => nomatch h) rfl ?_ | ((first | refine WG.sp' (fun h => ?_) fun h => ?_ | refine W.cond' (fun h => ?_) fun h => ?_ | refine WD.sp' (fun h => ?_) fun h => ?_) <;> (try simp only [decide_eq_true_eq, decide_eq_false_iff_not, Bool.not_eq_true', Bool.not_eq_false', Bool.and_eq_true, Bool.or_eq_true, Bool.and_eq_false_iff, Bool.or_eq_false_iff, Bool.not_eq_true, Bool.not_eq_false, Int.not_lt, Int.not_le, List.length_map, beq_self_eq_true, Bool.true_eq_false, Bool.false_eq_true] at h) <;> (try (exfalso; first | contradiction | omega))))
      exact ⟨_, _, by omega, ⟨i + 1, s ++ (js ++ ⟨#[10]⟩), rfl, ⟨by omega, hnx.symm⟩, rfl⟩, (St.imp.of_le (by (refine le_ofL rfl ?_ ?_ <;> (repeat (first | exact trivial | refine ⟨⟨rfl, rfl⟩, ?_⟩ | refine ⟨rfl, .inl rfl, ?_⟩ | refine ⟨rfl, .inr rfl, ?_⟩)))))⟩
    · obtain rfl : i = cs.length := by omega
      have hst := String_fn s
      subst hs
      repeat' (first | refine W.seq ?_ | refine W.rg ?_ | refine W.dra' ?_ | refine W.block ?_ | refine W.skip ?_ | refine W.exit ?_ | refine W.cond_true' ?_ | refine W.cond_false' ?_ | refine WG.nil ?_ | refine WG.run' (E := env) ?_ | refine WG.gt' ?_ | refine WG.gf' ?_ | refine WG.ixm' (E := env) ?_ | refine WG.ixo' (E := env) ?_ | refine WG.legm' (E := env) ?_ | refine WG.slS' (E := env) ?_ | refine WG.slD' (E := env) ?_ | refine WG.ap' (E := env) ?_ | refine WD.nil ?_ | refine WD.bs' (E := env) ?_ | refine WD.s' (E := env) (t := .d _) ?_ | refine WD.p' ?_ | refine WD.px' ?_ | refine WD.s' (E := env) (t := .ea _ _) ?_ | refine WD.s' (E := env) (t := .lp _ _) ?_ | refine WD.s' (E := env) (t := .og _ _) ?_ | refine WD.s' (E := env) (t := .agg _) ?_ | refine WD.s' (E := env) (t := .tup _) ?_ | refine WD.s' (E := env) (t := .clo _ _) ?_ | refine WD.ixm' (E := env) ?_ | refine WD.ixo' (E := env) ?_ | refine WD.legm' (E := env) ?_ | refine WD.slS' (E := env) ?_ | refine WD.slD' (E := env) ?_ | refine WG.cq (E := env) [2] [0] false rfl rfl (hst) rfl rfl rfl rfl rfl rfl rfl (by first | exact trivial | exact ⟨rfl, trivial⟩ | exact ⟨rfl, rfl, trivial⟩) (.inl rfl) rfl (fun h => nomatch h) rfl rfl ?_ | refine WG.cqx (E := env) [2] [0] false rfl (hst) rfl rfl rfl rfl rfl rfl rfl (by first | exact trivial | exact ⟨rfl, trivial⟩ | exact ⟨rfl, rfl, trivial⟩) (.inl rfl) rfl (fun h => nomatch h) rfl ?_ | ((first | refine WG.sp' (fun h => ?_) fun h => ?_ | refine W.cond' (fun h => ?_) fun h => ?_ | refine WD.sp' (fun h => ?_) fun h => ?_) <;> (try simp only [decide_eq_true_eq, decide_eq_false_iff_not, Bool.not_eq_true', Bool.not_eq_false', Bool.and_eq_true, Bool.or_eq_true, Bool.and_eq_false_iff, Bool.or_eq_false_iff, Bool.not_eq_true, Bool.not_eq_false, Int.not_lt, Int.not_le, List.length_map, beq_self_eq_true, Bool.true_eq_false, Bool.false_eq_true] at h) <;> (try (exfalso; first | contradiction | omega))))
      (refine W.ret ?_; refine RetR.tb' ?_)
      rfl
  · rw [coreR, if_neg h0]
    generalize coreM cs = c at *
    repeat' (first | refine W.seq ?_ | refine W.rg ?_ | refine W.dra' ?_ | refine W.block ?_ | refine W.skip ?_ | refine W.exit ?_ | refine W.cond_true' ?_ | refine W.cond_false' ?_ | refine WG.nil ?_ | refine WG.run' (E := env) ?_ | refine WG.gt' ?_ | refine WG.gf' ?_ | refine WG.ixm' (E := env) ?_ | refine WG.ixo' (E := env) ?_ | refine WG.legm' (E := env) ?_ | refine WG.slS' (E := env) ?_ | refine WG.slD' (E := env) ?_ | refine WG.ap' (E := env) ?_ | refine WD.nil ?_ | refine WD.bs' (E := env) ?_ | refine WD.s' (E := env) (t := .d _) ?_ | refine WD.p' ?_ | refine WD.px' ?_ | refine WD.s' (E := env) (t := .ea _ _) ?_ | refine WD.s' (E := env) (t := .lp _ _) ?_ | refine WD.s' (E := env) (t := .og _ _) ?_ | refine WD.s' (E := env) (t := .agg _) ?_ | refine WD.s' (E := env) (t := .tup _) ?_ | refine WD.s' (E := env) (t := .clo _ _) ?_ | refine WD.ixm' (E := env) ?_ | refine WD.ixo' (E := env) ?_ | refine WD.legm' (E := env) ?_ | refine WD.slS' (E := env) ?_ | refine WD.slD' (E := env) ?_ | refine WG.c (E := env) rfl rfl (hcf) rfl rfl ?_ | refine WD.c (E := env) rfl rfl (hcf) rfl rfl ?_ | refine WG.co (E := env) rfl rfl (hcf) rfl rfl rfl rfl ?_ | refine WG.cx (E := env) rfl (hcf) rfl ?_ | ((first | refine WG.sp' (fun h => ?_) fun h => ?_ | refine W.cond' (fun h => ?_) fun h => ?_ | refine WD.sp' (fun h => ?_) fun h => ?_) <;> (try simp only [decide_eq_true_eq, decide_eq_false_iff_not, Bool.not_eq_true', Bool.not_eq_false', Bool.and_eq_true, Bool.or_eq_true, Bool.and_eq_false_iff, Bool.or_eq_false_iff, Bool.not_eq_true, Bool.not_eq_false, Int.not_lt, Int.not_le, List.length_map, beq_self_eq_true, Bool.true_eq_false, Bool.false_eq_true] at h) <;> (try (exfalso; first | contradiction | omega))))
    all_goals first | (exfalso; omega) | skip
    (refine W.ret ?_; refine RetR.tb' ?_)
    rfl

end Go.Proofs.YtfmhfdegkpbeiaaGreatDoor
