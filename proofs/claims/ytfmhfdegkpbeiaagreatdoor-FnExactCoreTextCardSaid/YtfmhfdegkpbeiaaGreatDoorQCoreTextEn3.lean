/-
  Values written out, by the program. Conditions: right values; the table of powers of ten is lent.
-/
import Derived.Test.YtfmhfdegkpbeiaaGreatDoorQCoreTextEn2
set_option linter.unusedVariables false
set_option linter.unusedSimpArgs false
set_option maxRecDepth 100000
namespace Go.Proofs.YtfmhfdegkpbeiaaGreatDoor
open Go.RowKit

theorem V.enc_le {v : V} (h : v.fine) : v.enc.size ≤ 60000 := by
  have h1 := V.enc_size v h.1
  have h2 := h.2.1
  omega
theorem V.key_ok {v : V} (h : v.good) (j : Nat) : okText (v.keys.getD j default) = true := by
  obtain ⟨k, n, t, ks, kids⟩ := v
  obtain ⟨g1, g2, g3, g4, g5, g6, g7, g8, g9, g10, g11⟩ := h
  show okText (ks.getD j default) = true
  by_cases hj : j < ks.length
  · exact g9 _ (getD_mem' hj)
  · rw [List.getD_eq_getElem?_getD, List.getElem?_eq_none (by omega)]
    exact noS_ok
theorem V.num_le {v : V} (h : v.good) : -1000000000000000 ≤ v.num ∧ v.num ≤ 1000000000000000 := by
  obtain ⟨k, n, t, ks, kids⟩ := v
  obtain ⟨g1, g2, g3, g4, g5, g6, g7, g8, g9, g10, g11⟩ := h
  show -1000000000000000 ≤ n ∧ n ≤ 1000000000000000
  omega
theorem V.text_ok {v : V} (h : v.good) : okText v.text = true := by
  obtain ⟨k, n, t, ks, kids⟩ := v
  obtain ⟨g1, g2, g3, g4, g5, g6, g7, g8, g9, g10, g11⟩ := h
  exact g6
theorem V.keys_len {v : V} (h : v.good) : v.kind = 6 → v.keys.length = v.kids.length := by
  obtain ⟨k, n, t, ks, kids⟩ := v
  obtain ⟨g1, g2, g3, g4, g5, g6, g7, g8, g9, g10, g11⟩ := h
  exact g7
theorem V.kids_le {v : V} (h : v.fine) : v.kids.length ≤ 200 := by
  have h1 := V.length_counts v.kids
  have h2 := V.count_eq v
  have h3 := h.2.1
  omega

theorem V.parts_take6 (v : V) (h : v.kind = 6) (i : Nat) (hi : i < v.kids.length) : v.parts.take (i + 1) = v.parts.take i ++ [(quoted (v.keys.getD i noS) ++ ⟨#[58]⟩) ++ (v.kids.getD i default).enc] := by
  rw [V.parts_take v hi, decide_eq_true h, partT, if_pos rfl]
theorem V.parts_take5 (v : V) (h : ¬ v.kind = 6) (i : Nat) (hi : i < v.kids.length) : v.parts.take (i + 1) = v.parts.take i ++ [(v.kids.getD i default).enc] := by
  rw [V.parts_take v hi, decide_eq_false h, partT, if_neg (fun h => by cases h)]

set_option maxHeartbeats 8000000 in
theorem encode_fn (q : TypeId × (Nat × Nat)) : ∀ (n : Nat) (v : V), v.count ≤ n → v.fine → FunQ env.P 53 [.d (.agg v.rowP)] [tabO q] (just (.d (dS v.enc)) [tabO q])
  | 0, v, h, _ => by
    have := V.depth_le v
    omega
  | n + 1, v, h, hv => by
    have ih := encode_fn q n
    have hkd := V.fine_kids hv
    have hen := V.enc_eq v
    have hpl := V.parts_length v
    have hp6 := V.parts_take6 v
    have hp5 := V.parts_take5 v
    have hps := V.parts_size v hv.1
    have hko := V.key_ok hv.1
    have hnum := V.num_le hv.1
    have hkl := V.keys_len hv.1
    have hll := V.kids_le hv
    have hc := hv.2.1
    have fi := FormatInt_fn q v.num (by omega) (by omega)
    have ft := encodeString_fn v.text (by have := okText_size (V.text_ok hv.1); omega)
    generalize v.enc = R at *
    generalize v.parts = ps at *
    obtain ⟨k, nm, t, ks, kids⟩ := v
    simp only [V.kind, V.num, V.text, V.keys, V.kids] at hkd hpl hp6 hp5 hko hnum hkl hll fi ft
    refine FunQ.intro Tryz.func53 rfl (by kernel_rfl) rfl ?_
    repeat' (first | refine W.seq ?_ | refine W.rg ?_ | refine W.dra' ?_ | refine W.block ?_ | refine W.skip ?_ | refine W.exit ?_ | refine W.cond_true' ?_ | refine W.cond_false' ?_ | refine WG.nil ?_ | refine WG.run' (E := env) ?_ | refine WG.gt' ?_ | refine WG.gf' ?_ | refine WG.ixm' (E := env) ?_ | refine WG.ixo' (E := env) ?_ | refine WG.legm' (E := env) ?_ | refine WG.slS' (E := env) ?_ | refine WG.slD' (E := env) ?_ | refine WG.ap' (E := env) ?_ | refine WD.nil ?_ | refine WD.bs' (E := env) ?_ | refine WD.s' (E := env) (t := .d _) ?_ | refine WD.p' ?_ | refine WD.px' ?_ | refine WD.s' (E := env) (t := .ea _ _) ?_ | refine WD.s' (E := env) (t := .lp _ _) ?_ | refine WD.s' (E := env) (t := .og _ _) ?_ | refine WD.s' (E := env) (t := .agg _) ?_ | refine WD.s' (E := env) (t := .tup _) ?_ | refine WD.s' (E := env) (t := .clo _ _) ?_ | refine WD.ixm' (E := env) ?_ | refine WD.ixo' (E := env) ?_ | refine WD.legm' (E := env) ?_ | refine WD.slS' (E := env) ?_ | refine WD.slD' (E := env) ?_ | refine WG.cq (E := env) [0] [0] false rfl rfl (fi) rfl rfl rfl rfl rfl rfl rfl (by first | exact trivial | exact ⟨rfl, trivial⟩ | exact ⟨rfl, rfl, trivial⟩) (.inl rfl) rfl (fun h => nomatch h) rfl rfl ?_ | refine WG.cqx (E := env) [0] [0] false rfl (fi) rfl rfl rfl rfl rfl rfl rfl (by first | exact trivial | exact ⟨rfl, trivial⟩ | exact ⟨rfl, rfl, trivial⟩) (.inl rfl) rfl (fun h => nomatch h) rfl ?_ | refine WG.c (E := env) rfl rfl (ft) rfl rfl ?_ | refine WD.c (E := env) rfl rfl (ft) rfl rfl ?_ | refine WG.co (E := env) rfl rfl (ft) rfl rfl rfl rfl ?_ | refine WG.cx (E := env) rfl (ft) rfl ?_ | ((first | refine WG.sp' (fun h => ?_) fun h => ?_ | refine W.cond' (fun h => ?_) fun h => ?_ | refine WD.sp' (fun h => ?_) fun h => ?_) <;> (try simp only [decide_eq_true_eq, decide_eq_false_iff_not, Bool.not_eq_true', Bool.not_eq_false', Bool.and_eq_true, Bool.or_eq_true, Bool.and_eq_false_iff, Bool.or_eq_false_iff, Bool.not_eq_true, Bool.not_eq_false, Int.not_lt, Int.not_le, List.length_map, beq_self_eq_true, Bool.true_eq_false, Bool.false_eq_true] at h) <;> (try (exfalso; first | contradiction | omega))))
    · (refine W.ret ?_; refine RetR.tb' ?_)
      rw [hen, if_pos (by assumption)]
      rfl
    · (refine W.ret ?_; refine RetR.tb' ?_)
      rw [hen, if_neg (by assumption), if_pos (by assumption)]
      rfl
    · (refine W.ret ?_; refine RetR.tb' ?_)
      rw [hen, if_neg (by assumption), if_neg (by assumption), if_pos (by assumption)]
      rfl
    · (refine W.ret ?_; refine RetR.tb' ?_)
      rw [hen, if_neg (by assumption), if_neg (by assumption), if_neg (by assumption), if_pos (by assumption)]
      rfl
    · (refine W.ret ?_; refine RetR.tb' ?_)
      rw [hen, if_neg (by assumption), if_neg (by assumption), if_neg (by assumption), if_neg (by assumption), if_pos (by assumption)]
      rfl
    rw [if_neg (by assumption), if_neg (by assumption), if_neg (by assumption), if_neg (by assumption), if_neg (by assumption)] at hen
    refine W.loopI (fun m S => ∃ (i : Nat) (rv : List (List D)), m = kids.length - i ∧ (i ≤ kids.length ∧ rv.length = i ∧ rv = (ps.take i).map keyRow) ∧ S = ⟨ofL [(1, .lp 1 0), (3, .og 2 0), (27, .d (.sl 5 (kids.map V.row))), (28, vI .i64 (kids.map V.row).length), (29, vI .i64 i)], [tabO q, .pv ((V.mk k nm t ks kids).rowP.map .d), .gr 1 9 rv 0 false]⟩) _ _ ⟨0, [], rfl, ⟨by omega, rfl, rfl⟩, rfl⟩ (St.imp.of_le (by (refine le_ofL rfl ?_ ?_ <;> (repeat (first | exact trivial | refine ⟨⟨rfl, rfl⟩, ?_⟩ | refine ⟨rfl, .inl rfl, ?_⟩ | refine ⟨rfl, .inr rfl, ?_⟩))))) ?_
    rintro m S ⟨i, rv, rfl, ⟨hi, hrl, hrv⟩, rfl⟩
    by_cases hlt : i < kids.length
    · have hmem := hkd _ (getD_mem' (show Int.toNat (i : Int) < kids.length by rw [Int.toNat_natCast]; exact hlt))
      have hih := ih (kids.getD (Int.toNat (i : Int)) default) (by have := hmem.2; omega) hmem.1
      have hes := V.enc_le hmem.1
      have hqs := quoted_small (hko (Int.toNat (i : Int)))
      have hqe := encodeString_fn (ks.getD (Int.toNat (i : Int)) default) (by have := okText_size (hko (Int.toNat (i : Int))); omega)
      have hq0 : quoted (ks.getD i noS) = quoted (ks.getD (Int.toNat (i : Int)) default) := by rw [Int.toNat_natCast]; rfl
      have he0 : (kids.getD i default).enc = (kids.getD (Int.toNat (i : Int)) default).enc := by rw [Int.toNat_natCast]
      replace hp6 := fun h => hp6 h i hlt
      replace hp5 := fun h => hp5 h i hlt
      rw [hq0, he0] at hp6
      rw [he0] at hp5
      generalize quoted (ks.getD (Int.toNat (i : Int)) default) = qk at *
      generalize (kids.getD (Int.toNat (i : Int)) default).enc = e at *
      have z1 : (qk ++ ⟨#[58]⟩).size = qk.size + 1 := by rw [ByteArray.size_append]; rfl
      have z2 : (⟨#[58]⟩ : ByteArray).size = 1 := rfl
      repeat' (first | refine WG.ixm (E := env) (f' := V.rowP) rfl rfl rfl rfl rfl rfl rfl (fun x => V.row_eq x) (by (first | exact trivial | (simp only [inRange, List.length_map]; omega) | omega | assumption)) ?_ | refine W.seq ?_ | refine W.rg ?_ | refine W.dra' ?_ | refine W.block ?_ | refine W.skip ?_ | refine W.exit ?_ | refine W.cond_true' ?_ | refine W.cond_false' ?_ | refine WG.nil ?_ | refine WG.run' (E := env) ?_ | refine WG.gt' ?_ | refine WG.gf' ?_ | refine WG.ixm' (E := env) ?_ | refine WG.ixo' (E := env) ?_ | refine WG.legm' (E := env) ?_ | refine WG.slS' (E := env) ?_ | refine WG.slD' (E := env) ?_ | refine WG.ap' (E := env) ?_ | refine WD.nil ?_ | refine WD.bs' (E := env) ?_ | refine WD.s' (E := env) (t := .d _) ?_ | refine WD.p' ?_ | refine WD.px' ?_ | refine WD.s' (E := env) (t := .ea _ _) ?_ | refine WD.s' (E := env) (t := .lp _ _) ?_ | refine WD.s' (E := env) (t := .og _ _) ?_ | refine WD.s' (E := env) (t := .agg _) ?_ | refine WD.s' (E := env) (t := .tup _) ?_ | refine WD.s' (E := env) (t := .clo _ _) ?_ | refine WD.ixm' (E := env) ?_ | refine WD.ixo' (E := env) ?_ | refine WD.legm' (E := env) ?_ | refine WD.slS' (E := env) ?_ | refine WD.slD' (E := env) ?_ | refine WG.cq (E := env) [0] [0] false rfl rfl (hih) rfl rfl rfl rfl rfl rfl rfl (by first | exact trivial | exact ⟨rfl, trivial⟩ | exact ⟨rfl, rfl, trivial⟩) (.inl rfl) rfl (fun h => nomatch h) rfl rfl ?_ | refine WG.cqx (E := env) [0] [0] false rfl (hih) rfl rfl rfl rfl rfl rfl rfl (by first | exact trivial | exact ⟨rfl, trivial⟩ | exact ⟨rfl, rfl, trivial⟩) (.inl rfl) rfl (fun h => nomatch h) rfl ?_ | refine WG.c (E := env) rfl rfl (hqe) rfl rfl ?_ | refine WD.c (E := env) rfl rfl (hqe) rfl rfl ?_ | refine WG.co (E := env) rfl rfl (hqe) rfl rfl rfl rfl ?_ | refine WG.cx (E := env) rfl (hqe) rfl ?_ | ((first | refine WG.sp' (fun h => ?_) fun h => ?_ | refine W.cond' (fun h => ?_) fun h => ?_ | refine WD.sp' (fun h => ?_) fun h => ?_) <;> (try simp only [decide_eq_true_eq, decide_eq_false_iff_not, Bool.not_eq_true', Bool.not_eq_false', Bool.and_eq_true, Bool.or_eq_true, Bool.and_eq_false_iff, Bool.or_eq_false_iff, Bool.not_eq_true, Bool.not_eq_false, Int.not_lt, Int.not_le, List.length_map, beq_self_eq_true, Bool.true_eq_false, Bool.false_eq_true] at h) <;> (try (exfalso; first | contradiction | omega))))
      · have hk6 : k = 6 := by assumption
        have hkl2 : (V.mk k nm t ks kids).keys.length = kids.length := hkl hk6
        repeat' (first | refine W.seq ?_ | refine W.rg ?_ | refine W.dra' ?_ | refine W.block ?_ | refine W.skip ?_ | refine W.exit ?_ | refine W.cond_true' ?_ | refine W.cond_false' ?_ | refine WG.nil ?_ | refine WG.run' (E := env) ?_ | refine WG.gt' ?_ | refine WG.gf' ?_ | refine WG.ixm' (E := env) ?_ | refine WG.ixo' (E := env) ?_ | refine WG.legm' (E := env) ?_ | refine WG.slS' (E := env) ?_ | refine WG.slD' (E := env) ?_ | refine WG.ap' (E := env) ?_ | refine WD.nil ?_ | refine WD.bs' (E := env) ?_ | refine WD.s' (E := env) (t := .d _) ?_ | refine WD.p' ?_ | refine WD.px' ?_ | refine WD.s' (E := env) (t := .ea _ _) ?_ | refine WD.s' (E := env) (t := .lp _ _) ?_ | refine WD.s' (E := env) (t := .og _ _) ?_ | refine WD.s' (E := env) (t := .agg _) ?_ | refine WD.s' (E := env) (t := .tup _) ?_ | refine WD.s' (E := env) (t := .clo _ _) ?_ | refine WD.ixm' (E := env) ?_ | refine WD.ixo' (E := env) ?_ | refine WD.legm' (E := env) ?_ | refine WD.slS' (E := env) ?_ | refine WD.slD' (E := env) ?_ | refine WG.c (E := env) rfl rfl (hqe) rfl rfl ?_ | refine WD.c (E := env) rfl rfl (hqe) rfl rfl ?_ | refine WG.co (E := env) rfl rfl (hqe) rfl rfl rfl rfl ?_ | refine WG.cx (E := env) rfl (hqe) rfl ?_ | ((first | refine WG.sp' (fun h => ?_) fun h => ?_ | refine W.cond' (fun h => ?_) fun h => ?_ | refine WD.sp' (fun h => ?_) fun h => ?_) <;> (try simp only [decide_eq_true_eq, decide_eq_false_iff_not, Bool.not_eq_true', Bool.not_eq_false', Bool.and_eq_true, Bool.or_eq_true, Bool.and_eq_false_iff, Bool.or_eq_false_iff, Bool.not_eq_true, Bool.not_eq_false, Int.not_lt, Int.not_le, List.length_map, beq_self_eq_true, Bool.true_eq_false, Bool.false_eq_true] at h) <;> (try (exfalso; first | contradiction | omega))))
        refine ⟨_, _, by omega, ⟨i + 1, rv ++ [keyRow ((qk ++ ⟨#[58]⟩) ++ e)], rfl, ⟨by omega, by simp [hrl], ?_⟩, rfl⟩, (St.imp.rev 2 1 rfl).trans (St.imp.of_le (by (refine le_ofL rfl ?_ ?_ <;> (repeat (first | exact trivial | refine ⟨⟨rfl, rfl⟩, ?_⟩ | refine ⟨rfl, .inl rfl, ?_⟩ | refine ⟨rfl, .inr rfl, ?_⟩)))))⟩
        rw [hp6 hk6, List.map_append, ← hrv]
        rfl
      · have hk5 : ¬ k = 6 := by assumption
        refine ⟨_, _, by omega, ⟨i + 1, rv ++ [keyRow e], rfl, ⟨by omega, by simp [hrl], ?_⟩, rfl⟩, (St.imp.rev 2 1 rfl).trans (St.imp.of_le (by (refine le_ofL rfl ?_ ?_ <;> (repeat (first | exact trivial | refine ⟨⟨rfl, rfl⟩, ?_⟩ | refine ⟨rfl, .inl rfl, ?_⟩ | refine ⟨rfl, .inr rfl, ?_⟩)))))⟩
        rw [hp5 hk5, List.map_append, ← hrv]
        rfl
    · obtain rfl : i = kids.length := by omega
      rw [← hpl, List.take_length] at hrv
      have hjs := hps ps.length
      rw [List.take_length] at hjs
      have hj := Join_fn ps commaS (by omega) (by omega)
      have z3 : (⟨#[91]⟩ : ByteArray).size = 1 := rfl
      have z4 : (⟨#[123]⟩ : ByteArray).size = 1 := rfl
      have z5 : (⟨#[93]⟩ : ByteArray).size = 1 := rfl
      have z6 : (⟨#[125]⟩ : ByteArray).size = 1 := rfl
      generalize joinS ps commaS = js at *
      have z7 : (⟨#[91]⟩ ++ js).size = js.size + 1 := by rw [ByteArray.size_append, z3]; omega
      have z8 : (⟨#[123]⟩ ++ js).size = js.size + 1 := by rw [ByteArray.size_append, z4]; omega
      subst hrv
      refine W.pubD 2 rfl ?_
      repeat' (first | refine W.seq ?_ | refine W.rg ?_ | refine W.dra' ?_ | refine W.block ?_ | refine W.skip ?_ | refine W.exit ?_ | refine W.cond_true' ?_ | refine W.cond_false' ?_ | refine WG.nil ?_ | refine WG.run' (E := env) ?_ | refine WG.gt' ?_ | refine WG.gf' ?_ | refine WG.ixm' (E := env) ?_ | refine WG.ixo' (E := env) ?_ | refine WG.legm' (E := env) ?_ | refine WG.slS' (E := env) ?_ | refine WG.slD' (E := env) ?_ | refine WG.ap' (E := env) ?_ | refine WD.nil ?_ | refine WD.bs' (E := env) ?_ | refine WD.s' (E := env) (t := .d _) ?_ | refine WD.p' ?_ | refine WD.px' ?_ | refine WD.s' (E := env) (t := .ea _ _) ?_ | refine WD.s' (E := env) (t := .lp _ _) ?_ | refine WD.s' (E := env) (t := .og _ _) ?_ | refine WD.s' (E := env) (t := .agg _) ?_ | refine WD.s' (E := env) (t := .tup _) ?_ | refine WD.s' (E := env) (t := .clo _ _) ?_ | refine WD.ixm' (E := env) ?_ | refine WD.ixo' (E := env) ?_ | refine WD.legm' (E := env) ?_ | refine WD.slS' (E := env) ?_ | refine WD.slD' (E := env) ?_ | refine WG.c (E := env) rfl rfl (hj) rfl rfl ?_ | refine WD.c (E := env) rfl rfl (hj) rfl rfl ?_ | refine WG.co (E := env) rfl rfl (hj) rfl rfl rfl rfl ?_ | refine WG.cx (E := env) rfl (hj) rfl ?_ | ((first | refine WG.sp' (fun h => ?_) fun h => ?_ | refine W.cond' (fun h => ?_) fun h => ?_ | refine WD.sp' (fun h => ?_) fun h => ?_) <;> (try simp only [decide_eq_true_eq, decide_eq_false_iff_not, Bool.not_eq_true', Bool.not_eq_false', Bool.and_eq_true, Bool.or_eq_true, Bool.and_eq_false_iff, Bool.or_eq_false_iff, Bool.not_eq_true, Bool.not_eq_false, Int.not_lt, Int.not_le, List.length_map, beq_self_eq_true, Bool.true_eq_false, Bool.false_eq_true] at h) <;> (try (exfalso; first | contradiction | omega))))
      · (refine W.ret ?_; refine RetR.tb' ?_)
        rw [hen, if_pos (by assumption)]
        rfl
      · (refine W.ret ?_; refine RetR.tb' ?_)
        rw [hen, if_neg (by assumption)]
        rfl

end Go.Proofs.YtfmhfdegkpbeiaaGreatDoor
