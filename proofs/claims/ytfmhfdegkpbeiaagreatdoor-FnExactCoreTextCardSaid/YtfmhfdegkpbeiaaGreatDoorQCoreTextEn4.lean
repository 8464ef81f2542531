/-
  Values written out, by the reference. Conditions: right values.
-/
import Derived.Test.YtfmhfdegkpbeiaaGreatDoorQCoreTextEn3
set_option linter.unusedVariables false
set_option linter.unusedSimpArgs false
set_option maxRecDepth 100000
namespace Go.Proofs.YtfmhfdegkpbeiaaGreatDoor
open Go.RowKit

set_option maxHeartbeats 1000000 in
theorem l2Decimal_fn (n : Int) (h0 : -1000000000000000 ≤ n) (h1 : n ≤ 1000000000000000) : Fun env.P 91 [dI n] (.d (dS (itoaS n))) [] := by
  by_cases h : n < 0
  · obtain ⟨m, rfl⟩ : ∃ m : Nat, n = -(m : Int) := ⟨n.natAbs, by omega⟩
    have hd := l2Digits_fn m (by omega)
    rw [itoaS_neg m (by omega)]
    have hs := decS_size m (by omega)
    have z1 : (⟨#[45]⟩ : ByteArray).size = 1 := rfl
    generalize decS m = b at *
    rw [show ((m : Int)) = - (-(m : Int)) by omega] at hd
    refine Fun.intro Tryz.func91 rfl (by kernel_rfl) rfl ?_
    repeat' (first | refine W.seq ?_ | refine W.rg ?_ | refine W.dra' ?_ | refine W.block ?_ | refine W.skip ?_ | refine W.exit ?_ | refine W.cond_true' ?_ | refine W.cond_false' ?_ | refine WG.nil ?_ | refine WG.run' (E := env) ?_ | refine WG.gt' ?_ | refine WG.gf' ?_ | refine WG.ixm' (E := env) ?_ | refine WG.ixo' (E := env) ?_ | refine WG.legm' (E := env) ?_ | refine WG.slS' (E := env) ?_ | refine WG.slD' (E := env) ?_ | refine WG.ap' (E := env) ?_ | refine WD.nil ?_ | refine WD.bs' (E := env) ?_ | refine WD.s' (E := env) (t := .d _) ?_ | refine WD.p' ?_ | refine WD.px' ?_ | refine WD.s' (E := env) (t := .ea _ _) ?_ | refine WD.s' (E := env) (t := .lp _ _) ?_ | refine WD.s' (E := env) (t := .og _ _) ?_ | refine WD.s' (E := env) (t := .agg _) ?_ | refine WD.s' (E := env) (t := .tup _) ?_ | refine WD.s' (E := env) (t := .clo _ _) ?_ | refine WD.ixm' (E := env) ?_ | refine WD.ixo' (E := env) ?_ | refine WD.legm' (E := env) ?_ | refine WD.slS' (E := env) ?_ | refine WD.slD' (E := env) ?_ | refine WG.c (E := env) rfl rfl (hd) rfl rfl ?_ | refine WD.c (E := env) rfl rfl (hd) rfl rfl ?_ | refine WG.co (E := env) rfl rfl (hd) rfl rfl rfl rfl ?_ | refine WG.cx (E := env) rfl (hd) rfl ?_ | ((first | refine WG.sp' (fun h => ?_) fun h => ?_ | refine W.cond' (fun h => ?_) fun h => ?_ | refine WD.sp' (fun h => ?_) fun h => ?_) <;> (try simp only [decide_eq_true_eq, decide_eq_false_iff_not, Bool.not_eq_true', Bool.not_eq_false', Bool.and_eq_true, Bool.or_eq_true, Bool.and_eq_false_iff, Bool.or_eq_false_iff, Bool.not_eq_true, Bool.not_eq_false, Int.not_lt, Int.not_le, List.length_map, beq_self_eq_true, Bool.true_eq_false, Bool.false_eq_true] at h) <;> (try (exfalso; first | contradiction | omega))))
    all_goals (refine W.ret ?_; (first | refine RetQ.b' ?_ | refine RetQ.i' ?_ | refine RetQ.d' ?_ | refine RetQ.t2' ?_ ?_ | refine RetQ.t3' ?_ ?_ ?_))
    all_goals rfl
  · obtain ⟨m, rfl⟩ : ∃ m : Nat, n = (m : Int) := ⟨n.toNat, by omega⟩
    have hd := l2Digits_fn m (by omega)
    rw [itoaS_nat]
    refine Fun.intro Tryz.func91 rfl (by kernel_rfl) rfl ?_
    repeat' (first | refine W.seq ?_ | refine W.rg ?_ | refine W.dra' ?_ | refine W.block ?_ | refine W.skip ?_ | refine W.exit ?_ | refine W.cond_true' ?_ | refine W.cond_false' ?_ | refine WG.nil ?_ | refine WG.run' (E := env) ?_ | refine WG.gt' ?_ | refine WG.gf' ?_ | refine WG.ixm' (E := env) ?_ | refine WG.ixo' (E := env) ?_ | refine WG.legm' (E := env) ?_ | refine WG.slS' (E := env) ?_ | refine WG.slD' (E := env) ?_ | refine WG.ap' (E := env) ?_ | refine WD.nil ?_ | refine WD.bs' (E := env) ?_ | refine WD.s' (E := env) (t := .d _) ?_ | refine WD.p' ?_ | refine WD.px' ?_ | refine WD.s' (E := env) (t := .ea _ _) ?_ | refine WD.s' (E := env) (t := .lp _ _) ?_ | refine WD.s' (E := env) (t := .og _ _) ?_ | refine WD.s' (E := env) (t := .agg _) ?_ | refine WD.s' (E := env) (t := .tup _) ?_ | refine WD.s' (E := env) (t := .clo _ _) ?_ | refine WD.ixm' (E := env) ?_ | refine WD.ixo' (E := env) ?_ | refine WD.legm' (E := env) ?_ | refine WD.slS' (E := env) ?_ | refine WD.slD' (E := env) ?_ | refine WG.c (E := env) rfl rfl (hd) rfl rfl ?_ | refine WD.c (E := env) rfl rfl (hd) rfl rfl ?_ | refine WG.co (E := env) rfl rfl (hd) rfl rfl rfl rfl ?_ | refine WG.cx (E := env) rfl (hd) rfl ?_ | ((first | refine WG.sp' (fun h => ?_) fun h => ?_ | refine W.cond' (fun h => ?_) fun h => ?_ | refine WD.sp' (fun h => ?_) fun h => ?_) <;> (try simp only [decide_eq_true_eq, decide_eq_false_iff_not, Bool.not_eq_true', Bool.not_eq_false', Bool.and_eq_true, Bool.or_eq_true, Bool.and_eq_false_iff, Bool.or_eq_false_iff, Bool.not_eq_true, Bool.not_eq_false, Int.not_lt, Int.not_le, List.length_map, beq_self_eq_true, Bool.true_eq_false, Bool.false_eq_true] at h) <;> (try (exfalso; first | contradiction | omega))))
    all_goals (refine W.ret ?_; (first | refine RetQ.b' ?_ | refine RetQ.i' ?_ | refine RetQ.d' ?_ | refine RetQ.t2' ?_ ?_ | refine RetQ.t3' ?_ ?_ ?_))
    all_goals rfl

theorem V.keysL_at (v : V) {n i : Nat} (h : i < n) : (v.keysL n).getD i default = v.keys.getD i noS := by
  simp [V.keysL, List.getD_eq_getElem?_getD, h]
theorem V.keysL_length (v : V) (n : Nat) : (v.keysL n).length = n := by simp [V.keysL]

set_option maxHeartbeats 8000000 in
theorem l2Encode_fn : ∀ (n : Nat) (v : V), v.count ≤ n → v.fine → Fun env.P 50 [cellsD v.cells] (.d (dS v.enc)) []
  | 0, v, h, _ => by
    have := V.depth_le v
    omega
  | n + 1, v, h, hv => by
    have ih := l2Encode_fn n
    have hkd := V.fine_kids hv
    have hen := V.enc_eq v
    have hpl := V.parts_length v
    have hp6 := V.parts_take6 v
    have hp5 := V.parts_take5 v
    have hps := V.parts_size v hv.1
    have hko := V.key_ok hv.1
    have hnum := V.num_le hv.1
    have hll := V.kids_le hv
    have hc := hv.2.1
    have hdm := l2Decimal_fn v.num (by omega) (by omega)
    have hqt := l2Quote_fn v.text (by have := okText_size (V.text_ok hv.1); omega)
    have p1 := FunQ.pubG (l1Parts_fn v hv)
    have k1 := FunQ.pubG (l1Keys_fn v hv)
    have hka := fun i (hi : i < v.kids.length) => V.keysL_at v hi
    have hkn := V.keysL_length v v.kids.length
    obtain ⟨r1, e1⟩ := V.cells_cons v
    rw [e1] at p1 k1 ⊢
    generalize v.enc = R at *
    generalize v.parts = ps at *
    generalize v.keysL v.kids.length = kl at *
    have hcl : 1 ≤ ((⟨v.kind, v.num, v.text, noS, (v.kids.length : Int)⟩ :: r1 : List Cell)).length := by simp
    generalize v.kind = vk at *
    generalize v.num = vn at *
    generalize v.text = vt at *
    generalize v.keys = ks at *
    generalize v.kids = kids at *
    refine Fun.intro Tryz.func50 rfl (by kernel_rfl) rfl ?_
    repeat' (first | refine W.seq ?_ | refine W.rg ?_ | refine W.dra' ?_ | refine W.block ?_ | refine W.skip ?_ | refine W.exit ?_ | refine W.cond_true' ?_ | refine W.cond_false' ?_ | refine WG.nil ?_ | refine WG.run' (E := env) ?_ | refine WG.gt' ?_ | refine WG.gf' ?_ | refine WG.ixm' (E := env) ?_ | refine WG.ixo' (E := env) ?_ | refine WG.legm' (E := env) ?_ | refine WG.slS' (E := env) ?_ | refine WG.slD' (E := env) ?_ | refine WG.ap' (E := env) ?_ | refine WD.nil ?_ | refine WD.bs' (E := env) ?_ | refine WD.s' (E := env) (t := .d _) ?_ | refine WD.p' ?_ | refine WD.px' ?_ | refine WD.s' (E := env) (t := .ea _ _) ?_ | refine WD.s' (E := env) (t := .lp _ _) ?_ | refine WD.s' (E := env) (t := .og _ _) ?_ | refine WD.s' (E := env) (t := .agg _) ?_ | refine WD.s' (E := env) (t := .tup _) ?_ | refine WD.s' (E := env) (t := .clo _ _) ?_ | refine WD.ixm' (E := env) ?_ | refine WD.ixo' (E := env) ?_ | refine WD.legm' (E := env) ?_ | refine WD.slS' (E := env) ?_ | refine WD.slD' (E := env) ?_ | refine WG.c (E := env) rfl rfl (hdm) rfl rfl ?_ | refine WD.c (E := env) rfl rfl (hdm) rfl rfl ?_ | refine WG.co (E := env) rfl rfl (hdm) rfl rfl rfl rfl ?_ | refine WG.cx (E := env) rfl (hdm) rfl ?_ | refine WG.c (E := env) rfl rfl (hqt) rfl rfl ?_ | refine WD.c (E := env) rfl rfl (hqt) rfl rfl ?_ | refine WG.co (E := env) rfl rfl (hqt) rfl rfl rfl rfl ?_ | refine WG.cx (E := env) rfl (hqt) rfl ?_ | refine WG.c (E := env) rfl rfl (p1) rfl rfl ?_ | refine WD.c (E := env) rfl rfl (p1) rfl rfl ?_ | refine WG.co (E := env) rfl rfl (p1) rfl rfl rfl rfl ?_ | refine WG.cx (E := env) rfl (p1) rfl ?_ | refine WG.c (E := env) rfl rfl (k1) rfl rfl ?_ | refine WD.c (E := env) rfl rfl (k1) rfl rfl ?_ | refine WG.co (E := env) rfl rfl (k1) rfl rfl rfl rfl ?_ | refine WG.cx (E := env) rfl (k1) rfl ?_ | ((first | refine WG.sp' (fun h => ?_) fun h => ?_ | refine W.cond' (fun h => ?_) fun h => ?_ | refine WD.sp' (fun h => ?_) fun h => ?_) <;> (try simp only [decide_eq_true_eq, decide_eq_false_iff_not, Bool.not_eq_true', Bool.not_eq_false', Bool.and_eq_true, Bool.or_eq_true, Bool.and_eq_false_iff, Bool.or_eq_false_iff, Bool.not_eq_true, Bool.not_eq_false, Int.not_lt, Int.not_le, List.length_map, beq_self_eq_true, Bool.true_eq_false, Bool.false_eq_true] at h) <;> (try (exfalso; first | contradiction | omega))))
    · (refine W.ret ?_; (first | refine RetQ.b' ?_ | refine RetQ.i' ?_ | refine RetQ.d' ?_ | refine RetQ.t2' ?_ ?_ | refine RetQ.t3' ?_ ?_ ?_))
      have hh : vk = 0 := by assumption
      rw [hen, if_pos hh]
      rfl
    · (refine W.ret ?_; (first | refine RetQ.b' ?_ | refine RetQ.i' ?_ | refine RetQ.d' ?_ | refine RetQ.t2' ?_ ?_ | refine RetQ.t3' ?_ ?_ ?_))
      have n0 : ¬ vk = 0 := by assumption
      have hh : vk = 1 := by assumption
      rw [hen, if_neg n0, if_pos hh]
      rfl
    · (refine W.ret ?_; (first | refine RetQ.b' ?_ | refine RetQ.i' ?_ | refine RetQ.d' ?_ | refine RetQ.t2' ?_ ?_ | refine RetQ.t3' ?_ ?_ ?_))
      have n0 : ¬ vk = 0 := by assumption
      have n1 : ¬ vk = 1 := by assumption
      have hh : vk = 2 := by assumption
      rw [hen, if_neg n0, if_neg n1, if_pos hh]
      rfl
    · (refine W.ret ?_; (first | refine RetQ.b' ?_ | refine RetQ.i' ?_ | refine RetQ.d' ?_ | refine RetQ.t2' ?_ ?_ | refine RetQ.t3' ?_ ?_ ?_))
      have n0 : ¬ vk = 0 := by assumption
      have n1 : ¬ vk = 1 := by assumption
      have n2 : ¬ vk = 2 := by assumption
      have hh : vk = 3 := by assumption
      rw [hen, if_neg n0, if_neg n1, if_neg n2, if_pos hh]
      rfl
    · (refine W.ret ?_; (first | refine RetQ.b' ?_ | refine RetQ.i' ?_ | refine RetQ.d' ?_ | refine RetQ.t2' ?_ ?_ | refine RetQ.t3' ?_ ?_ ?_))
      have n0 : ¬ vk = 0 := by assumption
      have n1 : ¬ vk = 1 := by assumption
      have n2 : ¬ vk = 2 := by assumption
      have n3 : ¬ vk = 3 := by assumption
      have hh : vk = 4 := by assumption
      rw [hen, if_neg n0, if_neg n1, if_neg n2, if_neg n3, if_pos hh]
      rfl
    have n0 : ¬ vk = 0 := by assumption
    have n1 : ¬ vk = 1 := by assumption
    have n2 : ¬ vk = 2 := by assumption
    have n3 : ¬ vk = 3 := by assumption
    have n4 : ¬ vk = 4 := by assumption
    rw [if_neg n0, if_neg n1, if_neg n2, if_neg n3, if_neg n4] at hen
    refine W.loop (fun m S => ∃ (i : Nat) (b : ByteArray), m = kids.length - i ∧ (i ≤ kids.length ∧ b = joinS (ps.take i) commaS) ∧ S = ⟨ofL [(0, .d (cellsD (⟨vk, vn, vt, noS, (kids.length : Int)⟩ :: r1))), (3, .d (.sl 1 (kids.map partR))), (4, .d (.sl 1 (kl.map keyRow))), (5, vS b), (6, vI .i64 i)], []⟩) _ _ ⟨0, _, rfl, ⟨by omega, rfl⟩, rfl⟩ (by (refine le_ofL rfl ?_ ?_ <;> (repeat (first | exact trivial | refine ⟨⟨rfl, rfl⟩, ?_⟩ | refine ⟨rfl, .inl rfl, ?_⟩ | refine ⟨rfl, .inr rfl, ?_⟩)))) ?_
    rintro m S ⟨i, b, rfl, ⟨hi, hb⟩, rfl⟩
    have hbs := hps i
    rw [← hb] at hbs
    by_cases hlt : i < kids.length
    · have hmem := hkd _ (getD_mem' (show Int.toNat (i : Int) < kids.length by rw [Int.toNat_natCast]; exact hlt))
      have hih := ih (kids.getD (Int.toNat (i : Int)) default) (by have := hmem.2; omega) hmem.1
      have hes := V.enc_le hmem.1
      have hki := hka i hlt
      have hk0 : kl.getD (Int.toNat (i : Int)) default = ks.getD i noS := by rw [Int.toNat_natCast]; exact hki
      have hok : okText (ks.getD i noS) = true := hko i
      have hqs := quoted_small hok
      have hqe : Fun env.P 80 [dS (kl.getD (Int.toNat (i : Int)) default)] (.d (dS (quoted (ks.getD i noS)))) [] := by
        have h := l2Quote_fn (ks.getD i noS) (by have := okText_size hok; omega)
        rw [hk0]
        exact h
      replace hp6 := fun h => hp6 h i hlt
      replace hp5 := fun h => hp5 h i hlt
      have he0 : (kids.getD i default).enc = (kids.getD (Int.toNat (i : Int)) default).enc := by rw [Int.toNat_natCast]
      rw [he0] at hp6 hp5
      generalize quoted (ks.getD i noS) = qk at *
      generalize (kids.getD (Int.toNat (i : Int)) default).enc = e at *
      have z0 : (⟨#[44]⟩ : ByteArray).size = 1 := rfl
      have z1 : (⟨#[58]⟩ : ByteArray).size = 1 := rfl
      have z2 : (b ++ ⟨#[44]⟩).size = b.size + 1 := by rw [ByteArray.size_append]; rfl
      have z3 : ((b ++ ⟨#[44]⟩) ++ qk).size = b.size + 1 + qk.size := by rw [ByteArray.size_append, z2]
      have z4 : (((b ++ ⟨#[44]⟩) ++ qk) ++ ⟨#[58]⟩).size = b.size + 1 + qk.size + 1 := by rw [ByteArray.size_append, z3]; rfl
      have z5 : (b ++ qk).size = b.size + qk.size := ByteArray.size_append ..
      have z6 : ((b ++ qk) ++ ⟨#[58]⟩).size = b.size + qk.size + 1 := by rw [ByteArray.size_append, z5]; rfl
      have hne : 0 < i → ps.take i ≠ [] := fun h0 e => by
        have := congrArg List.length e
        rw [List.length_take, List.length_nil] at this
        omega
      repeat' (first | refine W.seq ?_ | refine W.rg ?_ | refine W.dra' ?_ | refine W.block ?_ | refine W.skip ?_ | refine W.exit ?_ | refine W.cond_true' ?_ | refine W.cond_false' ?_ | refine WG.nil ?_ | refine WG.run' (E := env) ?_ | refine WG.gt' ?_ | refine WG.gf' ?_ | refine WG.ixm' (E := env) ?_ | refine WG.ixo' (E := env) ?_ | refine WG.legm' (E := env) ?_ | refine WG.slS' (E := env) ?_ | refine WG.slD' (E := env) ?_ | refine WG.ap' (E := env) ?_ | refine WD.nil ?_ | refine WD.bs' (E := env) ?_ | refine WD.s' (E := env) (t := .d _) ?_ | refine WD.p' ?_ | refine WD.px' ?_ | refine WD.s' (E := env) (t := .ea _ _) ?_ | refine WD.s' (E := env) (t := .lp _ _) ?_ | refine WD.s' (E := env) (t := .og _ _) ?_ | refine WD.s' (E := env) (t := .agg _) ?_ | refine WD.s' (E := env) (t := .tup _) ?_ | refine WD.s' (E := env) (t := .clo _ _) ?_ | refine WD.ixm' (E := env) ?_ | refine WD.ixo' (E := env) ?_ | refine WD.legm' (E := env) ?_ | refine WD.slS' (E := env) ?_ | refine WD.slD' (E := env) ?_ | refine WG.c (E := env) rfl rfl (hih) rfl rfl ?_ | refine WD.c (E := env) rfl rfl (hih) rfl rfl ?_ | refine WG.co (E := env) rfl rfl (hih) rfl rfl rfl rfl ?_ | refine WG.cx (E := env) rfl (hih) rfl ?_ | refine WG.c (E := env) rfl rfl (hqe) rfl rfl ?_ | refine WD.c (E := env) rfl rfl (hqe) rfl rfl ?_ | refine WG.co (E := env) rfl rfl (hqe) rfl rfl rfl rfl ?_ | refine WG.cx (E := env) rfl (hqe) rfl ?_ | ((first | refine WG.sp' (fun h => ?_) fun h => ?_ | refine W.cond' (fun h => ?_) fun h => ?_ | refine WD.sp' (fun h => ?_) fun h => ?_) <;> (try simp only [decide_eq_true_eq, decide_eq_false_iff_not, Bool.not_eq_true', Bool.not_eq_false', Bool.and_eq_true, Bool.or_eq_true, Bool.and_eq_false_iff, Bool.or_eq_false_iff, Bool.not_eq_true, Bool.not_eq_false, Int.not_lt, Int.not_le, List.length_map, beq_self_eq_true, Bool.true_eq_false, Bool.false_eq_true] at h) <;> (try (exfalso; first | contradiction | omega))))
      · have hh : vk = 6 := by assumption
        refine ⟨_, _, by omega, ⟨i + 1, (((b ++ ⟨#[44]⟩) ++ qk) ++ ⟨#[58]⟩) ++ e, rfl, ⟨by omega, ?_⟩, rfl⟩, (by (refine le_ofL rfl ?_ ?_ <;> (repeat (first | exact trivial | refine ⟨⟨rfl, rfl⟩, ?_⟩ | refine ⟨rfl, .inl rfl, ?_⟩ | refine ⟨rfl, .inr rfl, ?_⟩))))⟩
        rw [hp6 hh, joinS_snoc _ _ _ (hne (by omega)), ← hb]
        simp only [ba_assoc]
      · have hh : ¬ vk = 6 := by assumption
        refine ⟨_, _, by omega, ⟨i + 1, (b ++ ⟨#[44]⟩) ++ e, rfl, ⟨by omega, ?_⟩, rfl⟩, (by (refine le_ofL rfl ?_ ?_ <;> (repeat (first | exact trivial | refine ⟨⟨rfl, rfl⟩, ?_⟩ | refine ⟨rfl, .inl rfl, ?_⟩ | refine ⟨rfl, .inr rfl, ?_⟩))))⟩
        rw [hp5 hh, joinS_snoc _ _ _ (hne (by omega)), ← hb]
      · have hh : vk = 6 := by assumption
        have hi0 : i = 0 := by omega
        refine ⟨_, _, by omega, ⟨i + 1, ((b ++ qk) ++ ⟨#[58]⟩) ++ e, rfl, ⟨by omega, ?_⟩, rfl⟩, (by (refine le_ofL rfl ?_ ?_ <;> (repeat (first | exact trivial | refine ⟨⟨rfl, rfl⟩, ?_⟩ | refine ⟨rfl, .inl rfl, ?_⟩ | refine ⟨rfl, .inr rfl, ?_⟩))))⟩
        rw [hp6 hh, hb, hi0]
        simp only [List.take_zero, List.nil_append]
        rw [joinS_one, joinS_nil, ba_nil]
      · have hh : ¬ vk = 6 := by assumption
        have hi0 : i = 0 := by omega
        refine ⟨_, _, by omega, ⟨i + 1, b ++ e, rfl, ⟨by omega, ?_⟩, rfl⟩, (by (refine le_ofL rfl ?_ ?_ <;> (repeat (first | exact trivial | refine ⟨⟨rfl, rfl⟩, ?_⟩ | refine ⟨rfl, .inl rfl, ?_⟩ | refine ⟨rfl, .inr rfl, ?_⟩))))⟩
        rw [hp5 hh, hb, hi0]
        simp only [List.take_zero, List.nil_append]
        rw [joinS_one, joinS_nil, ba_nil]
    · obtain rfl : i = kids.length := by omega
      rw [← hpl, List.take_length] at hb
      have z3 : (⟨#[91]⟩ : ByteArray).size = 1 := rfl
      have z4 : (⟨#[123]⟩ : ByteArray).size = 1 := rfl
      have z5 : (⟨#[93]⟩ : ByteArray).size = 1 := rfl
      have z6 : (⟨#[125]⟩ : ByteArray).size = 1 := rfl
      rw [← hb] at hen
      have z7 : (⟨#[91]⟩ ++ b).size = b.size + 1 := by rw [ByteArray.size_append, z3]; omega
      have z8 : (⟨#[123]⟩ ++ b).size = b.size + 1 := by rw [ByteArray.size_append, z4]; omega
      repeat' (first | refine W.seq ?_ | refine W.rg ?_ | refine W.dra' ?_ | refine W.block ?_ | refine W.skip ?_ | refine W.exit ?_ | refine W.cond_true' ?_ | refine W.cond_false' ?_ | refine WG.nil ?_ | refine WG.run' (E := env) ?_ | refine WG.gt' ?_ | refine WG.gf' ?_ | refine WG.ixm' (E := env) ?_ | refine WG.ixo' (E := env) ?_ | refine WG.legm' (E := env) ?_ | refine WG.slS' (E := env) ?_ | refine WG.slD' (E := env) ?_ | refine WG.ap' (E := env) ?_ | refine WD.nil ?_ | refine WD.bs' (E := env) ?_ | refine WD.s' (E := env) (t := .d _) ?_ | refine WD.p' ?_ | refine WD.px' ?_ | refine WD.s' (E := env) (t := .ea _ _) ?_ | refine WD.s' (E := env) (t := .lp _ _) ?_ | refine WD.s' (E := env) (t := .og _ _) ?_ | refine WD.s' (E := env) (t := .agg _) ?_ | refine WD.s' (E := env) (t := .tup _) ?_ | refine WD.s' (E := env) (t := .clo _ _) ?_ | refine WD.ixm' (E := env) ?_ | refine WD.ixo' (E := env) ?_ | refine WD.legm' (E := env) ?_ | refine WD.slS' (E := env) ?_ | refine WD.slD' (E := env) ?_ | ((first | refine WG.sp' (fun h => ?_) fun h => ?_ | refine W.cond' (fun h => ?_) fun h => ?_ | refine WD.sp' (fun h => ?_) fun h => ?_) <;> (try simp only [decide_eq_true_eq, decide_eq_false_iff_not, Bool.not_eq_true', Bool.not_eq_false', Bool.and_eq_true, Bool.or_eq_true, Bool.and_eq_false_iff, Bool.or_eq_false_iff, Bool.not_eq_true, Bool.not_eq_false, Int.not_lt, Int.not_le, List.length_map, beq_self_eq_true, Bool.true_eq_false, Bool.false_eq_true] at h) <;> (try (exfalso; first | contradiction | omega))))
      · have hh : vk = 5 := by assumption
        rw [hen, if_pos hh]
        (refine W.ret ?_; (first | refine RetQ.b' ?_ | refine RetQ.i' ?_ | refine RetQ.d' ?_ | refine RetQ.t2' ?_ ?_ | refine RetQ.t3' ?_ ?_ ?_))
        rfl
      · have hh : ¬ vk = 5 := by assumption
        rw [hen, if_neg hh]
        (refine W.ret ?_; (first | refine RetQ.b' ?_ | refine RetQ.i' ?_ | refine RetQ.d' ?_ | refine RetQ.t2' ?_ ?_ | refine RetQ.t3' ?_ ?_ ?_))
        rfl

end Go.Proofs.YtfmhfdegkpbeiaaGreatDoor
