/-
  The text of a tree, by the program and by the reference; the law, walked. Conditions: the table of powers of ten is lent (the program, the law).
-/
import Derived.Test.YtfmhfdegkpbeiaaGreatDoorQFormatProgramQFormatProgramFm3
import Derived.Test.YtfmhfdegkpbeiaaGreatDoorQFormatProgramQFormatProgramFm4
import Derived.Test.YtfmhfdegkpbeiaaGreatDoorQFormatProgramQFormatProgramTd1
set_option linter.unusedVariables false
set_option linter.unusedSimpArgs false
set_option maxRecDepth 100000
namespace Go.Proofs.YtfmhfdegkpbeiaaGreatDoor
open Go.RowKit

set_option maxHeartbeats 4000000 in
theorem fmt_step (q : TypeId × (Nat × Nat)) (ns : List Nd) (f : Nat) (hok : ∀ j, j < ns.length → NodeOK ns j) (hl : ns.length ≤ 1048576) (hcn : ∀ j, j < ns.length → cntF ns j ≤ 1000)
    (ihF : ∀ j, j < f → j < ns.length → FmtC q ns f j) (k : Nat) (hkf : k < f + 1) (hk : k < ns.length) (hMem : (ns.getD k default).op = 17 → MemC q ns (f + 1) k) : FmtC q ns (f + 1) k := by
  have hn := hok k hk
  have e : fmtF ns (f + 1) k = fmtB (ns.getD k default) (fmtF ns f (ns.getD k default).a.toNat) (fmtF ns f (ns.getD k default).b.toNat) (fmtF ns f (ns.getD k default).c.toNat) (memF ns f (ns.getD k default).a.toNat ++ [itemF (ns.getD k default) (fmtF ns f (ns.getD k default).b.toNat)]) := by rw [fmtF]
  have hN : ns.getD (Int.toNat (k : Int)) default = ns.getD k default := by rw [Int.toNat_natCast]
  have kid : ∀ x : Int, 0 ≤ x ∧ x < k → CloC q ns x (fmtF ns f x.toNat) ∧ (fmtF ns f x.toNat).size ≤ 200000 := fun x hx => by
    have h1 := ihF x.toNat (by omega) (by omega)
    unfold FmtC at h1
    rw [show ((x.toNat : Nat) : Int) = x by omega] at h1
    have h2 := (fmt_sizes hok f).1 x.toNat (by omega) (by omega)
    have h3 := hcn x.toNat (by omega)
    exact ⟨clo_fn q ns x _ h1, by omega⟩
  have hA := fun h => kid _ (hn.a h)
  have hB := fun h => kid _ (hn.b h)
  have hC := fun h => kid _ (hn.c h)
  have hM : (ns.getD k default).op = 17 → FunQ env.P 108 [.d (nodesD ns), .d (dI (k : Int))] [tabO q] (just (.d (.sl 1 ((memF ns f (ns.getD k default).a.toNat ++ [itemF (ns.getD k default) (fmtF ns f (ns.getD k default).b.toNat)]).map keyRow))) [tabO q]) ∧
      Fun env.P 46 [.sl 1 ((memF ns f (ns.getD k default).a.toNat ++ [itemF (ns.getD k default) (fmtF ns f (ns.getD k default).b.toNat)]).map keyRow), dS ⟨#[44]⟩] (.d (dS (joinS (memF ns f (ns.getD k default).a.toNat ++ [itemF (ns.getD k default) (fmtF ns f (ns.getD k default).b.toNat)]) kommaS))) [] ∧
      (joinS (memF ns f (ns.getD k default).a.toNat ++ [itemF (ns.getD k default) (fmtF ns f (ns.getD k default).b.toNat)]) kommaS).size ≤ 300000 := fun h17 => by
    have h1 := (hMem h17).pub
    have h2 := (fmt_sizes hok (f + 1)).2 k hkf hk (.inr h17)
    have h3 := hcn k hk
    have e2 : memF ns (f + 1) k = memF ns f (ns.getD k default).a.toNat ++ [itemF (ns.getD k default) (fmtF ns f (ns.getD k default).b.toNat)] := by rw [memF, if_neg (by omega)]
    rw [e2] at h1 h2
    have h4 := joinS_sum (memF ns f (ns.getD k default).a.toNat ++ [itemF (ns.getD k default) (fmtF ns f (ns.getD k default).b.toNat)]) kommaS rfl
    have h5 := len_sum (memF ns f (ns.getD k default).a.toNat ++ [itemF (ns.getD k default) (fmtF ns f (ns.getD k default).b.toNat)])
    exact ⟨h1, Join_fn _ kommaS (by omega) (by omega), by omega⟩
  have hop := hn.op
  have ht := hn.text
  have hnum := hn.num
  have hword := hn.word
  have hmark := hn.mark
  unfold FmtC
  rw [e]
  clear e hMem hn kid
  generalize memF ns f (ns.getD k default).a.toNat ++ [itemF (ns.getD k default) (fmtF ns f (ns.getD k default).b.toNat)] = M at *
  generalize fmtF ns f (ns.getD k default).a.toNat = A at *
  generalize fmtF ns f (ns.getD k default).b.toNat = B at *
  generalize fmtF ns f (ns.getD k default).c.toNat = C at *
  generalize ns.getD k default = n at *
  obtain ⟨op, a, b, c, num, text⟩ := n
  simp only at hop ht hnum hword hmark hA hB hC hM
  have hv : op = 1 ∨ op = 2 ∨ op = 3 ∨ op = 4 ∨ op = 5 ∨ op = 6 ∨ op = 7 ∨ op = 8 ∨ op = 9 ∨ op = 10 ∨ op = 11 ∨ op = 12 ∨ op = 13 ∨ op = 14 ∨ op = 15 ∨ op = 16 ∨ op = 17 ∨ op = 18 ∨ op = 19 ∨ op = 20 ∨ op = 21 ∨ op = 22 ∨ op = 23 ∨ op = 24 := by omega
  rcases hv with rfl | rfl | rfl | rfl | rfl | rfl | rfl | rfl | rfl | rfl | rfl | rfl | rfl | rfl | rfl | rfl | rfl | rfl | rfl | rfl | rfl | rfl | rfl | rfl
  · exact fmt_1 q ns k a b c num text hk hl hN ht
  · exact fmt_2 q ns k a b c num text hk hl hN ht (hnum rfl)
  · exact fmt_3 q ns k a b c num text hk hl hN ht
  · exact fmt_4 q ns k a b c num text hk hl hN ht (hword rfl)
  · exact fmt_5 q ns k a b c num text hk hl hN ht (hA (by decide)).1 (hA (by decide)).2 (hB (by decide)).1 (hB (by decide)).2
  · exact fmt_6 q ns k a b c num text hk hl hN ht (hA (by decide)).1 (hA (by decide)).2 (hB (by decide)).1 (hB (by decide)).2
  · exact fmt_7 q ns k a b c num text hk hl hN ht (hA (by decide)).1 (hA (by decide)).2 (hB (by decide)).1 (hB (by decide)).2
  · exact fmt_8 q ns k a b c num text hk hl hN ht (hA (by decide)).1 (hA (by decide)).2 (hB (by decide)).1 (hB (by decide)).2
  · exact fmt_9 q ns k a b c num text hk hl hN ht (hA (by decide)).1 (hA (by decide)).2 (hB (by decide)).1 (hB (by decide)).2
  · exact fmt_10 q ns k a b c num text hk hl hN ht (hA (by decide)).1 (hA (by decide)).2 (hB (by decide)).1 (hB (by decide)).2 (hmark rfl)
  · exact fmt_11 q ns k a b c num text hk hl hN ht (hA (by decide)).1 (hA (by decide)).2 (hB (by decide)).1 (hB (by decide)).2
  · exact fmt_12 q ns k a b c num text hk hl hN ht (hA (by decide)).1 (hA (by decide)).2
  · exact fmt_13 q ns k a b c num text hk hl hN ht (hA (by decide)).1 (hA (by decide)).2
  · exact fmt_14 q ns k a b c num text hk hl hN ht (hA (by decide)).1 (hA (by decide)).2
  · exact fmt_15 q ns k a b c num text hk hl hN ht
  · exact fmt_16 q ns k a b c num text hk hl hN ht
  · exact fmt_17 q ns k a b c num text hk hl hN ht (hM rfl).1 (hM rfl).2.1 (hM rfl).2.2
  · exact fmt_18 q ns k a b c num text hk hl hN ht (hA (by decide)).1 (hA (by decide)).2 (hB (by decide)).1 (hB (by decide)).2 (hC (by decide)).1 (hC (by decide)).2
  · exact fmt_19 q ns k a b c num text hk hl hN ht (hA (by decide)).1 (hA (by decide)).2 (hB (by decide)).1 (hB (by decide)).2 (hC (by decide)).1 (hC (by decide)).2
  · exact fmt_20 q ns k a b c num text hk hl hN ht (hA (by decide)).1 (hA (by decide)).2 (hB (by decide)).1 (hB (by decide)).2
  · exact fmt_21 q ns k a b c num text hk hl hN ht
  · exact fmt_22 q ns k a b c num text hk hl hN ht
  · exact fmt_23 q ns k a b c num text hk hl hN ht (hA (by decide)).1 (hA (by decide)).2
  · exact fmt_24 q ns k a b c num text hk hl hN ht

theorem fmt_all (q : TypeId × (Nat × Nat)) (ns : List Nd) (hok : ∀ j, j < ns.length → NodeOK ns j) (hl : ns.length ≤ 1048576) (hcn : ∀ j, j < ns.length → cntF ns j ≤ 1000) : ∀ f, (∀ j, j < f → j < ns.length → FmtC q ns f j) ∧
    (∀ j, j < f → j < ns.length → (ns.getD j default).op = 16 ∨ (ns.getD j default).op = 17 → MemC q ns f j)
  | 0 => ⟨fun j h => by omega, fun j h => by omega⟩
  | f + 1 => by
    obtain ⟨i1, i2⟩ := fmt_all q ns hok hl hcn f
    have hm := mem_step q ns f hok hl hcn i1 i2
    exact ⟨fun j hj hjl => fmt_step q ns f hok hl hcn i1 j hj hjl fun h => hm j hj hjl (.inr h), hm⟩

/-! ### the reference -/

abbrev SpcC (ns : List Nd) (f j : Nat) : Prop := Fun env.P 59 [nodesD ns, dI (j : Int)] (.d (dS (fmtF ns f j))) []
abbrev PairC (ns : List Nd) (f j : Nat) : Prop := Fun env.P 101 [nodesD ns, dI (j : Int)] (.d (dS (joinS (memF ns f j) kommaS))) []

theorem memF_bare {ns : List Nd} {f j : Nat} (hf : 0 < f) (h : (ns.getD j default).op = 16) : memF ns f j = [] := by
  cases f with
  | zero => omega
  | succ f => rw [memF, if_pos h]
theorem memF_ne {ns : List Nd} {f j : Nat} (hf : 0 < f) (h : (ns.getD j default).op = 17) : memF ns f j ≠ [] := by
  cases f with
  | zero => omega
  | succ f => rw [memF, if_neg (by omega)]; simp

set_option maxHeartbeats 4000000 in
theorem pair_step (ns : List Nd) (f : Nat) (hok : ∀ j, j < ns.length → NodeOK ns j) (hl : ns.length ≤ 1048576) (hcn : ∀ j, j < ns.length → cntF ns j ≤ 1000)
    (ihS : ∀ j, j < f → j < ns.length → SpcC ns f j) (ihP : ∀ j, j < f → j < ns.length → (ns.getD j default).op = 17 → PairC ns f j) (k : Nat) (hkf : k < f + 1) (hk : k < ns.length) (h17 : (ns.getD k default).op = 17) : PairC ns (f + 1) k := by
  have hn := hok k hk
  have e : memF ns (f + 1) k = memF ns f (ns.getD k default).a.toNat ++ [itemF (ns.getD k default) (fmtF ns f (ns.getD k default).b.toNat)] := by rw [memF, if_neg (by omega)]
  unfold PairC
  rw [e]
  have ar : arN (ns.getD k default).op = 2 := by rw [h17]; rfl
  obtain ⟨a0, a1⟩ := hn.a (by omega)
  obtain ⟨b0, b1⟩ := hn.b (by omega)
  have hm := hn.mem h17
  have hq := hn.quo (.inr h17)
  have hB := ihS (ns.getD k default).b.toNat (by omega) (by omega)
  have hBz := (fmt_sizes hok f).1 (ns.getD k default).b.toNat (by omega) (by omega)
  have hBc := hcn (ns.getD k default).b.toNat (by omega)
  unfold SpcC at hB
  rw [show (((ns.getD k default).b.toNat : Nat) : Int) = (ns.getD k default).b by omega] at hB
  have hN : ns.getD (Int.toNat (k : Int)) default = ns.getD k default := by rw [Int.toNat_natCast]
  have hqs := quoted_small hq
  have hqe := l2Quote_fn (ns.getD k default).text (by have := okText_size hq; omega)
  have hal : (ns.getD k default).a.toNat < ns.length := by omega
  have haf : (ns.getD k default).a.toNat < f := by omega
  have hAz := (fmt_sizes hok f).2 (ns.getD k default).a.toNat haf hal hm
  have hAc := hcn (ns.getD k default).a.toNat hal
  have hAj := joinS_sum (memF ns f (ns.getD k default).a.toNat) kommaS rfl
  by_cases h6 : (ns.getD (ns.getD k default).a.toNat default).op = 16
  · have hb := memF_bare (by omega) h6 (f := f)
    rw [hb, List.nil_append, joinS_one]
    unfold itemF
    generalize ns.getD k default = n at *
    generalize fmtF ns f n.b.toNat = B at *
    generalize quoted n.text = qk at *
    have z1 : (qk ++ ⟨#[58]⟩).size = qk.size + 1 := by rw [ByteArray.size_append]; rfl
    have z2 : (⟨#[58]⟩ : ByteArray).size = 1 := rfl
    refine Fun.intro Tryz.func101 rfl (by kernel_rfl) rfl ?_
    repeat (first | refine W.seq ?_ | refine W.rg ?_ | refine W.dra' ?_ | refine W.block ?_ | refine W.skip ?_ | refine W.exit ?_ | refine W.cond_true' ?_ | refine W.cond_false' ?_ | refine WG.nil ?_ | refine WG.run' (E := env) ?_ | refine WG.gt' ?_ | refine WG.gf' ?_ | refine WG.ixm' (E := env) ?_ | refine WG.ixo' (E := env) ?_ | refine WG.legm' (E := env) ?_ | refine WG.slS' (E := env) ?_ | refine WG.slD' (E := env) ?_ | refine WG.ap' (E := env) ?_ | refine WD.nil ?_ | refine WD.bs' (E := env) ?_ | refine WD.s' (E := env) (t := .d _) ?_ | refine WD.p' ?_ | refine WD.px' ?_ | refine WD.s' (E := env) (t := .ea _ _) ?_ | refine WD.s' (E := env) (t := .lp _ _) ?_ | refine WD.s' (E := env) (t := .og _ _) ?_ | refine WD.s' (E := env) (t := .agg _) ?_ | refine WD.s' (E := env) (t := .tup _) ?_ | refine WD.s' (E := env) (t := .clo _ _) ?_ | refine WD.ixm' (E := env) ?_ | refine WD.ixo' (E := env) ?_ | refine WD.legm' (E := env) ?_ | refine WD.slS' (E := env) ?_ | refine WD.slD' (E := env) ?_)
    rw [hN]
    repeat' (first | refine W.seq ?_ | refine W.rg ?_ | refine W.dra' ?_ | refine W.block ?_ | refine W.skip ?_ | refine W.exit ?_ | refine W.cond_true' ?_ | refine W.cond_false' ?_ | refine WG.nil ?_ | refine WG.run' (E := env) ?_ | refine WG.gt' ?_ | refine WG.gf' ?_ | refine WG.ixm' (E := env) ?_ | refine WG.ixo' (E := env) ?_ | refine WG.legm' (E := env) ?_ | refine WG.slS' (E := env) ?_ | refine WG.slD' (E := env) ?_ | refine WG.ap' (E := env) ?_ | refine WD.nil ?_ | refine WD.bs' (E := env) ?_ | refine WD.s' (E := env) (t := .d _) ?_ | refine WD.p' ?_ | refine WD.px' ?_ | refine WD.s' (E := env) (t := .ea _ _) ?_ | refine WD.s' (E := env) (t := .lp _ _) ?_ | refine WD.s' (E := env) (t := .og _ _) ?_ | refine WD.s' (E := env) (t := .agg _) ?_ | refine WD.s' (E := env) (t := .tup _) ?_ | refine WD.s' (E := env) (t := .clo _ _) ?_ | refine WD.ixm' (E := env) ?_ | refine WD.ixo' (E := env) ?_ | refine WD.legm' (E := env) ?_ | refine WD.slS' (E := env) ?_ | refine WD.slD' (E := env) ?_ | refine WG.c (E := env) rfl rfl (hB) rfl rfl ?_ | refine WD.c (E := env) rfl rfl (hB) rfl rfl ?_ | refine WG.co (E := env) rfl rfl (hB) rfl rfl rfl rfl ?_ | refine WG.cx (E := env) rfl (hB) rfl ?_ | refine WG.c (E := env) rfl rfl (hqe) rfl rfl ?_ | refine WD.c (E := env) rfl rfl (hqe) rfl rfl ?_ | refine WG.co (E := env) rfl rfl (hqe) rfl rfl rfl rfl ?_ | refine WG.cx (E := env) rfl (hqe) rfl ?_ | ((first | refine WG.sp' (fun h => ?_) fun h => ?_ | refine W.cond' (fun h => ?_) fun h => ?_ | refine WD.sp' (fun h => ?_) fun h => ?_) <;> (try simp only [decide_eq_true_eq, decide_eq_false_iff_not, Bool.not_eq_true', Bool.not_eq_false', Bool.and_eq_true, Bool.or_eq_true, Bool.and_eq_false_iff, Bool.or_eq_false_iff, Bool.not_eq_true, Bool.not_eq_false, Int.not_lt, Int.not_le, List.length_map, beq_self_eq_true, Bool.true_eq_false, Bool.false_eq_true] at h) <;> (try (exfalso; first | contradiction | omega))))
    all_goals first | (exfalso; simp_all; done) | skip
    (refine W.ret ?_; (first | refine RetQ.b' ?_ | refine RetQ.i' ?_ | refine RetQ.d' ?_ | refine RetQ.t2' ?_ ?_ | refine RetQ.t3' ?_ ?_ ?_))
    rfl
  · have h7 : (ns.getD (ns.getD k default).a.toNat default).op = 17 := hm.resolve_left h6
    have hP := ihP (ns.getD k default).a.toNat haf hal h7
    unfold PairC at hP
    rw [show (((ns.getD k default).a.toNat : Nat) : Int) = (ns.getD k default).a by omega] at hP
    rw [joinS_snoc _ _ _ (memF_ne (by omega) h7)]
    unfold itemF
    generalize joinS (memF ns f (ns.getD k default).a.toNat) kommaS = J at *
    generalize ns.getD k default = n at *
    generalize fmtF ns f n.b.toNat = B at *
    generalize quoted n.text = qk at *
    have z1 : (qk ++ ⟨#[58]⟩).size = qk.size + 1 := by rw [ByteArray.size_append]; rfl
    have z2 : (⟨#[58]⟩ : ByteArray).size = 1 := rfl
    have z3 : ((qk ++ ⟨#[58]⟩) ++ B).size = qk.size + 1 + B.size := by rw [ByteArray.size_append, z1]
    have z4 : (⟨#[44]⟩ : ByteArray).size = 1 := rfl
    have z5 : (J ++ ⟨#[44]⟩).size = J.size + 1 := by rw [ByteArray.size_append]; rfl
    refine Fun.intro Tryz.func101 rfl (by kernel_rfl) rfl ?_
    repeat (first | refine W.seq ?_ | refine W.rg ?_ | refine W.dra' ?_ | refine W.block ?_ | refine W.skip ?_ | refine W.exit ?_ | refine W.cond_true' ?_ | refine W.cond_false' ?_ | refine WG.nil ?_ | refine WG.run' (E := env) ?_ | refine WG.gt' ?_ | refine WG.gf' ?_ | refine WG.ixm' (E := env) ?_ | refine WG.ixo' (E := env) ?_ | refine WG.legm' (E := env) ?_ | refine WG.slS' (E := env) ?_ | refine WG.slD' (E := env) ?_ | refine WG.ap' (E := env) ?_ | refine WD.nil ?_ | refine WD.bs' (E := env) ?_ | refine WD.s' (E := env) (t := .d _) ?_ | refine WD.p' ?_ | refine WD.px' ?_ | refine WD.s' (E := env) (t := .ea _ _) ?_ | refine WD.s' (E := env) (t := .lp _ _) ?_ | refine WD.s' (E := env) (t := .og _ _) ?_ | refine WD.s' (E := env) (t := .agg _) ?_ | refine WD.s' (E := env) (t := .tup _) ?_ | refine WD.s' (E := env) (t := .clo _ _) ?_ | refine WD.ixm' (E := env) ?_ | refine WD.ixo' (E := env) ?_ | refine WD.legm' (E := env) ?_ | refine WD.slS' (E := env) ?_ | refine WD.slD' (E := env) ?_)
    rw [hN]
    repeat' (first | refine W.seq ?_ | refine W.rg ?_ | refine W.dra' ?_ | refine W.block ?_ | refine W.skip ?_ | refine W.exit ?_ | refine W.cond_true' ?_ | refine W.cond_false' ?_ | refine WG.nil ?_ | refine WG.run' (E := env) ?_ | refine WG.gt' ?_ | refine WG.gf' ?_ | refine WG.ixm' (E := env) ?_ | refine WG.ixo' (E := env) ?_ | refine WG.legm' (E := env) ?_ | refine WG.slS' (E := env) ?_ | refine WG.slD' (E := env) ?_ | refine WG.ap' (E := env) ?_ | refine WD.nil ?_ | refine WD.bs' (E := env) ?_ | refine WD.s' (E := env) (t := .d _) ?_ | refine WD.p' ?_ | refine WD.px' ?_ | refine WD.s' (E := env) (t := .ea _ _) ?_ | refine WD.s' (E := env) (t := .lp _ _) ?_ | refine WD.s' (E := env) (t := .og _ _) ?_ | refine WD.s' (E := env) (t := .agg _) ?_ | refine WD.s' (E := env) (t := .tup _) ?_ | refine WD.s' (E := env) (t := .clo _ _) ?_ | refine WD.ixm' (E := env) ?_ | refine WD.ixo' (E := env) ?_ | refine WD.legm' (E := env) ?_ | refine WD.slS' (E := env) ?_ | refine WD.slD' (E := env) ?_ | refine WG.c (E := env) rfl rfl (hB) rfl rfl ?_ | refine WD.c (E := env) rfl rfl (hB) rfl rfl ?_ | refine WG.co (E := env) rfl rfl (hB) rfl rfl rfl rfl ?_ | refine WG.cx (E := env) rfl (hB) rfl ?_ | refine WG.c (E := env) rfl rfl (hqe) rfl rfl ?_ | refine WD.c (E := env) rfl rfl (hqe) rfl rfl ?_ | refine WG.co (E := env) rfl rfl (hqe) rfl rfl rfl rfl ?_ | refine WG.cx (E := env) rfl (hqe) rfl ?_ | refine WG.c (E := env) rfl rfl (hP) rfl rfl ?_ | refine WD.c (E := env) rfl rfl (hP) rfl rfl ?_ | refine WG.co (E := env) rfl rfl (hP) rfl rfl rfl rfl ?_ | refine WG.cx (E := env) rfl (hP) rfl ?_ | ((first | refine WG.sp' (fun h => ?_) fun h => ?_ | refine W.cond' (fun h => ?_) fun h => ?_ | refine WD.sp' (fun h => ?_) fun h => ?_) <;> (try simp only [decide_eq_true_eq, decide_eq_false_iff_not, Bool.not_eq_true', Bool.not_eq_false', Bool.and_eq_true, Bool.or_eq_true, Bool.and_eq_false_iff, Bool.or_eq_false_iff, Bool.not_eq_true, Bool.not_eq_false, Int.not_lt, Int.not_le, List.length_map, beq_self_eq_true, Bool.true_eq_false, Bool.false_eq_true] at h) <;> (try (exfalso; first | contradiction | omega))))
    all_goals first | (exfalso; simp_all; done) | skip
    (refine W.ret ?_; (first | refine RetQ.b' ?_ | refine RetQ.i' ?_ | refine RetQ.d' ?_ | refine RetQ.t2' ?_ ?_ | refine RetQ.t3' ?_ ?_ ?_))
    rfl

set_option maxHeartbeats 4000000 in
theorem spc_step (ns : List Nd) (f : Nat) (hok : ∀ j, j < ns.length → NodeOK ns j) (hl : ns.length ≤ 1048576) (hcn : ∀ j, j < ns.length → cntF ns j ≤ 1000)
    (ihS : ∀ j, j < f → j < ns.length → SpcC ns f j) (k : Nat) (hkf : k < f + 1) (hk : k < ns.length) (hPair : (ns.getD k default).op = 17 → PairC ns (f + 1) k) : SpcC ns (f + 1) k := by
  have hn := hok k hk
  have e : fmtF ns (f + 1) k = fmtB (ns.getD k default) (fmtF ns f (ns.getD k default).a.toNat) (fmtF ns f (ns.getD k default).b.toNat) (fmtF ns f (ns.getD k default).c.toNat) (memF ns f (ns.getD k default).a.toNat ++ [itemF (ns.getD k default) (fmtF ns f (ns.getD k default).b.toNat)]) := by rw [fmtF]
  have hN : ns.getD (Int.toNat (k : Int)) default = ns.getD k default := by rw [Int.toNat_natCast]
  have kid : ∀ x : Int, 0 ≤ x ∧ x < k → Fun env.P 59 [nodesD ns, dI x] (.d (dS (fmtF ns f x.toNat))) [] ∧ (fmtF ns f x.toNat).size ≤ 200000 := fun x hx => by
    have h1 := ihS x.toNat (by omega) (by omega)
    unfold SpcC at h1
    rw [show ((x.toNat : Nat) : Int) = x by omega] at h1
    have h2 := (fmt_sizes hok f).1 x.toNat (by omega) (by omega)
    have h3 := hcn x.toNat (by omega)
    exact ⟨h1, by omega⟩
  have hA := fun h => kid _ (hn.a h)
  have hB := fun h => kid _ (hn.b h)
  have hC := fun h => kid _ (hn.c h)
  have hP : (ns.getD k default).op = 17 → Fun env.P 101 [nodesD ns, dI (k : Int)] (.d (dS (joinS (memF ns f (ns.getD k default).a.toNat ++ [itemF (ns.getD k default) (fmtF ns f (ns.getD k default).b.toNat)]) kommaS))) [] ∧
      (joinS (memF ns f (ns.getD k default).a.toNat ++ [itemF (ns.getD k default) (fmtF ns f (ns.getD k default).b.toNat)]) kommaS).size ≤ 300000 := fun h17 => by
    have h1 := hPair h17
    have h2 := (fmt_sizes hok (f + 1)).2 k hkf hk (.inr h17)
    have h3 := hcn k hk
    have e2 : memF ns (f + 1) k = memF ns f (ns.getD k default).a.toNat ++ [itemF (ns.getD k default) (fmtF ns f (ns.getD k default).b.toNat)] := by rw [memF, if_neg (by omega)]
    unfold PairC at h1
    rw [e2] at h1 h2
    have h4 := joinS_sum (memF ns f (ns.getD k default).a.toNat ++ [itemF (ns.getD k default) (fmtF ns f (ns.getD k default).b.toNat)]) kommaS rfl
    exact ⟨h1, by omega⟩
  have hop := hn.op
  have ht := hn.text
  have hnum := hn.num
  have hword := hn.word
  have hmark := hn.mark
  unfold SpcC
  rw [e]
  clear e hPair hn kid
  generalize memF ns f (ns.getD k default).a.toNat ++ [itemF (ns.getD k default) (fmtF ns f (ns.getD k default).b.toNat)] = M at *
  generalize fmtF ns f (ns.getD k default).a.toNat = A at *
  generalize fmtF ns f (ns.getD k default).b.toNat = B at *
  generalize fmtF ns f (ns.getD k default).c.toNat = C at *
  generalize ns.getD k default = n at *
  obtain ⟨op, a, b, c, num, text⟩ := n
  simp only at hop ht hnum hword hmark hA hB hC hP
  have hv : op = 1 ∨ op = 2 ∨ op = 3 ∨ op = 4 ∨ op = 5 ∨ op = 6 ∨ op = 7 ∨ op = 8 ∨ op = 9 ∨ op = 10 ∨ op = 11 ∨ op = 12 ∨ op = 13 ∨ op = 14 ∨ op = 15 ∨ op = 16 ∨ op = 17 ∨ op = 18 ∨ op = 19 ∨ op = 20 ∨ op = 21 ∨ op = 22 ∨ op = 23 ∨ op = 24 := by omega
  rcases hv with rfl | rfl | rfl | rfl | rfl | rfl | rfl | rfl | rfl | rfl | rfl | rfl | rfl | rfl | rfl | rfl | rfl | rfl | rfl | rfl | rfl | rfl | rfl | rfl
  · exact fmtS_1 ns k a b c num text hk hl hN ht
  · exact fmtS_2 ns k a b c num text hk hl hN ht (hnum rfl)
  · exact fmtS_3 ns k a b c num text hk hl hN ht
  · exact fmtS_4 ns k a b c num text hk hl hN ht (hword rfl)
  · exact fmtS_5 ns k a b c num text hk hl hN ht (hA (by decide)).1 (hA (by decide)).2 (hB (by decide)).1 (hB (by decide)).2
  · exact fmtS_6 ns k a b c num text hk hl hN ht (hA (by decide)).1 (hA (by decide)).2 (hB (by decide)).1 (hB (by decide)).2
  · exact fmtS_7 ns k a b c num text hk hl hN ht (hA (by decide)).1 (hA (by decide)).2 (hB (by decide)).1 (hB (by decide)).2
  · exact fmtS_8 ns k a b c num text hk hl hN ht (hA (by decide)).1 (hA (by decide)).2 (hB (by decide)).1 (hB (by decide)).2
  · exact fmtS_9 ns k a b c num text hk hl hN ht (hA (by decide)).1 (hA (by decide)).2 (hB (by decide)).1 (hB (by decide)).2
  · exact fmtS_10 ns k a b c num text hk hl hN ht (hA (by decide)).1 (hA (by decide)).2 (hB (by decide)).1 (hB (by decide)).2 (hmark rfl)
  · exact fmtS_11 ns k a b c num text hk hl hN ht (hA (by decide)).1 (hA (by decide)).2 (hB (by decide)).1 (hB (by decide)).2
  · exact fmtS_12 ns k a b c num text hk hl hN ht (hA (by decide)).1 (hA (by decide)).2
  · exact fmtS_13 ns k a b c num text hk hl hN ht (hA (by decide)).1 (hA (by decide)).2
  · exact fmtS_14 ns k a b c num text hk hl hN ht (hA (by decide)).1 (hA (by decide)).2
  · exact fmtS_15 ns k a b c num text hk hl hN ht
  · exact fmtS_16 ns k a b c num text hk hl hN ht
  · exact fmtS_17 ns k a b c num text hk hl hN ht (hP rfl).1 (hP rfl).2
  · exact fmtS_18 ns k a b c num text hk hl hN ht (hA (by decide)).1 (hA (by decide)).2 (hB (by decide)).1 (hB (by decide)).2 (hC (by decide)).1 (hC (by decide)).2
  · exact fmtS_19 ns k a b c num text hk hl hN ht (hA (by decide)).1 (hA (by decide)).2 (hB (by decide)).1 (hB (by decide)).2 (hC (by decide)).1 (hC (by decide)).2
  · exact fmtS_20 ns k a b c num text hk hl hN ht (hA (by decide)).1 (hA (by decide)).2 (hB (by decide)).1 (hB (by decide)).2
  · exact fmtS_21 ns k a b c num text hk hl hN ht
  · exact fmtS_22 ns k a b c num text hk hl hN ht
  · exact fmtS_23 ns k a b c num text hk hl hN ht (hA (by decide)).1 (hA (by decide)).2
  · exact fmtS_24 ns k a b c num text hk hl hN ht

theorem spc_all (ns : List Nd) (hok : ∀ j, j < ns.length → NodeOK ns j) (hl : ns.length ≤ 1048576) (hcn : ∀ j, j < ns.length → cntF ns j ≤ 1000) : ∀ f, (∀ j, j < f → j < ns.length → SpcC ns f j) ∧
    (∀ j, j < f → j < ns.length → (ns.getD j default).op = 17 → PairC ns f j)
  | 0 => ⟨fun j h => by omega, fun j h => by omega⟩
  | f + 1 => by
    obtain ⟨i1, i2⟩ := spc_all ns hok hl hcn f
    have hm := pair_step ns f hok hl hcn i1 i2
    exact ⟨fun j hj hjl => spc_step ns f hok hl hcn i1 j hj hjl fun h => hm j hj hjl h, hm⟩

/-! ### whole trees -/

theorem flatK_len {α : Type} (g : Nat → List α) : ∀ (l : List Nat) (j : Nat), j ∈ l → (g j).length ≤ (l.flatMap g).length
  | [], j, h => by cases h
  | x :: r, j, h => by
    rw [List.flatMap_cons, List.length_append]
    rcases List.mem_cons.1 h with rfl | h
    · omega
    · have := flatK_len g r j h
      omega
theorem full_len (nm : Nat → List Int) : ∀ k, ∀ i ∈ full nm k, (full nm i).length ≤ (full nm k).length := fun k => by
  induction k using Nat.strongRecOn with
  | ind k ih =>
    intro i hi
    rw [full_eq] at hi
    rcases List.mem_append.1 hi with hi | hi
    · obtain ⟨j, hj, hij⟩ := List.mem_flatMap.1 hi
      have h1 := ih j (kidsOf_lt hj) i hij
      have h2 := flatK_len (full nm) (kidsOf nm k) j hj
      rw [full_eq nm k, List.length_append]
      omega
    · rw [List.mem_singleton] at hi
      rw [hi]
      exact Nat.le_refl _

theorem treeM_zero {ns : List Nd} (h : treeM ns = 0) : 1 ≤ ns.length ∧ ns.length ≤ 200 ∧ (∀ j, j < ns.length → NodeOK ns j) ∧ (∀ j, j < ns.length → cntF ns j ≤ 1000) := by
  unfold treeM at h
  split at h
  · exact absurd h (by decide)
  rename_i h1
  split at h
  · rename_i h2
    exact absurd h h2
  rename_i h2
  split at h
  · exact absurd h (by decide)
  rename_i h3
  have h1 := Classical.not_not.1 h1
  have h2 := Classical.not_not.1 h2
  have h3 := begM_zero.1 (Classical.not_not.1 h3)
  refine ⟨h1.1, h1.2, fun j hj => nodeOK_of (codeFrom_zero h2 j (by omega) (by omega)), fun j hj => ?_⟩
  have h4 := full_len (nmT ns) (ns.length - 1) j (by rw [h3, List.mem_range]; omega)
  rw [h3, List.length_range] at h4
  unfold cntF
  omega

noncomputable def fmtR (ns : List Nd) : ByteArray := if treeM ns = 0 then fmtF ns ns.length (ns.length - 1) else noS

set_option maxHeartbeats 2000000 in
theorem FormatProgram_fn (q : TypeId × (Nat × Nat)) (ns : List Nd) (hf : fitsT ns) : FunQ env.P 32 [.d (nodesD ns)] [tabO q] (just (.d (.agg [dI (treeM ns), dS (fmtR ns)])) [tabO q]) := by
  have hcf := TreeFault_fn ns hf.2 hf.1
  have hsz := sizeN_fn ns
  refine FunQ.intro Tryz.func32 rfl (by kernel_rfl) rfl ?_
  by_cases h0 : treeM ns = 0
  · rw [fmtR, if_pos h0]
    obtain ⟨h1, h2, hok, hcn⟩ := treeM_zero h0
    have hF := (fmt_all q ns hok hf.2 hcn ns.length).1 (ns.length - 1) (by omega) (by omega)
    unfold FmtC at hF
    rw [show ((ns.length - 1 : Nat) : Int) = ((ns.map Nd.row).length : Int) - 1 by rw [List.length_map]; omega] at hF
    rw [h0] at hcf ⊢
    generalize fmtF ns ns.length (ns.length - 1) = e at *
    have hll : (ns.map Nd.row).length = ns.length := List.length_map ..
    repeat' (first | refine W.seq ?_ | refine W.rg ?_ | refine W.dra' ?_ | refine W.block ?_ | refine W.skip ?_ | refine W.exit ?_ | refine W.cond_true' ?_ | refine W.cond_false' ?_ | refine WG.nil ?_ | refine WG.run' (E := env) ?_ | refine WG.gt' ?_ | refine WG.gf' ?_ | refine WG.ixm' (E := env) ?_ | refine WG.ixo' (E := env) ?_ | refine WG.legm' (E := env) ?_ | refine WG.slS' (E := env) ?_ | refine WG.slD' (E := env) ?_ | refine WG.ap' (E := env) ?_ | refine WD.nil ?_ | refine WD.bs' (E := env) ?_ | refine WD.s' (E := env) (t := .d _) ?_ | refine WD.p' ?_ | refine WD.px' ?_ | refine WD.s' (E := env) (t := .ea _ _) ?_ | refine WD.s' (E := env) (t := .lp _ _) ?_ | refine WD.s' (E := env) (t := .og _ _) ?_ | refine WD.s' (E := env) (t := .agg _) ?_ | refine WD.s' (E := env) (t := .tup _) ?_ | refine WD.s' (E := env) (t := .clo _ _) ?_ | refine WD.ixm' (E := env) ?_ | refine WD.ixo' (E := env) ?_ | refine WD.legm' (E := env) ?_ | refine WD.slS' (E := env) ?_ | refine WD.slD' (E := env) ?_ | refine WG.c (E := env) rfl rfl (hcf) rfl rfl ?_ | refine WD.c (E := env) rfl rfl (hcf) rfl rfl ?_ | refine WG.co (E := env) rfl rfl (hcf) rfl rfl rfl rfl ?_ | refine WG.cx (E := env) rfl (hcf) rfl ?_ | refine WG.c (E := env) rfl rfl (hsz) rfl rfl ?_ | refine WD.c (E := env) rfl rfl (hsz) rfl rfl ?_ | refine WG.co (E := env) rfl rfl (hsz) rfl rfl rfl rfl ?_ | refine WG.cx (E := env) rfl (hsz) rfl ?_ | refine WG.cq (E := env) [0] [0] false rfl rfl (hF) rfl rfl rfl rfl rfl rfl rfl (by first | exact trivial | exact ⟨rfl, trivial⟩ | exact ⟨rfl, rfl, trivial⟩) (.inl rfl) rfl (fun h => nomatch h) rfl rfl ?_ | refine WG.cqx (E := env) [0] [0] false rfl (hF) rfl rfl rfl rfl rfl rfl rfl (by first | exact trivial | exact ⟨rfl, trivial⟩ | exact ⟨rfl, rfl, trivial⟩) (.inl rfl) rfl (fun h => nomatch h) rfl ?_ | ((first | refine WG.sp' (fun h => ?_) fun h => ?_ | refine W.cond' (fun h => ?_) fun h => ?_ | refine WD.sp' (fun h => ?_) fun h => ?_) <;> (try simp only [decide_eq_true_eq, decide_eq_false_iff_not, Bool.not_eq_true', Bool.not_eq_false', Bool.and_eq_true, Bool.or_eq_true, Bool.and_eq_false_iff, Bool.or_eq_false_iff, Bool.not_eq_true, Bool.not_eq_false, Int.not_lt, Int.not_le, List.length_map, beq_self_eq_true, Bool.true_eq_false, Bool.false_eq_true] at h) <;> (try (exfalso; first | contradiction | omega))))
    (refine W.ret ?_; refine RetR.tb' ?_)
    rfl
  · rw [fmtR, if_neg h0]
    generalize treeM ns = c at *
    repeat' (first | refine W.seq ?_ | refine W.rg ?_ | refine W.dra' ?_ | refine W.block ?_ | refine W.skip ?_ | refine W.exit ?_ | refine W.cond_true' ?_ | refine W.cond_false' ?_ | refine WG.nil ?_ | refine WG.run' (E := env) ?_ | refine WG.gt' ?_ | refine WG.gf' ?_ | refine WG.ixm' (E := env) ?_ | refine WG.ixo' (E := env) ?_ | refine WG.legm' (E := env) ?_ | refine WG.slS' (E := env) ?_ | refine WG.slD' (E := env) ?_ | refine WG.ap' (E := env) ?_ | refine WD.nil ?_ | refine WD.bs' (E := env) ?_ | refine WD.s' (E := env) (t := .d _) ?_ | refine WD.p' ?_ | refine WD.px' ?_ | refine WD.s' (E := env) (t := .ea _ _) ?_ | refine WD.s' (E := env) (t := .lp _ _) ?_ | refine WD.s' (E := env) (t := .og _ _) ?_ | refine WD.s' (E := env) (t := .agg _) ?_ | refine WD.s' (E := env) (t := .tup _) ?_ | refine WD.s' (E := env) (t := .clo _ _) ?_ | refine WD.ixm' (E := env) ?_ | refine WD.ixo' (E := env) ?_ | refine WD.legm' (E := env) ?_ | refine WD.slS' (E := env) ?_ | refine WD.slD' (E := env) ?_ | refine WG.c (E := env) rfl rfl (hcf) rfl rfl ?_ | refine WD.c (E := env) rfl rfl (hcf) rfl rfl ?_ | refine WG.co (E := env) rfl rfl (hcf) rfl rfl rfl rfl ?_ | refine WG.cx (E := env) rfl (hcf) rfl ?_ | ((first | refine WG.sp' (fun h => ?_) fun h => ?_ | refine W.cond' (fun h => ?_) fun h => ?_ | refine WD.sp' (fun h => ?_) fun h => ?_) <;> (try simp only [decide_eq_true_eq, decide_eq_false_iff_not, Bool.not_eq_true', Bool.not_eq_false', Bool.and_eq_true, Bool.or_eq_true, Bool.and_eq_false_iff, Bool.or_eq_false_iff, Bool.not_eq_true, Bool.not_eq_false, Int.not_lt, Int.not_le, List.length_map, beq_self_eq_true, Bool.true_eq_false, Bool.false_eq_true] at h) <;> (try (exfalso; first | contradiction | omega))))
    all_goals first | (exfalso; omega) | skip
    (refine W.ret ?_; refine RetR.tb' ?_)
    rfl

set_option maxHeartbeats 2000000 in
theorem FormatProgramS_fn (ns : List Nd) (hf : fitsT ns) : Fun env.P 30 [nodesD ns] (.d (.agg [dI (treeM ns), dS (fmtR ns)])) [] := by
  have hcf := TreeFaultS_fn ns hf.2 hf.1
  by_cases h0 : treeM ns = 0
  · rw [fmtR, if_pos h0]
    obtain ⟨h1, h2, hok, hcn⟩ := treeM_zero h0
    have hF := (spc_all ns hok hf.2 hcn ns.length).1 (ns.length - 1) (by omega) (by omega)
    unfold SpcC at hF
    rw [show ((ns.length - 1 : Nat) : Int) = ((ns.map Nd.row).length : Int) - 1 by rw [List.length_map]; omega] at hF
    rw [h0] at hcf ⊢
    generalize fmtF ns ns.length (ns.length - 1) = e at *
    have hll : (ns.map Nd.row).length = ns.length := List.length_map ..
    refine Fun.intro Tryz.func30 rfl (by kernel_rfl) rfl ?_
    repeat' (first | refine W.seq ?_ | refine W.rg ?_ | refine W.dra' ?_ | refine W.block ?_ | refine W.skip ?_ | refine W.exit ?_ | refine W.cond_true' ?_ | refine W.cond_false' ?_ | refine WG.nil ?_ | refine WG.run' (E := env) ?_ | refine WG.gt' ?_ | refine WG.gf' ?_ | refine WG.ixm' (E := env) ?_ | refine WG.ixo' (E := env) ?_ | refine WG.legm' (E := env) ?_ | refine WG.slS' (E := env) ?_ | refine WG.slD' (E := env) ?_ | refine WG.ap' (E := env) ?_ | refine WD.nil ?_ | refine WD.bs' (E := env) ?_ | refine WD.s' (E := env) (t := .d _) ?_ | refine WD.p' ?_ | refine WD.px' ?_ | refine WD.s' (E := env) (t := .ea _ _) ?_ | refine WD.s' (E := env) (t := .lp _ _) ?_ | refine WD.s' (E := env) (t := .og _ _) ?_ | refine WD.s' (E := env) (t := .agg _) ?_ | refine WD.s' (E := env) (t := .tup _) ?_ | refine WD.s' (E := env) (t := .clo _ _) ?_ | refine WD.ixm' (E := env) ?_ | refine WD.ixo' (E := env) ?_ | refine WD.legm' (E := env) ?_ | refine WD.slS' (E := env) ?_ | refine WD.slD' (E := env) ?_ | refine WG.c (E := env) rfl rfl (hcf) rfl rfl ?_ | refine WD.c (E := env) rfl rfl (hcf) rfl rfl ?_ | refine WG.co (E := env) rfl rfl (hcf) rfl rfl rfl rfl ?_ | refine WG.cx (E := env) rfl (hcf) rfl ?_ | refine WG.c (E := env) rfl rfl (hF) rfl rfl ?_ | refine WD.c (E := env) rfl rfl (hF) rfl rfl ?_ | refine WG.co (E := env) rfl rfl (hF) rfl rfl rfl rfl ?_ | refine WG.cx (E := env) rfl (hF) rfl ?_ | ((first | refine WG.sp' (fun h => ?_) fun h => ?_ | refine W.cond' (fun h => ?_) fun h => ?_ | refine WD.sp' (fun h => ?_) fun h => ?_) <;> (try simp only [decide_eq_true_eq, decide_eq_false_iff_not, Bool.not_eq_true', Bool.not_eq_false', Bool.and_eq_true, Bool.or_eq_true, Bool.and_eq_false_iff, Bool.or_eq_false_iff, Bool.not_eq_true, Bool.not_eq_false, Int.not_lt, Int.not_le, List.length_map, beq_self_eq_true, Bool.true_eq_false, Bool.false_eq_true] at h) <;> (try (exfalso; first | contradiction | omega))))
    (refine W.ret ?_; (first | refine RetQ.b' ?_ | refine RetQ.i' ?_ | refine RetQ.d' ?_ | refine RetQ.t2' ?_ ?_ | refine RetQ.t3' ?_ ?_ ?_))
    rfl
  · rw [fmtR, if_neg h0]
    generalize treeM ns = c at *
    refine Fun.intro Tryz.func30 rfl (by kernel_rfl) rfl ?_
    repeat' (first | refine W.seq ?_ | refine W.rg ?_ | refine W.dra' ?_ | refine W.block ?_ | refine W.skip ?_ | refine W.exit ?_ | refine W.cond_true' ?_ | refine W.cond_false' ?_ | refine WG.nil ?_ | refine WG.run' (E := env) ?_ | refine WG.gt' ?_ | refine WG.gf' ?_ | refine WG.ixm' (E := env) ?_ | refine WG.ixo' (E := env) ?_ | refine WG.legm' (E := env) ?_ | refine WG.slS' (E := env) ?_ | refine WG.slD' (E := env) ?_ | refine WG.ap' (E := env) ?_ | refine WD.nil ?_ | refine WD.bs' (E := env) ?_ | refine WD.s' (E := env) (t := .d _) ?_ | refine WD.p' ?_ | refine WD.px' ?_ | refine WD.s' (E := env) (t := .ea _ _) ?_ | refine WD.s' (E := env) (t := .lp _ _) ?_ | refine WD.s' (E := env) (t := .og _ _) ?_ | refine WD.s' (E := env) (t := .agg _) ?_ | refine WD.s' (E := env) (t := .tup _) ?_ | refine WD.s' (E := env) (t := .clo _ _) ?_ | refine WD.ixm' (E := env) ?_ | refine WD.ixo' (E := env) ?_ | refine WD.legm' (E := env) ?_ | refine WD.slS' (E := env) ?_ | refine WD.slD' (E := env) ?_ | refine WG.c (E := env) rfl rfl (hcf) rfl rfl ?_ | refine WD.c (E := env) rfl rfl (hcf) rfl rfl ?_ | refine WG.co (E := env) rfl rfl (hcf) rfl rfl rfl rfl ?_ | refine WG.cx (E := env) rfl (hcf) rfl ?_ | ((first | refine WG.sp' (fun h => ?_) fun h => ?_ | refine W.cond' (fun h => ?_) fun h => ?_ | refine WD.sp' (fun h => ?_) fun h => ?_) <;> (try simp only [decide_eq_true_eq, decide_eq_false_iff_not, Bool.not_eq_true', Bool.not_eq_false', Bool.and_eq_true, Bool.or_eq_true, Bool.and_eq_false_iff, Bool.or_eq_false_iff, Bool.not_eq_true, Bool.not_eq_false, Int.not_lt, Int.not_le, List.length_map, beq_self_eq_true, Bool.true_eq_false, Bool.false_eq_true] at h) <;> (try (exfalso; first | contradiction | omega))))
    all_goals first | (exfalso; omega) | skip
    (refine W.ret ?_; (first | refine RetQ.b' ?_ | refine RetQ.i' ?_ | refine RetQ.d' ?_ | refine RetQ.t2' ?_ ?_ | refine RetQ.t3' ?_ ?_ ?_))
    rfl

theorem nodes_nou (ns : List Nd) : NoU (nodesD ns) :=
  .sl _ _ fun r hr x hx => by
    obtain ⟨t, _, rfl⟩ := List.mem_map.1 hr
    simp only [Nd.row, List.mem_cons, List.not_mem_nil, or_false] at hx
    rcases hx with rfl | rfl | rfl | rfl | rfl | rfl <;> exact .v _ (fun n h => by cases h)

set_option maxHeartbeats 4000000 in
theorem lawFormatProgram_fn (q : TypeId × (Nat × Nat)) (ns : List Nd) (hc : ∀ c ∈ ns, c.fit) (hm : ns.length ≤ maxLen) : FunQ env.P 7 [.d (nodesD ns)] [tabO q] (just (.d (dB true)) [tabO q]) := by
  have hz := szNodeS_fn ns 1048576 hc hm (by omega) (by omega)
  refine FunQ.intro Tryz.func7 rfl (by kernel_rfl) rfl ?_
  by_cases hn : szT ns 1048576 < 0
  · repeat' (first | refine W.seq ?_ | refine W.rg ?_ | refine W.dra' ?_ | refine W.block ?_ | refine W.skip ?_ | refine W.exit ?_ | refine W.cond_true' ?_ | refine W.cond_false' ?_ | refine WG.nil ?_ | refine WG.run' (E := env) ?_ | refine WG.gt' ?_ | refine WG.gf' ?_ | refine WG.ixm' (E := env) ?_ | refine WG.ixo' (E := env) ?_ | refine WG.legm' (E := env) ?_ | refine WG.slS' (E := env) ?_ | refine WG.slD' (E := env) ?_ | refine WG.ap' (E := env) ?_ | refine WD.nil ?_ | refine WD.bs' (E := env) ?_ | refine WD.s' (E := env) (t := .d _) ?_ | refine WD.p' ?_ | refine WD.px' ?_ | refine WD.s' (E := env) (t := .ea _ _) ?_ | refine WD.s' (E := env) (t := .lp _ _) ?_ | refine WD.s' (E := env) (t := .og _ _) ?_ | refine WD.s' (E := env) (t := .agg _) ?_ | refine WD.s' (E := env) (t := .tup _) ?_ | refine WD.s' (E := env) (t := .clo _ _) ?_ | refine WD.ixm' (E := env) ?_ | refine WD.ixo' (E := env) ?_ | refine WD.legm' (E := env) ?_ | refine WD.slS' (E := env) ?_ | refine WD.slD' (E := env) ?_ | refine WG.c (E := env) rfl rfl (hz) rfl rfl ?_ | refine WD.c (E := env) rfl rfl (hz) rfl rfl ?_ | refine WG.co (E := env) rfl rfl (hz) rfl rfl rfl rfl ?_ | refine WG.cx (E := env) rfl (hz) rfl ?_ | ((first | refine WG.sp' (fun h => ?_) fun h => ?_ | refine W.cond' (fun h => ?_) fun h => ?_ | refine WD.sp' (fun h => ?_) fun h => ?_) <;> (try simp only [decide_eq_true_eq, decide_eq_false_iff_not, Bool.not_eq_true', Bool.not_eq_false', Bool.and_eq_true, Bool.or_eq_true, Bool.and_eq_false_iff, Bool.or_eq_false_iff, Bool.not_eq_true, Bool.not_eq_false, Int.not_lt, Int.not_le, List.length_map, beq_self_eq_true, Bool.true_eq_false, Bool.false_eq_true] at h) <;> (try (exfalso; first | contradiction | omega))))
    all_goals first | (exfalso; omega) | skip
    (refine W.ret ?_; refine RetR.tb' ?_)
    rfl
  · obtain ⟨hl, ht⟩ := szT_ok (Int.not_lt.1 hn)
    have d := toNodeS_fn ns hl
    have h1 := FormatProgramS_fn ns ⟨ht, hl⟩
    have h2 := FormatProgram_fn q ns ⟨ht, hl⟩
    have er := eqTextRw_fn (treeM ns) (fmtR ns) (treeM ns) (fmtR ns)
    rw [show (decide ((treeM ns) = (treeM ns)) && decide ((fmtR ns) = (fmtR ns))) = true by simp] at er
    have et := eqNodeS_fn ns ns hl
    rw [decide_eq_true rfl] at et
    generalize treeM ns = c at *
    generalize fmtR ns = s at *
    repeat' (first | refine W.seq ?_ | refine W.rg ?_ | refine W.dra' ?_ | refine W.block ?_ | refine W.skip ?_ | refine W.exit ?_ | refine W.cond_true' ?_ | refine W.cond_false' ?_ | refine WG.nil ?_ | refine WG.run' (E := env) ?_ | refine WG.gt' ?_ | refine WG.gf' ?_ | refine WG.ixm' (E := env) ?_ | refine WG.ixo' (E := env) ?_ | refine WG.legm' (E := env) ?_ | refine WG.slS' (E := env) ?_ | refine WG.slD' (E := env) ?_ | refine WG.ap' (E := env) ?_ | refine WD.nil ?_ | refine WD.bs' (E := env) ?_ | refine WD.s' (E := env) (t := .d _) ?_ | refine WD.p' ?_ | refine WD.px' ?_ | refine WD.s' (E := env) (t := .ea _ _) ?_ | refine WD.s' (E := env) (t := .lp _ _) ?_ | refine WD.s' (E := env) (t := .og _ _) ?_ | refine WD.s' (E := env) (t := .agg _) ?_ | refine WD.s' (E := env) (t := .tup _) ?_ | refine WD.s' (E := env) (t := .clo _ _) ?_ | refine WD.ixm' (E := env) ?_ | refine WD.ixo' (E := env) ?_ | refine WD.legm' (E := env) ?_ | refine WD.slS' (E := env) ?_ | refine WD.slD' (E := env) ?_ | refine WG.c (E := env) rfl rfl (hz) rfl rfl ?_ | refine WD.c (E := env) rfl rfl (hz) rfl rfl ?_ | refine WG.co (E := env) rfl rfl (hz) rfl rfl rfl rfl ?_ | refine WG.cx (E := env) rfl (hz) rfl ?_ | refine WG.c (E := env) rfl rfl (d) rfl rfl ?_ | refine WD.c (E := env) rfl rfl (d) rfl rfl ?_ | refine WG.co (E := env) rfl rfl (d) rfl rfl rfl rfl ?_ | refine WG.cx (E := env) rfl (d) rfl ?_ | refine WG.c (E := env) rfl rfl (h1) rfl rfl ?_ | refine WD.c (E := env) rfl rfl (h1) rfl rfl ?_ | refine WG.co (E := env) rfl rfl (h1) rfl rfl rfl rfl ?_ | refine WG.cx (E := env) rfl (h1) rfl ?_ | refine WG.cq (E := env) [0] [0] false rfl rfl (h2) rfl rfl rfl rfl rfl rfl rfl (by first | exact trivial | exact ⟨rfl, trivial⟩ | exact ⟨rfl, rfl, trivial⟩) (.inl rfl) rfl (fun h => nomatch h) rfl rfl ?_ | refine WG.cqx (E := env) [0] [0] false rfl (h2) rfl rfl rfl rfl rfl rfl rfl (by first | exact trivial | exact ⟨rfl, trivial⟩ | exact ⟨rfl, rfl, trivial⟩) (.inl rfl) rfl (fun h => nomatch h) rfl ?_ | refine WG.c (E := env) rfl rfl (er) rfl rfl ?_ | refine WD.c (E := env) rfl rfl (er) rfl rfl ?_ | refine WG.co (E := env) rfl rfl (er) rfl rfl rfl rfl ?_ | refine WG.cx (E := env) rfl (er) rfl ?_ | refine WG.c (E := env) rfl rfl (et) rfl rfl ?_ | refine WD.c (E := env) rfl rfl (et) rfl rfl ?_ | refine WG.co (E := env) rfl rfl (et) rfl rfl rfl rfl ?_ | refine WG.cx (E := env) rfl (et) rfl ?_ | ((first | refine WG.sp' (fun h => ?_) fun h => ?_ | refine W.cond' (fun h => ?_) fun h => ?_ | refine WD.sp' (fun h => ?_) fun h => ?_) <;> (try simp only [decide_eq_true_eq, decide_eq_false_iff_not, Bool.not_eq_true', Bool.not_eq_false', Bool.and_eq_true, Bool.or_eq_true, Bool.and_eq_false_iff, Bool.or_eq_false_iff, Bool.not_eq_true, Bool.not_eq_false, Int.not_lt, Int.not_le, List.length_map, beq_self_eq_true, Bool.true_eq_false, Bool.false_eq_true] at h) <;> (try (exfalso; first | contradiction | omega))))
    all_goals first | (exfalso; omega) | skip
    all_goals (refine W.ret ?_; refine RetR.tb' ?_)
    all_goals rfl

theorem lawFormatProgram_nou (xs : List D) (h : wfAs env.P [53] xs) : ∀ x ∈ xs, NoU x := by
  match xs, h with
  | [x0], ⟨h0, _⟩ =>
    obtain ⟨ns, _, _, rfl⟩ := nodes_of h0
    intro x hx
    rw [List.mem_singleton] at hx
    subst hx
    exact nodes_nou ns
theorem lawFormatProgram (q : TypeId × (Nat × Nat)) (xs : List D) (h : wfAs env.P [53] xs) : FunQ env.P 7 (xs.map .d) [tabO q] (just (.d (dB true)) [tabO q]) := by
  match xs, h with
  | [x0], ⟨h0, _⟩ =>
    obtain ⟨ns, hc, hm, rfl⟩ := nodes_of h0
    exact lawFormatProgram_fn q ns hc hm

end Go.Proofs.YtfmhfdegkpbeiaaGreatDoor
