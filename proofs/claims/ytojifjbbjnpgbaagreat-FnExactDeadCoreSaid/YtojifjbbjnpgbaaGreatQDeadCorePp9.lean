/-
  A pass over a core, by the reference: all nodes. Conditions: texts of at most 2^20 bytes, values of at most 2^20 cells.
-/
import Derived.Test.YtojifjbbjnpgbaaGreatQDeadCorePp8
set_option linter.unusedVariables false
set_option linter.unusedSimpArgs false
set_option maxRecDepth 100000
namespace Go.Proofs.YtojifjbbjnpgbaaGreat
open Go.RowKit

set_option maxHeartbeats 8000000 in
theorem l10Go_fn {pass : Int} {fit : Pt → Option Pt} (hfit : FitOK fit) (hS : SFit pass fit) {cs : List Co} (hg : GdC cs) (hl : cs.length ≤ 900) : ∀ (f k : Nat) (did : Int), k < f → k < cs.length → cnt cs k ≤ 900 → 0 ≤ did → did ≤ 1000 - cnt cs k →
    FunQ env.P 46 [.lp 0 0, .d (dI k)] [.pv [.d (coresD cs), .d (.nl 6), .d (dI pass), .d (dI did)]] (just (.d (coresD ((readP fit cs f k).1.flat 0))) [.pv [.d (coresD cs), .d (.nl 6), .d (dI pass), .d (dI (did + ((readP fit cs f k).2 : Nat)))]])
  | 0, k, did, h, _, _, _, _ => by omega
  | f + 1, k, did, h, hk, hcn, hd0, hd1 => by
    have ih := fun j (hj : j ∈ kidsOf (nmC cs) k) (did : Int) => l10Go_fn hfit hS hg hl f j did (by have := kidsOf_lt hj; omega) (by have := kidsOf_lt hj; omega)
    have hfa := fun j (hj : j ∈ kidsOf (nmC cs) k) => readP_facts hfit hg f j (by have := kidsOf_lt hj; omega) (by have := kidsOf_lt hj; omega)
    have hce := cnt_eq cs k
    have hat : cs.getD (Int.toNat (k : Int)) default = cs.getD k default := by simp
    have hpg : (Pt.mk (cs.getD k default) (((kidsOf (nmC cs) k).map (readP fit cs f)).map (·.1))).good := by
      refine ⟨hg.2 k hk, ?_, Pt.goods_at.2 fun p hp => ?_⟩
      · rw [List.length_map, List.length_map]
        exact kidsC_ar (hg.1 k hk)
      · rw [List.map_map, List.mem_map] at hp
        obtain ⟨j, hj, rfl⟩ := hp
        exact (hfa j hj).1
    have hpc : (Pt.mk (cs.getD k default) (((kidsOf (nmC cs) k).map (readP fit cs f)).map (·.1))).count ≤ cnt cs k := by
      have h1 := counts_map (fun j => (readP fit cs f j).1) (cnt cs) (kidsOf (nmC cs) k) fun j hj => (hfa j hj).2.1
      rw [Pt.count_eq, hce]
      simp only [Pt.kids, List.map_map]
      exact Nat.succ_le_succ h1
    have hsum := sum_map (fun j => (readP fit cs f j).2) (cnt cs) (kidsOf (nmC cs) k) fun j hj => (hfa j hj).2.2
    have har := kidsC_ar (hg.1 k hk)
    have har3 := arC_le (cs.getD k default).op
    have hkA := fun i (hi : i < (kidsOf (nmC cs) k).length) => kidsC_at (hg.1 k hk) hi
    have hrP : readP fit cs (f + 1) k = match fit (.mk (cs.getD k default) (((kidsOf (nmC cs) k).map (readP fit cs f)).map (·.1))) with
      | some q => (q, (((kidsOf (nmC cs) k).map (readP fit cs f)).map (·.2)).sum + 1)
      | none => (.mk (cs.getD k default) (((kidsOf (nmC cs) k).map (readP fit cs f)).map (·.1)), (((kidsOf (nmC cs) k).map (readP fit cs f)).map (·.2)).sum) := rfl
    have hmm : ((kidsOf (nmC cs) k).map (readP fit cs f)).map (·.2) = (kidsOf (nmC cs) k).map fun j => (readP fit cs f j).2 := by rw [List.map_map]; rfl
    rw [hmm] at hrP
    have hle : (((kidsOf (nmC cs) k).map (cnt cs)).sum : Int) + 1 = cnt cs k := by rw [hce]; simp
    generalize hkl : kidsOf (nmC cs) k = kl at *
    rw [← hat] at hrP hpg hpc har har3 hkA
    have hkf := l6Kids_fn (cs.getD (Int.toNat (k : Int)) default).op
    refine FunQ.intro Tryz.func46 rfl (by kernel_rfl) rfl ?_
    repeat' (first | refine W.seq ?_ | refine W.rg ?_ | refine W.dra' ?_ | refine W.block ?_ | refine W.skip ?_ | refine W.exit ?_ | refine W.cond_true' ?_ | refine W.cond_false' ?_ | refine WG.nil ?_ | refine WG.run' (E := env) ?_ | refine WG.gt' ?_ | refine WG.gf' ?_ | refine WG.ixm' (E := env) ?_ | refine WG.ixo' (E := env) ?_ | refine WG.legm' (E := env) ?_ | refine WG.slS' (E := env) ?_ | refine WG.slD' (E := env) ?_ | refine WG.ap' (E := env) ?_ | refine WD.nil ?_ | refine WD.bs' (E := env) ?_ | refine WD.s' (E := env) (t := .d _) ?_ | refine WD.p' ?_ | refine WD.px' ?_ | refine WD.s' (E := env) (t := .ea _ _) ?_ | refine WD.s' (E := env) (t := .lp _ _) ?_ | refine WD.s' (E := env) (t := .og _ _) ?_ | refine WD.s' (E := env) (t := .agg _) ?_ | refine WD.s' (E := env) (t := .tup _) ?_ | refine WD.s' (E := env) (t := .clo _ _) ?_ | refine WD.ixm' (E := env) ?_ | refine WD.ixo' (E := env) ?_ | refine WD.legm' (E := env) ?_ | refine WD.slS' (E := env) ?_ | refine WD.slD' (E := env) ?_ | ((first | refine WG.sp' (fun h => ?_) fun h => ?_ | refine W.cond' (fun h => ?_) fun h => ?_ | refine WD.sp' (fun h => ?_) fun h => ?_) <;> (try simp only [decide_eq_true_eq, decide_eq_false_iff_not, Bool.not_eq_true', Bool.not_eq_false', Bool.and_eq_true, Bool.or_eq_true, Bool.and_eq_false_iff, Bool.or_eq_false_iff, Bool.not_eq_true, Bool.not_eq_false, Int.not_lt, Int.not_le, List.length_map, beq_self_eq_true, Bool.true_eq_false, Bool.false_eq_true] at h) <;> (try (exfalso; first | contradiction | omega))))
    refine W.loopI (fun m S => ∃ (i : Nat) (rv : List (List D)) (dd : Int), m = kl.length - i ∧ (i ≤ kl.length ∧ rv = (kl.take i).map (fun j => flR (readP fit cs f j).1) ∧ rv.length = i ∧ dd = did + (((kl.take i).map fun j => (readP fit cs f j).2).sum : Nat)) ∧
      S = ⟨ofL [(0, .lp 0 0), (5, .lp 1 0), (6, .og 2 0), (7, vI .i64 i)],
        [.pv [.d (coresD cs), .d (.nl 6), .d (dI pass), .d (dI dd)], .pv [.d (dI (cs.getD (Int.toNat (k : Int)) default).op), .d (dI (cs.getD (Int.toNat (k : Int)) default).a), .d (dI (cs.getD (Int.toNat (k : Int)) default).b), .d (dI (cs.getD (Int.toNat (k : Int)) default).c), .d (dI (cs.getD (Int.toNat (k : Int)) default).num), .d (cellsD (cs.getD (Int.toNat (k : Int)) default).val)], .gr 1 24 rv 0 false]⟩) _ _
      ⟨0, [], did, rfl, ⟨by omega, by simp, rfl, by simp⟩, rfl⟩ (St.imp.of_le (by (refine le_ofL rfl ?_ ?_ <;> (repeat (first | exact trivial | refine ⟨⟨rfl, rfl⟩, ?_⟩ | refine ⟨rfl, .inl rfl, ?_⟩ | refine ⟨rfl, .inr rfl, ?_⟩))))) ?_
    rintro m' S ⟨i, rv, dd, rfl, ⟨hi, hrv, hrl, hdd⟩, rfl⟩
    have hst := sum_take (kl.map fun j => (readP fit cs f j).2) i
    rw [← List.map_take] at hst
    by_cases hlt : i < kl.length
    · have hjm : kl.getD i default ∈ kl := getD_mem' hlt
      have hst2 := sum_take (kl.map fun j => (readP fit cs f j).2) (i + 1)
      have hst3 : ((kl.take (i + 1)).map fun j => (readP fit cs f j).2).sum = ((kl.take i).map fun j => (readP fit cs f j).2).sum + (readP fit cs f (kl.getD i default)).2 := by
        rw [take_step hlt, List.map_append, List.sum_append]
        simp
      rw [← List.map_take] at hst2
      have hcs : cnt cs (kl.getD i default) + ((kl.take i).map fun j => (readP fit cs f j).2).sum ≤ (kl.map (cnt cs)).sum := by
        have h1 := sum_take (kl.map (cnt cs)) (i + 1)
        rw [← List.map_take, take_step hlt, List.map_append, List.sum_append] at h1
        have h2 := sum_map (fun j => (readP fit cs f j).2) (cnt cs) (kl.take i) fun j hj => (hfa j (List.mem_of_mem_take hj)).2.2
        rw [List.map_singleton, List.sum_cons, List.sum_nil] at h1
        omega
      have hkc := ih (kl.getD i default) hjm dd (by omega) (by omega) (by omega)
      have hrs : (kl.take (i + 1)).map (fun j => flR (readP fit cs f j).1) = (kl.take i).map (fun j => flR (readP fit cs f j).1) ++ [flR (readP fit cs f (kl.getD i default)).1] := by
        rw [take_step hlt, List.map_append, List.map_singleton]
      have hkid := l6Kid_fn (cs.getD (Int.toNat (k : Int)) default) i (by omega)
      have hka := hkA i hlt
      rw [← hka] at hkc
      generalize readP fit cs f (kl.getD i default) = rk at *
      generalize cs.getD (Int.toNat (k : Int)) default = nd at *
      repeat' (first | refine W.seq ?_ | refine W.rg ?_ | refine W.dra' ?_ | refine W.block ?_ | refine W.skip ?_ | refine W.exit ?_ | refine W.cond_true' ?_ | refine W.cond_false' ?_ | refine WG.nil ?_ | refine WG.run' (E := env) ?_ | refine WG.gt' ?_ | refine WG.gf' ?_ | refine WG.ixm' (E := env) ?_ | refine WG.ixo' (E := env) ?_ | refine WG.legm' (E := env) ?_ | refine WG.slS' (E := env) ?_ | refine WG.slD' (E := env) ?_ | refine WG.ap' (E := env) ?_ | refine WD.nil ?_ | refine WD.bs' (E := env) ?_ | refine WD.s' (E := env) (t := .d _) ?_ | refine WD.p' ?_ | refine WD.px' ?_ | refine WD.s' (E := env) (t := .ea _ _) ?_ | refine WD.s' (E := env) (t := .lp _ _) ?_ | refine WD.s' (E := env) (t := .og _ _) ?_ | refine WD.s' (E := env) (t := .agg _) ?_ | refine WD.s' (E := env) (t := .tup _) ?_ | refine WD.s' (E := env) (t := .clo _ _) ?_ | refine WD.ixm' (E := env) ?_ | refine WD.ixo' (E := env) ?_ | refine WD.legm' (E := env) ?_ | refine WD.slS' (E := env) ?_ | refine WD.slD' (E := env) ?_ | refine WG.c (E := env) rfl rfl (hkf) rfl rfl ?_ | refine WD.c (E := env) rfl rfl (hkf) rfl rfl ?_ | refine WG.co (E := env) rfl rfl (hkf) rfl rfl rfl rfl ?_ | refine WG.cx (E := env) rfl (hkf) rfl ?_ | refine WG.c (E := env) rfl rfl (hkid) rfl rfl ?_ | refine WD.c (E := env) rfl rfl (hkid) rfl rfl ?_ | refine WG.co (E := env) rfl rfl (hkid) rfl rfl rfl rfl ?_ | refine WG.cx (E := env) rfl (hkid) rfl ?_ | refine WG.cq (E := env) [0] [0] false rfl rfl (hkc) rfl rfl rfl rfl rfl rfl rfl (by first | exact trivial | exact ⟨rfl, trivial⟩ | exact ⟨rfl, rfl, trivial⟩) (.inl rfl) rfl (fun h => nomatch h) rfl rfl ?_ | refine WG.cqx (E := env) [0] [0] false rfl (hkc) rfl rfl rfl rfl rfl rfl rfl (by first | exact trivial | exact ⟨rfl, trivial⟩ | exact ⟨rfl, rfl, trivial⟩) (.inl rfl) rfl (fun h => nomatch h) rfl ?_ | ((first | refine WG.sp' (fun h => ?_) fun h => ?_ | refine W.cond' (fun h => ?_) fun h => ?_ | refine WD.sp' (fun h => ?_) fun h => ?_) <;> (try simp only [decide_eq_true_eq, decide_eq_false_iff_not, Bool.not_eq_true', Bool.not_eq_false', Bool.and_eq_true, Bool.or_eq_true, Bool.and_eq_false_iff, Bool.or_eq_false_iff, Bool.not_eq_true, Bool.not_eq_false, Int.not_lt, Int.not_le, List.length_map, beq_self_eq_true, Bool.true_eq_false, Bool.false_eq_true] at h) <;> (try (exfalso; first | contradiction | omega))))
      all_goals first | (exfalso; omega) | skip
      refine ⟨_, _, by omega, ⟨i + 1, rv ++ [flR rk.1], dd + (rk.2 : Nat), rfl, ⟨by omega, by rw [hrs, hrv], by simp [hrl], by rw [hst3, hdd]; omega⟩, rfl⟩, (St.imp.rev 2 1 rfl).trans (St.imp.of_le (by (refine le_ofL rfl ?_ ?_ <;> (repeat (first | exact trivial | refine ⟨⟨rfl, rfl⟩, ?_⟩ | refine ⟨rfl, .inl rfl, ?_⟩ | refine ⟨rfl, .inr rfl, ?_⟩)))))⟩
    · obtain rfl : i = kl.length := by omega
      rw [List.take_length] at hrv hdd hst
      have hrv2 : rv = ((kl.map (readP fit cs f)).map (·.1)).map flR := by rw [hrv, List.map_map, List.map_map]; rfl
      have hkln : ((kl.map (readP fit cs f)).map (·.1)).length = kl.length := by simp
      have hct := Pt.count_eq (.mk (cs.getD (Int.toNat (k : Int)) default) ((kl.map (readP fit cs f)).map (·.1)))
      have hflat := Pt.flat_eq (.mk (cs.getD (Int.toNat (k : Int)) default) ((kl.map (readP fit cs f)).map (·.1))) 0
      simp only [Pt.kids] at hct
      have hputb := put_bare (cs.getD (Int.toNat (k : Int)) default) (Pt.ends ((kl.map (readP fit cs f)).map (·.1)) 0) (by rw [Pt.ends_length]; exact hpg.2.1) hpg.1.2.1
      have hjn := l10Join_fn ((kl.map (readP fit cs f)).map (·.1)) (cs.getD (Int.toNat (k : Int)) default).bare hpg.2.2 (by omega) (by omega)
      rw [hputb, ← hrv2, show Pt.flats ((kl.map (readP fit cs f)).map (·.1)) 0 ++ [(cs.getD (Int.toNat (k : Int)) default).put (Pt.ends ((kl.map (readP fit cs f)).map (·.1)) 0)] = (Pt.mk (cs.getD (Int.toNat (k : Int)) default) ((kl.map (readP fit cs f)).map (·.1))).flat 0 from hflat.symm] at hjn
      refine W.pubD 2 rfl ?_
      by_cases hk0 : kl.length = 0
      · have hfn : fit (.mk (cs.getD (Int.toNat (k : Int)) default) ((kl.map (readP fit cs f)).map (·.1))) = none := by
          cases hq : fit (.mk (cs.getD (Int.toNat (k : Int)) default) ((kl.map (readP fit cs f)).map (·.1))) with
          | none => rfl
          | some q =>
            have := (hfit _ q hpg hq).2.2
            exact absurd (List.eq_nil_of_length_eq_zero (by rw [← hk0, ← hkln]; rfl)) this
        rw [hfn] at hrP
        rw [hrP]
        generalize cs.getD (Int.toNat (k : Int)) default = nd at *
        repeat' (first | refine W.seq ?_ | refine W.rg ?_ | refine W.dra' ?_ | refine W.block ?_ | refine W.skip ?_ | refine W.exit ?_ | refine W.cond_true' ?_ | refine W.cond_false' ?_ | refine WG.nil ?_ | refine WG.run' (E := env) ?_ | refine WG.gt' ?_ | refine WG.gf' ?_ | refine WG.ixm' (E := env) ?_ | refine WG.ixo' (E := env) ?_ | refine WG.legm' (E := env) ?_ | refine WG.slS' (E := env) ?_ | refine WG.slD' (E := env) ?_ | refine WG.ap' (E := env) ?_ | refine WD.nil ?_ | refine WD.bs' (E := env) ?_ | refine WD.s' (E := env) (t := .d _) ?_ | refine WD.p' ?_ | refine WD.px' ?_ | refine WD.s' (E := env) (t := .ea _ _) ?_ | refine WD.s' (E := env) (t := .lp _ _) ?_ | refine WD.s' (E := env) (t := .og _ _) ?_ | refine WD.s' (E := env) (t := .agg _) ?_ | refine WD.s' (E := env) (t := .tup _) ?_ | refine WD.s' (E := env) (t := .clo _ _) ?_ | refine WD.ixm' (E := env) ?_ | refine WD.ixo' (E := env) ?_ | refine WD.legm' (E := env) ?_ | refine WD.slS' (E := env) ?_ | refine WD.slD' (E := env) ?_ | refine WG.c (E := env) rfl rfl (hkf) rfl rfl ?_ | refine WD.c (E := env) rfl rfl (hkf) rfl rfl ?_ | refine WG.co (E := env) rfl rfl (hkf) rfl rfl rfl rfl ?_ | refine WG.cx (E := env) rfl (hkf) rfl ?_ | refine WG.c (E := env) rfl rfl (hjn) rfl rfl ?_ | refine WD.c (E := env) rfl rfl (hjn) rfl rfl ?_ | refine WG.co (E := env) rfl rfl (hjn) rfl rfl rfl rfl ?_ | refine WG.cx (E := env) rfl (hjn) rfl ?_ | ((first | refine WG.sp' (fun h => ?_) fun h => ?_ | refine W.cond' (fun h => ?_) fun h => ?_ | refine WD.sp' (fun h => ?_) fun h => ?_) <;> (try simp only [decide_eq_true_eq, decide_eq_false_iff_not, Bool.not_eq_true', Bool.not_eq_false', Bool.and_eq_true, Bool.or_eq_true, Bool.and_eq_false_iff, Bool.or_eq_false_iff, Bool.not_eq_true, Bool.not_eq_false, Int.not_lt, Int.not_le, List.length_map, beq_self_eq_true, Bool.true_eq_false, Bool.false_eq_true] at h) <;> (try (exfalso; first | contradiction | omega))))
        all_goals first | (exfalso; omega) | skip
        refine W.ret ?_
        refine RetR.own (t := .d (coresD ((Pt.mk nd ((kl.map (readP fit cs f)).map (·.1))).flat 0))) (ob' := [.pv [.d (coresD cs), .d (.nl 6), .d (dI pass), .d (dI (did + (((kl.map fun j => (readP fit cs f j).2).sum : Nat) : Int)))]]) ⟨[0], [0], 3⟩ (.inl rfl) rfl (by first | trivial | exact resOK_of (E := env) rfl) rfl rfl rfl rfl rfl rfl ⟨?_, trivial⟩ rfl ⟨rfl, rfl⟩
        rw [← hdd]
        rfl
      · have hkne : (Pt.mk (cs.getD (Int.toNat (k : Int)) default) ((kl.map (readP fit cs f)).map (·.1))).kids ≠ [] := fun e => hk0 (by rw [← hkln]; exact congrArg List.length e)
        obtain ⟨b, X, hone, hb⟩ := hS _ hpg (by omega) hkne
        rw [show (Pt.mk (cs.getD (Int.toNat (k : Int)) default) ((kl.map (readP fit cs f)).map (·.1))).kids.map flR = rv from hrv2.symm] at hone
        cases b with
        | true =>
          rw [if_pos rfl] at hb
          obtain ⟨q, hq1, hq2⟩ := hb
          subst hq2
          rw [hq1] at hrP
          rw [hrP]
          generalize cs.getD (Int.toNat (k : Int)) default = nd at *
          repeat' (first | refine W.seq ?_ | refine W.rg ?_ | refine W.dra' ?_ | refine W.block ?_ | refine W.skip ?_ | refine W.exit ?_ | refine W.cond_true' ?_ | refine W.cond_false' ?_ | refine WG.nil ?_ | refine WG.run' (E := env) ?_ | refine WG.gt' ?_ | refine WG.gf' ?_ | refine WG.ixm' (E := env) ?_ | refine WG.ixo' (E := env) ?_ | refine WG.legm' (E := env) ?_ | refine WG.slS' (E := env) ?_ | refine WG.slD' (E := env) ?_ | refine WG.ap' (E := env) ?_ | refine WD.nil ?_ | refine WD.bs' (E := env) ?_ | refine WD.s' (E := env) (t := .d _) ?_ | refine WD.p' ?_ | refine WD.px' ?_ | refine WD.s' (E := env) (t := .ea _ _) ?_ | refine WD.s' (E := env) (t := .lp _ _) ?_ | refine WD.s' (E := env) (t := .og _ _) ?_ | refine WD.s' (E := env) (t := .agg _) ?_ | refine WD.s' (E := env) (t := .tup _) ?_ | refine WD.s' (E := env) (t := .clo _ _) ?_ | refine WD.ixm' (E := env) ?_ | refine WD.ixo' (E := env) ?_ | refine WD.legm' (E := env) ?_ | refine WD.slS' (E := env) ?_ | refine WD.slD' (E := env) ?_ | refine WG.c (E := env) rfl rfl (hkf) rfl rfl ?_ | refine WD.c (E := env) rfl rfl (hkf) rfl rfl ?_ | refine WG.co (E := env) rfl rfl (hkf) rfl rfl rfl rfl ?_ | refine WG.cx (E := env) rfl (hkf) rfl ?_ | refine WG.c (E := env) rfl rfl (hone) rfl rfl ?_ | refine WD.c (E := env) rfl rfl (hone) rfl rfl ?_ | refine WG.co (E := env) rfl rfl (hone) rfl rfl rfl rfl ?_ | refine WG.cx (E := env) rfl (hone) rfl ?_ | ((first | refine WG.sp' (fun h => ?_) fun h => ?_ | refine W.cond' (fun h => ?_) fun h => ?_ | refine WD.sp' (fun h => ?_) fun h => ?_) <;> (try simp only [decide_eq_true_eq, decide_eq_false_iff_not, Bool.not_eq_true', Bool.not_eq_false', Bool.and_eq_true, Bool.or_eq_true, Bool.and_eq_false_iff, Bool.or_eq_false_iff, Bool.not_eq_true, Bool.not_eq_false, Int.not_lt, Int.not_le, List.length_map, beq_self_eq_true, Bool.true_eq_false, Bool.false_eq_true] at h) <;> (try (exfalso; first | contradiction | omega))))
          all_goals first | (exfalso; omega) | skip
          refine W.ret ?_
          refine RetR.own (t := .d (coresD (q.flat 0))) (ob' := [.pv [.d (coresD cs), .d (.nl 6), .d (dI pass), .d (dI (did + (((kl.map fun j => (readP fit cs f j).2).sum + 1 : Nat) : Int)))]]) ⟨[0], [0], 3⟩ (.inl rfl) rfl (by first | trivial | exact resOK_of (E := env) rfl) rfl rfl rfl rfl rfl rfl ⟨?_, trivial⟩ rfl ⟨rfl, rfl⟩
          rw [show did + (((kl.map fun j => (readP fit cs f j).2).sum + 1 : Nat) : Int) = dd + 1 by rw [hdd]; omega]
          rfl
        | false =>
          rw [if_neg (by simp)] at hb
          rw [hb] at hrP
          rw [hrP]
          generalize cs.getD (Int.toNat (k : Int)) default = nd at *
          repeat' (first | refine W.seq ?_ | refine W.rg ?_ | refine W.dra' ?_ | refine W.block ?_ | refine W.skip ?_ | refine W.exit ?_ | refine W.cond_true' ?_ | refine W.cond_false' ?_ | refine WG.nil ?_ | refine WG.run' (E := env) ?_ | refine WG.gt' ?_ | refine WG.gf' ?_ | refine WG.ixm' (E := env) ?_ | refine WG.ixo' (E := env) ?_ | refine WG.legm' (E := env) ?_ | refine WG.slS' (E := env) ?_ | refine WG.slD' (E := env) ?_ | refine WG.ap' (E := env) ?_ | refine WD.nil ?_ | refine WD.bs' (E := env) ?_ | refine WD.s' (E := env) (t := .d _) ?_ | refine WD.p' ?_ | refine WD.px' ?_ | refine WD.s' (E := env) (t := .ea _ _) ?_ | refine WD.s' (E := env) (t := .lp _ _) ?_ | refine WD.s' (E := env) (t := .og _ _) ?_ | refine WD.s' (E := env) (t := .agg _) ?_ | refine WD.s' (E := env) (t := .tup _) ?_ | refine WD.s' (E := env) (t := .clo _ _) ?_ | refine WD.ixm' (E := env) ?_ | refine WD.ixo' (E := env) ?_ | refine WD.legm' (E := env) ?_ | refine WD.slS' (E := env) ?_ | refine WD.slD' (E := env) ?_ | refine WG.c (E := env) rfl rfl (hkf) rfl rfl ?_ | refine WD.c (E := env) rfl rfl (hkf) rfl rfl ?_ | refine WG.co (E := env) rfl rfl (hkf) rfl rfl rfl rfl ?_ | refine WG.cx (E := env) rfl (hkf) rfl ?_ | refine WG.c (E := env) rfl rfl (hone) rfl rfl ?_ | refine WD.c (E := env) rfl rfl (hone) rfl rfl ?_ | refine WG.co (E := env) rfl rfl (hone) rfl rfl rfl rfl ?_ | refine WG.cx (E := env) rfl (hone) rfl ?_ | refine WG.c (E := env) rfl rfl (hjn) rfl rfl ?_ | refine WD.c (E := env) rfl rfl (hjn) rfl rfl ?_ | refine WG.co (E := env) rfl rfl (hjn) rfl rfl rfl rfl ?_ | refine WG.cx (E := env) rfl (hjn) rfl ?_ | ((first | refine WG.sp' (fun h => ?_) fun h => ?_ | refine W.cond' (fun h => ?_) fun h => ?_ | refine WD.sp' (fun h => ?_) fun h => ?_) <;> (try simp only [decide_eq_true_eq, decide_eq_false_iff_not, Bool.not_eq_true', Bool.not_eq_false', Bool.and_eq_true, Bool.or_eq_true, Bool.and_eq_false_iff, Bool.or_eq_false_iff, Bool.not_eq_true, Bool.not_eq_false, Int.not_lt, Int.not_le, List.length_map, beq_self_eq_true, Bool.true_eq_false, Bool.false_eq_true] at h) <;> (try (exfalso; first | contradiction | omega))))
          all_goals first | (exfalso; omega) | skip
          refine W.ret ?_
          refine RetR.own (t := .d (coresD ((Pt.mk nd ((kl.map (readP fit cs f)).map (·.1))).flat 0))) (ob' := [.pv [.d (coresD cs), .d (.nl 6), .d (dI pass), .d (dI (did + (((kl.map fun j => (readP fit cs f j).2).sum : Nat) : Int)))]]) ⟨[0], [0], 3⟩ (.inl rfl) rfl (by first | trivial | exact resOK_of (E := env) rfl) rfl rfl rfl rfl rfl rfl ⟨?_, trivial⟩ rfl ⟨rfl, rfl⟩
          rw [← hdd]
          rfl

end Go.Proofs.YtojifjbbjnpgbaaGreat
