/-
  The program's reading of a part of a core, with others in place of what fits. Conditions: a core without fault.
-/
import Derived.Test.YtojifjbbjnpgbaaGreatQDeadCorePp3
import Derived.Test.YtojifjbbjnpgbaaGreatQDeadCorePgE
import Derived.Test.YtojifjbbjnpgbaaGreatQDeadCoreSo2
set_option linter.unusedVariables false
set_option linter.unusedSimpArgs false
set_option maxRecDepth 100000
namespace Go.Proofs.YtojifjbbjnpgbaaGreat
open Go.RowKit

section
variable {P : Program} {E : Env} {N : Nm} {tm : Nat → T} {ob ob2 : List Ob} {ops : List Oper} {ty : TypeId} {pos : String} {after : Array Edge} {gd : Option (Nat × Bool)} {d : Nat}

/-- A call that writes to what it is lent, in a drawn region. -/
theorem OpS1.cqW {f : FuncId} {fop : Operand} {xs : List Operand} {tys : List TypeId} {cap args : List T} {obA obB : List Ob} {t t' : T} {KK : Nat} (idx off : List Nat) (hw : St.want ⟨tm, ob⟩ ops ⟨some d, .call ⟨.value fop, xs.toArray, tys.toArray⟩, ty, pos, after, gd⟩ = some true) (hd : Nat.blt d N.n = true)
    (hc : FunQ E.P f args obA (just t obB)) (hclo : cloOf (norm ob (St.ev ⟨tm, ob⟩ fop)) = some (f, cap)) (hK : KK = ob.length) (ha : argsT E ⟨tm, ob⟩ false xs tys ++ cap = T.renL ⟨idx, off, KK⟩ args) (hlp : T.lpOKL ⟨idx, off, KK⟩ args = true) (hnd : nodupB idx = true)
    (hA : Nat.beq obA.length idx.length = true) (hs : startL ⟨idx, off, KK⟩ 0 obA = true) (hmt : matchO ⟨idx, off, KK⟩ ob 0 obA) (hal : aliveN idx.length obB = true) (ht : T.ren ⟨idx, off, KK⟩ t = t') (ho : mergeO ⟨idx, off, KK⟩ 0 ob idx obB = ob2) :
    OpS1 E.P N ops ⟨some d, .call ⟨.value fop, xs.toArray, tys.toArray⟩, ty, pos, after, gd⟩ tm t' ob ob2 := fun tm' hag l Q k' => by
  have hfo : St.ev ⟨tm', ob⟩ fop = St.ev ⟨tm, ob⟩ fop := ev_agree hag (by simp only [Op.operands, Call.operands, Array.toList_append, List.mem_append]; exact .inl (by simp))
  refine WG.cq (G := []) idx off false (by rw [want_agree hag]; exact hw) hd hc (by rw [hfo]; exact hclo) hK ?_ hlp hnd hA hs hmt (.inl rfl) hal (fun h => nomatch h) ht ho k'
  rw [argsT_agree (S := ⟨tm, ob⟩) (S' := ⟨tm', ob⟩) rfl false fun x hx => ev_agree hag (by simp only [Op.operands, Call.operands, Array.toList_append, List.mem_append]; exact .inr (by simpa using hx))]
  exact ha
end

abbrev zPt : List D := [dI 0, dI 0, dI 0, dI 0, dI 0, .nl 5, .nl 7]
abbrev fnD (F : FuncId) : D := .v (.func (.func F) #[] #[])

/-- What a function of the program tells of a part: whether something stands in its place, and what. -/
def FitFn (F : FuncId) (fit : Pt → Option Pt) : Prop := ∀ p : Pt, p.good → p.count ≤ 1000 → ∃ (b : Bool) (q : Pt), Fun env.P F [.agg p.rowP] (.tup [.d (.agg q.rowP), .d (dB b)]) [] ∧ fit p = if b = true then some q else none

set_option maxHeartbeats 8000000 in
theorem readI_fn {F : FuncId} {fit : Pt → Option Pt} (hfit : FitOK fit) (hF : FitFn F fit) {cs : List Co} (hg : GdC cs) (hl : cs.length ≤ 900) : ∀ (f k : Nat) (did : Int), k < f → k < cs.length → cnt cs k ≤ 900 → 0 ≤ did → did ≤ 1000 - cnt cs k →
    FunQ env.P 50 [.lp 0 0, .d (dI k)] [.pv [.d (coresD cs), .d (dI did), .d (fnD F)]] (just (.d (.agg (readP fit cs f k).1.rowP)) [.pv [.d (coresD cs), .d (dI (did + ((readP fit cs f k).2 : Nat))), .d (fnD F)]])
  | 0, k, did, h, _, _, _, _ => by omega
  | f + 1, k, did, h, hk, hcn, hd0, hd1 => by
    have ih := fun j (hj : j ∈ kidsOf (nmC cs) k) (did : Int) => readI_fn hfit hF hg hl f j did (by have := kidsOf_lt hj; omega) (by have := kidsOf_lt hj; omega)
    have hfa := fun j (hj : j ∈ kidsOf (nmC cs) k) => readP_facts hfit hg f j (by have := kidsOf_lt hj; omega) (by have := kidsOf_lt hj; omega)
    have hce := cnt_eq cs k
    have hat : cs.getD (Int.toNat (k : Int)) default = cs.getD k default := by simp
    have hnm : Fun env.P 102 [.agg (cs.getD (Int.toNat (k : Int)) default).row] (.d (.sl 1 ((intsN (kidsOf (nmC cs) k)).map intRow))) [] := by
      rw [hat]
      exact namedKC_fn cs k (hg.1 k hk)
    have hpg : (Pt.mk (cs.getD k default) (((kidsOf (nmC cs) k).map (readP fit cs f)).map (·.1))).good := by
      refine ⟨hg.2 k hk, ?_, Pt.goods_at.2 fun p hp => ?_⟩
      · rw [List.length_map, List.length_map]
        exact kidsC_ar (hg.1 k hk)
      · rw [List.map_map, List.mem_map] at hp
        obtain ⟨j, hj, rfl⟩ := hp
        exact (hfa j hj).1
    have hpc : (Pt.mk (cs.getD k default) (((kidsOf (nmC cs) k).map (readP fit cs f)).map (·.1))).count ≤ cnt cs k := by
      have h1 := counts_map (fun j => (readP fit cs f j).1) (cnt cs) (kidsOf (nmC cs) k) fun j hj => (hfa j hj).2.1
      rw [Pt.count_eq, hce]
      simp only [Pt.kids, List.map_map]
      exact Nat.succ_le_succ h1
    have hsum := sum_map (fun j => (readP fit cs f j).2) (cnt cs) (kidsOf (nmC cs) k) fun j hj => (hfa j hj).2.2
    have hk3 : (kidsOf (nmC cs) k).length ≤ 3 := by rw [kidsC_ar (hg.1 k hk)]; exact arC_le _
    obtain ⟨b, q, hFc, hFb⟩ := hF _ hpg (by omega)
    have hrP : readP fit cs (f + 1) k = match fit (.mk (cs.getD k default) (((kidsOf (nmC cs) k).map (readP fit cs f)).map (·.1))) with
      | some q => (q, (((kidsOf (nmC cs) k).map (readP fit cs f)).map (·.2)).sum + 1)
      | none => (.mk (cs.getD k default) (((kidsOf (nmC cs) k).map (readP fit cs f)).map (·.1)), (((kidsOf (nmC cs) k).map (readP fit cs f)).map (·.2)).sum) := rfl
    have hmm : ((kidsOf (nmC cs) k).map (readP fit cs f)).map (·.2) = (kidsOf (nmC cs) k).map fun j => (readP fit cs f j).2 := by rw [List.map_map]; rfl
    rw [hmm] at hrP
    have hle : (((kidsOf (nmC cs) k).map (cnt cs)).sum : Int) + 1 = cnt cs k := by rw [hce]; simp
    generalize hkl : kidsOf (nmC cs) k = kl at *
    refine FunQ.intro Tryz.func50 rfl (by kernel_rfl) rfl ?_
    repeat' (first | refine W.seq ?_ | refine W.rg ?_ | refine W.dra' ?_ | refine W.block ?_ | refine W.skip ?_ | refine W.exit ?_ | refine W.cond_true' ?_ | refine W.cond_false' ?_ | refine WG.nil ?_ | refine WG.run' (E := env) ?_ | refine WG.gt' ?_ | refine WG.gf' ?_ | refine WG.ixm' (E := env) ?_ | refine WG.ixo' (E := env) ?_ | refine WG.legm' (E := env) ?_ | refine WG.slS' (E := env) ?_ | refine WG.slD' (E := env) ?_ | refine WG.ap' (E := env) ?_ | refine WD.nil ?_ | refine WD.bs' (E := env) ?_ | refine WD.s' (E := env) (t := .d _) ?_ | refine WD.p' ?_ | refine WD.px' ?_ | refine WD.s' (E := env) (t := .ea _ _) ?_ | refine WD.s' (E := env) (t := .lp _ _) ?_ | refine WD.s' (E := env) (t := .og _ _) ?_ | refine WD.s' (E := env) (t := .agg _) ?_ | refine WD.s' (E := env) (t := .tup _) ?_ | refine WD.s' (E := env) (t := .clo _ _) ?_ | refine WD.ixm' (E := env) ?_ | refine WD.ixo' (E := env) ?_ | refine WD.legm' (E := env) ?_ | refine WD.slS' (E := env) ?_ | refine WD.slD' (E := env) ?_ | refine WG.c (E := env) rfl rfl (hnm) rfl rfl ?_ | refine WD.c (E := env) rfl rfl (hnm) rfl rfl ?_ | refine WG.co (E := env) rfl rfl (hnm) rfl rfl rfl rfl ?_ | refine WG.cx (E := env) rfl (hnm) rfl ?_ | ((first | refine WG.sp' (fun h => ?_) fun h => ?_ | refine W.cond' (fun h => ?_) fun h => ?_ | refine WD.sp' (fun h => ?_) fun h => ?_) <;> (try simp only [decide_eq_true_eq, decide_eq_false_iff_not, Bool.not_eq_true', Bool.not_eq_false', Bool.and_eq_true, Bool.or_eq_true, Bool.and_eq_false_iff, Bool.or_eq_false_iff, Bool.not_eq_true, Bool.not_eq_false, Int.not_lt, Int.not_le, List.length_map, beq_self_eq_true, Bool.true_eq_false, Bool.false_eq_true] at h) <;> (try (exfalso; first | contradiction | omega))))
    refine W.adoptPv 2 6 91 rfl rfl ?_
    refine W.loopI (fun m S => ∃ (i : Nat) (rv : List (List D)) (dd : Int), m = kl.length - i ∧ (i ≤ kl.length ∧ rv = (kl.take i).map (fun j => (readP fit cs f j).1.row) ∧ rv.length = i ∧ dd = did + (((kl.take i).map fun j => (readP fit cs f j).2).sum : Nat)) ∧
      S = ⟨ofL [(0, .lp 0 0), (4, .lp 1 0), (5, .lp 2 0), (20, .d (.sl 1 ((intsN kl).map intRow))), (21, vI .i64 ((intsN kl).map intRow).length), (22, vI .i64 i)],
        [.pv [.d (coresD cs), .d (dI dd), .d (fnD F)], .pv (zPt.map .d), .pv [.d (dI (cs.getD (Int.toNat (k : Int)) default).op), .d (dI (cs.getD (Int.toNat (k : Int)) default).a), .d (dI (cs.getD (Int.toNat (k : Int)) default).b), .d (dI (cs.getD (Int.toNat (k : Int)) default).c), .d (dI (cs.getD (Int.toNat (k : Int)) default).num), .d (cellsD (cs.getD (Int.toNat (k : Int)) default).val), .og 3 0], .gr 7 91 rv 0 false]⟩) _ _
      ⟨0, [], did, rfl, ⟨by omega, by simp, rfl, by simp⟩, rfl⟩ (St.imp.of_le (by (refine le_ofL rfl ?_ ?_ <;> (repeat (first | exact trivial | refine ⟨⟨rfl, rfl⟩, ?_⟩ | refine ⟨rfl, .inl rfl, ?_⟩ | refine ⟨rfl, .inr rfl, ?_⟩))))) ?_
    rintro m' S ⟨i, rv, dd, rfl, ⟨hi, hrv, hrl, hdd⟩, rfl⟩
    have hst := sum_take (kl.map fun j => (readP fit cs f j).2) i
    rw [← List.map_take] at hst
    have hinl : (intsN kl).length = kl.length := by simp [intsN]
    by_cases hlt : i < kl.length
    · have hix : (intsN kl).getD (Int.toNat (i : Int)) default = ((kl.getD i default : Nat) : Int) := by simp [intsN, hlt]
      have hjm : kl.getD i default ∈ kl := getD_mem' hlt
      have hst2 := sum_take (kl.map fun j => (readP fit cs f j).2) (i + 1)
      have hst3 : ((kl.take (i + 1)).map fun j => (readP fit cs f j).2).sum = ((kl.take i).map fun j => (readP fit cs f j).2).sum + (readP fit cs f (kl.getD i default)).2 := by
        rw [take_step hlt, List.map_append, List.sum_append]
        simp
      rw [← List.map_take] at hst2
      have hcs : cnt cs (kl.getD i default) + ((kl.take i).map fun j => (readP fit cs f j).2).sum ≤ (kl.map (cnt cs)).sum := by
        have h1 := sum_take (kl.map (cnt cs)) (i + 1)
        rw [← List.map_take, take_step hlt, List.map_append, List.sum_append] at h1
        have h2 := sum_map (fun j => (readP fit cs f j).2) (cnt cs) (kl.take i) fun j hj => (hfa j (List.mem_of_mem_take hj)).2.2
        rw [List.map_singleton, List.sum_cons, List.sum_nil] at h1
        omega
      have hkc := ih (kl.getD i default) hjm dd (by omega) (by omega) (by omega)
      have hrow : (readP fit cs f (kl.getD i default)).1.row = (readP fit cs f (kl.getD i default)).1.rowP := Pt.row_eq _
      have hrs : (kl.take (i + 1)).map (fun j => (readP fit cs f j).1.row) = (kl.take i).map (fun j => (readP fit cs f j).1.row) ++ [(readP fit cs f (kl.getD i default)).1.rowP] := by
        rw [take_step hlt, List.map_append, List.map_singleton, hrow]
      rw [← hix] at hkc
      generalize readP fit cs f (kl.getD i default) = rk at *
      generalize cs.getD (Int.toNat (k : Int)) default = nd at *
      repeat' (first | refine W.dre' (id := 5) [4, 6, 8] (fun g => bif bt g 4 then [.pv [.d (coresD cs), .d (dI (dd + (rk.2 : Nat))), .d (fnD F)], .pv (zPt.map .d), .pv [.d (dI nd.op), .d (dI nd.a), .d (dI nd.b), .d (dI nd.c), .d (dI nd.num), .d (cellsD nd.val), .og 3 1], .gr 7 91 (rv ++ [rk.1.rowP]) 1 false] else bif bt g 2 then [.pv [.d (coresD cs), .d (dI (dd + (rk.2 : Nat))), .d (fnD F)], .pv (zPt.map .d), .pv [.d (dI nd.op), .d (dI nd.a), .d (dI nd.b), .d (dI nd.c), .d (dI nd.num), .d (cellsD nd.val), .og 3 0], .gr 7 91 (rv ++ [rk.1.rowP]) 1 false] else bif bt g 1 then [.pv [.d (coresD cs), .d (dI (dd + (rk.2 : Nat))), .d (fnD F)], .pv (zPt.map .d), .pv [.d (dI nd.op), .d (dI nd.a), .d (dI nd.b), .d (dI nd.c), .d (dI nd.num), .d (cellsD nd.val), .og 3 0], .gr 7 91 rv 0 false] else [.pv [.d (coresD cs), .d (dI dd), .d (fnD F)], .pv (zPt.map .d), .pv [.d (dI nd.op), .d (dI nd.a), .d (dI nd.b), .d (dI nd.c), .d (dI nd.num), .d (cellsD nd.val), .og 3 0], .gr 7 91 rv 0 false]) [(0, [0, 1]), (0, [0, 1]), (0, [0]), (0, [0]), (1, [0]), (0, [1]), (2, [1]), (0, [3]), (4, [3])] [.pv [.d (coresD cs), .d (dI (dd + (rk.2 : Nat))), .d (fnD F)], .pv (zPt.map .d), .pv [.d (dI nd.op), .d (dI nd.a), .d (dI nd.b), .d (dI nd.c), .d (dI nd.num), .d (cellsD nd.val), .og 3 1], .gr 7 91 (rv ++ [rk.1.rowP]) 1 false] ?_ | refine WE.mkd (.d (.agg rk.1.rowP)) ?_ (.c (OpS1.cqW (E := env) (cap := []) [0] [0] rfl rfl hkc rfl rfl rfl rfl rfl rfl rfl ⟨rfl, trivial⟩ rfl rfl rfl) .n) | refine WE.nil ?_ | refine WE.ixP' ?_ | refine WE.s' (E := env) (t := .d _) ?_ | refine WE.p' ?_ | refine WE.px' ?_ | refine WE.s' (E := env) (t := .lp _ _) ?_ | refine WE.s' (E := env) (t := .og _ _) ?_ | refine WE.s' (E := env) (t := .ea _ _) ?_ | refine WE.s' (E := env) (t := .agg _) ?_ | refine WE.s' (E := env) (t := .tup _) ?_ | refine WE.ixm' (E := env) ?_ | refine WE.ixo' (E := env) ?_ | refine WE.leg' (E := env) ?_ | refine WE.slS' (E := env) ?_ | refine WE.slD' (E := env) ?_ | refine WE.ap' (E := env) ?_ | refine WE.st' (E := env) ?_ | refine WE.seg' (E := env) ?_ | refine WE.bs' (E := env) ?_ | refine W.seq ?_ | refine W.rg ?_ | refine W.dra' ?_ | refine W.block ?_ | refine W.skip ?_ | refine W.exit ?_ | refine W.cond_true' ?_ | refine W.cond_false' ?_ | refine WG.nil ?_ | refine WG.run' (E := env) ?_ | refine WG.gt' ?_ | refine WG.gf' ?_ | refine WG.ixm' (E := env) ?_ | refine WG.ixo' (E := env) ?_ | refine WG.legm' (E := env) ?_ | refine WG.slS' (E := env) ?_ | refine WG.slD' (E := env) ?_ | refine WG.ap' (E := env) ?_ | refine WD.nil ?_ | refine WD.bs' (E := env) ?_ | refine WD.s' (E := env) (t := .d _) ?_ | refine WD.p' ?_ | refine WD.px' ?_ | refine WD.s' (E := env) (t := .ea _ _) ?_ | refine WD.s' (E := env) (t := .lp _ _) ?_ | refine WD.s' (E := env) (t := .og _ _) ?_ | refine WD.s' (E := env) (t := .agg _) ?_ | refine WD.s' (E := env) (t := .tup _) ?_ | refine WD.s' (E := env) (t := .clo _ _) ?_ | refine WD.ixm' (E := env) ?_ | refine WD.ixo' (E := env) ?_ | refine WD.legm' (E := env) ?_ | refine WD.slS' (E := env) ?_ | refine WD.slD' (E := env) ?_ | fail | ((first | refine WG.sp' (fun h => ?_) fun h => ?_ | refine W.cond' (fun h => ?_) fun h => ?_ | refine WD.sp' (fun h => ?_) fun h => ?_) <;> (try simp only [decide_eq_true_eq, decide_eq_false_iff_not, Bool.not_eq_true', Bool.not_eq_false', Bool.and_eq_true, Bool.or_eq_true, Bool.and_eq_false_iff, Bool.or_eq_false_iff, Bool.not_eq_true, Bool.not_eq_false, Int.not_lt, Int.not_le, List.length_map, beq_self_eq_true, Bool.true_eq_false, Bool.false_eq_true] at h) <;> (try (exfalso; first | contradiction | omega))))
      exact ⟨_, _, by omega, ⟨i + 1, rv ++ [rk.1.rowP], dd + (rk.2 : Nat), rfl, ⟨by omega, by rw [hrs, hrv], by simp [hrl], by rw [hst3, hdd]; omega⟩, rfl⟩, (St.imp.rev 3 1 rfl).trans (St.imp.of_le (by (refine le_ofL rfl ?_ ?_ <;> (repeat (first | exact trivial | refine ⟨⟨rfl, rfl⟩, ?_⟩ | refine ⟨rfl, .inl rfl, ?_⟩ | refine ⟨rfl, .inr rfl, ?_⟩)))))⟩
    · obtain rfl : i = kl.length := by omega
      rw [List.take_length] at hrv hdd hst
      have hrv2 : rv = ((kl.map (readP fit cs f)).map (·.1)).map Pt.row := by rw [hrv, List.map_map, List.map_map]; rfl
      have hFc' : Fun env.P F [.agg [dI (cs.getD (Int.toNat (k : Int)) default).op, dI (cs.getD (Int.toNat (k : Int)) default).a, dI (cs.getD (Int.toNat (k : Int)) default).b, dI (cs.getD (Int.toNat (k : Int)) default).c, dI (cs.getD (Int.toNat (k : Int)) default).num, cellsD (cs.getD (Int.toNat (k : Int)) default).val, .sl 7 rv]] (.tup [.d (.agg q.rowP), .d (dB b)]) [] := by
        rw [hrv2, hat]
        exact hFc
      rw [← hat] at hrP
      have hq : (Pt.mk (cs.getD (Int.toNat (k : Int)) default) ((kl.map (readP fit cs f)).map (·.1))).rowP = [dI (cs.getD (Int.toNat (k : Int)) default).op, dI (cs.getD (Int.toNat (k : Int)) default).a, dI (cs.getD (Int.toNat (k : Int)) default).b, dI (cs.getD (Int.toNat (k : Int)) default).c, dI (cs.getD (Int.toNat (k : Int)) default).num, cellsD (cs.getD (Int.toNat (k : Int)) default).val, .sl 7 rv] := by rw [hrv2]; rfl
      rw [← hat] at hFb
      generalize cs.getD (Int.toNat (k : Int)) default = nd at *
      cases b with
      | true =>
        rw [if_pos rfl] at hFb
        rw [hFb] at hrP
        rw [hrP]
        repeat' (first | (refine W.pubD 3 rfl ?_; refine W.imp (St.imp.pubP 3 rfl) ?_; refine W.newP ?_; refine W.dre' (id := 7) [9, 10] (fun g => bif bt g 2 then [.pv [.d (coresD cs), .d (dI dd), .d (fnD F)], .pv (zPt.map .d), .pv [.d (dI nd.op), .d (dI nd.a), .d (dI nd.b), .d (dI nd.c), .d (dI nd.num), .d (cellsD nd.val), .d (.sl 7 rv)], .gr 7 91 rv 0 true, .pv (q.rowP.map .d)] else bif bt g 1 then [.pv [.d (coresD cs), .d (dI dd), .d (fnD F)], .pv (zPt.map .d), .pv [.d (dI nd.op), .d (dI nd.a), .d (dI nd.b), .d (dI nd.c), .d (dI nd.num), .d (cellsD nd.val), .d (.sl 7 rv)], .gr 7 91 rv 0 true, .pv (zPt.map .d)] else [.pv [.d (coresD cs), .d (dI dd), .d (fnD F)], .pv (zPt.map .d), .pv [.d (dI nd.op), .d (dI nd.a), .d (dI nd.b), .d (dI nd.c), .d (dI nd.num), .d (cellsD nd.val), .d (.sl 7 rv)], .gr 7 91 rv 0 true, .new]) [(0, [0, 1]), (0, [0, 1]), (0, [0, 1]), (0, [0, 1]), (0, [0, 1]), (0, [0, 1]), (0, [0, 1]), (0, [0, 1]), (0, [0, 1, 3]), (1, [0]), (2, [1]), (0, [3])] [.pv [.d (coresD cs), .d (dI dd), .d (fnD F)], .pv (zPt.map .d), .pv [.d (dI nd.op), .d (dI nd.a), .d (dI nd.b), .d (dI nd.c), .d (dI nd.num), .d (cellsD nd.val), .d (.sl 7 rv)], .gr 7 91 rv 0 true, .pv (q.rowP.map .d)] ?_) | refine WE.mkd (.tup [.d (.agg q.rowP), .d (dB true)]) ?_ (.c (OpS1.cl (E := env) (cap := []) false rfl rfl hFc' rfl rfl rfl rfl (fun h => nomatch h) rfl) (.c (OpS1.cl (E := env) (cap := []) false rfl rfl hFc' rfl rfl rfl rfl (fun h => nomatch h) rfl) .n)) | refine WE.alN' 4 ?_ | refine WE.nil ?_ | refine WE.ixP' ?_ | refine WE.s' (E := env) (t := .d _) ?_ | refine WE.p' ?_ | refine WE.px' ?_ | refine WE.s' (E := env) (t := .lp _ _) ?_ | refine WE.s' (E := env) (t := .og _ _) ?_ | refine WE.s' (E := env) (t := .ea _ _) ?_ | refine WE.s' (E := env) (t := .agg _) ?_ | refine WE.s' (E := env) (t := .tup _) ?_ | refine WE.ixm' (E := env) ?_ | refine WE.ixo' (E := env) ?_ | refine WE.leg' (E := env) ?_ | refine WE.slS' (E := env) ?_ | refine WE.slD' (E := env) ?_ | refine WE.ap' (E := env) ?_ | refine WE.st' (E := env) ?_ | refine WE.seg' (E := env) ?_ | refine WE.bs' (E := env) ?_ | refine W.seq ?_ | refine W.rg ?_ | refine W.dra' ?_ | refine W.block ?_ | refine W.skip ?_ | refine W.exit ?_ | refine W.cond_true' ?_ | refine W.cond_false' ?_ | refine WG.nil ?_ | refine WG.run' (E := env) ?_ | refine WG.gt' ?_ | refine WG.gf' ?_ | refine WG.ixm' (E := env) ?_ | refine WG.ixo' (E := env) ?_ | refine WG.legm' (E := env) ?_ | refine WG.slS' (E := env) ?_ | refine WG.slD' (E := env) ?_ | refine WG.ap' (E := env) ?_ | refine WD.nil ?_ | refine WD.bs' (E := env) ?_ | refine WD.s' (E := env) (t := .d _) ?_ | refine WD.p' ?_ | refine WD.px' ?_ | refine WD.s' (E := env) (t := .ea _ _) ?_ | refine WD.s' (E := env) (t := .lp _ _) ?_ | refine WD.s' (E := env) (t := .og _ _) ?_ | refine WD.s' (E := env) (t := .agg _) ?_ | refine WD.s' (E := env) (t := .tup _) ?_ | refine WD.s' (E := env) (t := .clo _ _) ?_ | refine WD.ixm' (E := env) ?_ | refine WD.ixo' (E := env) ?_ | refine WD.legm' (E := env) ?_ | refine WD.slS' (E := env) ?_ | refine WD.slD' (E := env) ?_ | fail | ((first | refine WG.sp' (fun h => ?_) fun h => ?_ | refine W.cond' (fun h => ?_) fun h => ?_ | refine WD.sp' (fun h => ?_) fun h => ?_) <;> (try simp only [decide_eq_true_eq, decide_eq_false_iff_not, Bool.not_eq_true', Bool.not_eq_false', Bool.and_eq_true, Bool.or_eq_true, Bool.and_eq_false_iff, Bool.or_eq_false_iff, Bool.not_eq_true, Bool.not_eq_false, Int.not_lt, Int.not_le, List.length_map, beq_self_eq_true, Bool.true_eq_false, Bool.false_eq_true] at h) <;> (try (exfalso; first | contradiction | omega))))
        refine W.ret ?_
        refine RetR.own (t := .d (.agg q.rowP)) (ob' := [.pv [.d (coresD cs), .d (dI (did + (((kl.map fun j => (readP fit cs f j).2).sum + 1 : Nat) : Int))), .d (fnD F)]]) ⟨[0], [0], 5⟩ (.inl rfl) rfl (by first | trivial | exact resOK_of (E := env) rfl) ?_ rfl rfl rfl rfl rfl ⟨?_, trivial⟩ rfl ⟨rfl, rfl⟩
        · rfl
        · rw [show did + (((kl.map fun j => (readP fit cs f j).2).sum + 1 : Nat) : Int) = dd + 1 by rw [hdd]; omega]
          rfl
      | false =>
        rw [if_neg (by simp)] at hFb
        rw [hFb] at hrP
        rw [hrP]
        repeat' (first | (refine W.pubD 3 rfl ?_; refine W.imp (St.imp.pubP 3 rfl) ?_; refine W.newP ?_; refine W.dre' (id := 7) [9, 10] (fun g => bif bt g 2 then [.pv [.d (coresD cs), .d (dI dd), .d (fnD F)], .pv (zPt.map .d), .pv [.d (dI nd.op), .d (dI nd.a), .d (dI nd.b), .d (dI nd.c), .d (dI nd.num), .d (cellsD nd.val), .d (.sl 7 rv)], .gr 7 91 rv 0 true, .pv (q.rowP.map .d)] else bif bt g 1 then [.pv [.d (coresD cs), .d (dI dd), .d (fnD F)], .pv (zPt.map .d), .pv [.d (dI nd.op), .d (dI nd.a), .d (dI nd.b), .d (dI nd.c), .d (dI nd.num), .d (cellsD nd.val), .d (.sl 7 rv)], .gr 7 91 rv 0 true, .pv (zPt.map .d)] else [.pv [.d (coresD cs), .d (dI dd), .d (fnD F)], .pv (zPt.map .d), .pv [.d (dI nd.op), .d (dI nd.a), .d (dI nd.b), .d (dI nd.c), .d (dI nd.num), .d (cellsD nd.val), .d (.sl 7 rv)], .gr 7 91 rv 0 true, .new]) [(0, [0, 1]), (0, [0, 1]), (0, [0, 1]), (0, [0, 1]), (0, [0, 1]), (0, [0, 1]), (0, [0, 1]), (0, [0, 1]), (0, [0, 1, 3]), (1, [0]), (2, [1]), (0, [3])] [.pv [.d (coresD cs), .d (dI dd), .d (fnD F)], .pv (zPt.map .d), .pv [.d (dI nd.op), .d (dI nd.a), .d (dI nd.b), .d (dI nd.c), .d (dI nd.num), .d (cellsD nd.val), .d (.sl 7 rv)], .gr 7 91 rv 0 true, .pv (q.rowP.map .d)] ?_) | refine WE.mkd (.tup [.d (.agg q.rowP), .d (dB false)]) ?_ (.c (OpS1.cl (E := env) (cap := []) false rfl rfl hFc' rfl rfl rfl rfl (fun h => nomatch h) rfl) (.c (OpS1.cl (E := env) (cap := []) false rfl rfl hFc' rfl rfl rfl rfl (fun h => nomatch h) rfl) .n)) | refine WE.alN' 4 ?_ | refine WE.nil ?_ | refine WE.ixP' ?_ | refine WE.s' (E := env) (t := .d _) ?_ | refine WE.p' ?_ | refine WE.px' ?_ | refine WE.s' (E := env) (t := .lp _ _) ?_ | refine WE.s' (E := env) (t := .og _ _) ?_ | refine WE.s' (E := env) (t := .ea _ _) ?_ | refine WE.s' (E := env) (t := .agg _) ?_ | refine WE.s' (E := env) (t := .tup _) ?_ | refine WE.ixm' (E := env) ?_ | refine WE.ixo' (E := env) ?_ | refine WE.leg' (E := env) ?_ | refine WE.slS' (E := env) ?_ | refine WE.slD' (E := env) ?_ | refine WE.ap' (E := env) ?_ | refine WE.st' (E := env) ?_ | refine WE.seg' (E := env) ?_ | refine WE.bs' (E := env) ?_ | refine W.seq ?_ | refine W.rg ?_ | refine W.dra' ?_ | refine W.block ?_ | refine W.skip ?_ | refine W.exit ?_ | refine W.cond_true' ?_ | refine W.cond_false' ?_ | refine WG.nil ?_ | refine WG.run' (E := env) ?_ | refine WG.gt' ?_ | refine WG.gf' ?_ | refine WG.ixm' (E := env) ?_ | refine WG.ixo' (E := env) ?_ | refine WG.legm' (E := env) ?_ | refine WG.slS' (E := env) ?_ | refine WG.slD' (E := env) ?_ | refine WG.ap' (E := env) ?_ | refine WD.nil ?_ | refine WD.bs' (E := env) ?_ | refine WD.s' (E := env) (t := .d _) ?_ | refine WD.p' ?_ | refine WD.px' ?_ | refine WD.s' (E := env) (t := .ea _ _) ?_ | refine WD.s' (E := env) (t := .lp _ _) ?_ | refine WD.s' (E := env) (t := .og _ _) ?_ | refine WD.s' (E := env) (t := .agg _) ?_ | refine WD.s' (E := env) (t := .tup _) ?_ | refine WD.s' (E := env) (t := .clo _ _) ?_ | refine WD.ixm' (E := env) ?_ | refine WD.ixo' (E := env) ?_ | refine WD.legm' (E := env) ?_ | refine WD.slS' (E := env) ?_ | refine WD.slD' (E := env) ?_ | fail | ((first | refine WG.sp' (fun h => ?_) fun h => ?_ | refine W.cond' (fun h => ?_) fun h => ?_ | refine WD.sp' (fun h => ?_) fun h => ?_) <;> (try simp only [decide_eq_true_eq, decide_eq_false_iff_not, Bool.not_eq_true', Bool.not_eq_false', Bool.and_eq_true, Bool.or_eq_true, Bool.and_eq_false_iff, Bool.or_eq_false_iff, Bool.not_eq_true, Bool.not_eq_false, Int.not_lt, Int.not_le, List.length_map, beq_self_eq_true, Bool.true_eq_false, Bool.false_eq_true] at h) <;> (try (exfalso; first | contradiction | omega))))
        refine W.ret ?_
        refine RetR.own (t := .d (.agg (Pt.mk nd ((kl.map (readP fit cs f)).map (·.1))).rowP)) (ob' := [.pv [.d (coresD cs), .d (dI (did + (((kl.map fun j => (readP fit cs f j).2).sum : Nat) : Int))), .d (fnD F)]]) ⟨[0], [0], 5⟩ (.inl rfl) rfl (by first | trivial | exact resOK_of (E := env) rfl) ?_ rfl rfl rfl rfl rfl ⟨?_, trivial⟩ rfl ⟨rfl, rfl⟩
        · rw [hq]
          rfl
        · rw [← hdd]
          rfl

end Go.Proofs.YtojifjbbjnpgbaaGreat
