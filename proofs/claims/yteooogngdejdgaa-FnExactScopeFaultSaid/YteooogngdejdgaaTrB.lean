/-
  The first node of a tree that nothing is about, by the program and by the reference. Conditions: right nodes, at most 1048.
-/
import Derived.Test.YteooogngdejdgaaTrA
set_option linter.unusedVariables false
set_option linter.unusedSimpArgs false
set_option maxRecDepth 100000
namespace Go.Proofs.Yteooogngdejdgaa
open Go.RowKit

set_option maxHeartbeats 4000000 in
theorem unknown_fn (ns : List Nd) (hl : ns.length ≤ 1048) (hok : NmOK ns) : ∀ (f k : Nat) (sl : List ByteArray), k < f → k < ns.length → sl.length + k ≤ 4096 →
    Fun env.P 96 [nodesD ns, dI k, namesD sl] (.d (dI (headI (badM ns f k sl)))) []
  | 0, k, sl, h, _, _ => by omega
  | f + 1, k, sl, hkf, hk, hs => by
    have ih := unknown_fn ns hl hok f
    have hnm := namedK_fn ns k (hok k hk)
    have hka := kids_arN (hok k hk)
    have hlt : ∀ j ∈ kidsOf (nmT ns) k, j < k := fun j hj => kidsOf_lt hj
    rw [badM]
    generalize kidsOf (nmT ns) k = ks at hnm hlt hka
    have hil := intsN_length ks
    refine Fun.intro Try.func96 rfl (by kernel_rfl) rfl ?_
    repeat (first | refine W.seq ?_ | refine W.rg ?_ | refine W.dra' ?_ | refine W.block ?_ | refine W.skip ?_ | refine W.exit ?_ | refine W.cond_true' ?_ | refine W.cond_false' ?_ | refine WG.nil ?_ | refine WG.run' (E := env) ?_ | refine WG.gt' ?_ | refine WG.gf' ?_ | refine WG.ixm' (E := env) ?_ | refine WG.ixo' (E := env) ?_ | refine WG.legm' (E := env) ?_ | refine WG.slS' (E := env) ?_ | refine WG.slD' (E := env) ?_ | refine WG.ap' (E := env) ?_ | refine WD.nil ?_ | refine WD.bs' (E := env) ?_ | refine WD.s' (E := env) (t := .d _) ?_ | refine WD.p' ?_ | refine WD.px' ?_ | refine WD.s' (E := env) (t := .ea _ _) ?_ | refine WD.s' (E := env) (t := .lp _ _) ?_ | refine WD.s' (E := env) (t := .og _ _) ?_ | refine WD.s' (E := env) (t := .agg _) ?_ | refine WD.s' (E := env) (t := .tup _) ?_ | refine WD.s' (E := env) (t := .clo _ _) ?_ | refine WD.ixm' (E := env) ?_ | refine WD.ixo' (E := env) ?_ | refine WD.legm' (E := env) ?_ | refine WD.slS' (E := env) ?_ | refine WD.slD' (E := env) ?_)
    have hat : ns.getD (Int.toNat k) default = ns.getD k default := by simp
    rw [hat]
    generalize hn : ns.getD k default = n at hnm hka
    clear hat
    have hkl := arN_le n.op
    have hknown := isKnown_fn n sl (by omega)
    obtain ⟨F, hF⟩ : ∃ F : Nat → Nat → List Nat, ∀ i j, badM ns f j (inT n i sl) = F i j := ⟨_, fun _ _ => rfl⟩
    rw [show (fun i j => badM ns f j (inT n i sl)) = F from funext fun i => funext fun j => hF i j]
    repeat' (first | refine W.seq ?_ | refine W.rg ?_ | refine W.dra' ?_ | refine W.block ?_ | refine W.skip ?_ | refine W.exit ?_ | refine W.cond_true' ?_ | refine W.cond_false' ?_ | refine WG.nil ?_ | refine WG.run' (E := env) ?_ | refine WG.gt' ?_ | refine WG.gf' ?_ | refine WG.ixm' (E := env) ?_ | refine WG.ixo' (E := env) ?_ | refine WG.legm' (E := env) ?_ | refine WG.slS' (E := env) ?_ | refine WG.slD' (E := env) ?_ | refine WG.ap' (E := env) ?_ | refine WD.nil ?_ | refine WD.bs' (E := env) ?_ | refine WD.s' (E := env) (t := .d _) ?_ | refine WD.p' ?_ | refine WD.px' ?_ | refine WD.s' (E := env) (t := .ea _ _) ?_ | refine WD.s' (E := env) (t := .lp _ _) ?_ | refine WD.s' (E := env) (t := .og _ _) ?_ | refine WD.s' (E := env) (t := .agg _) ?_ | refine WD.s' (E := env) (t := .tup _) ?_ | refine WD.s' (E := env) (t := .clo _ _) ?_ | refine WD.ixm' (E := env) ?_ | refine WD.ixo' (E := env) ?_ | refine WD.legm' (E := env) ?_ | refine WD.slS' (E := env) ?_ | refine WD.slD' (E := env) ?_ | refine WG.c (E := env) rfl rfl (hnm) rfl rfl ?_ | refine WD.c (E := env) rfl rfl (hnm) rfl rfl ?_ | refine WG.co (E := env) rfl rfl (hnm) rfl rfl rfl rfl ?_ | refine WG.cx (E := env) rfl (hnm) rfl ?_ | ((first | refine WG.sp' (fun h => ?_) fun h => ?_ | refine W.cond' (fun h => ?_) fun h => ?_ | refine WD.sp' (fun h => ?_) fun h => ?_) <;> (try simp only [decide_eq_true_eq, decide_eq_false_iff_not, Bool.not_eq_true', Bool.not_eq_false', Bool.and_eq_true, Bool.or_eq_true, Bool.and_eq_false_iff, Bool.or_eq_false_iff, Bool.not_eq_true, Bool.not_eq_false, Int.not_lt, Int.not_le, List.length_map, beq_self_eq_true, Bool.true_eq_false, Bool.false_eq_true] at h) <;> (try (exfalso; first | contradiction | omega))))
    refine W.loopI (fun m S => ∃ (i : Nat), m = ks.length - i ∧ (i ≤ ks.length ∧ flatI F (ks.take i) 0 = []) ∧
        S = ⟨ofL [(0, .d (nodesD ns)), (1, vI .i64 k), (2, .d (namesD sl)), (7, .lp 0 0), (17, .d (.sl 1 ((intsN ks).map intRow))), (18, vI .i64 ((intsN ks).map intRow).length), (19, vI .i64 i)], [.pv (n.row.map .d)]⟩) _ _
        ⟨0, rfl, ⟨by omega, by simp [flatI]⟩, rfl⟩ (St.imp.of_le (by (refine le_ofL rfl ?_ ?_ <;> (repeat (first | exact trivial | refine ⟨⟨rfl, rfl⟩, ?_⟩ | refine ⟨rfl, .inl rfl, ?_⟩ | refine ⟨rfl, .inr rfl, ?_⟩))))) ?_
    rintro m S ⟨i, rfl, ⟨hi, he⟩, rfl⟩
    by_cases hik : i < ks.length
    · have hkm := hlt _ (getD_mem' hik)
      have hia := intsN_at ks i hik
      have hia2 : (intsN ks).getD (Int.toNat i) default = ((ks.getD i default : Nat) : Int) := by simpa using hia
      have hcl := cloneS_fn sl (by omega)
      have htk := flatI_take F ks hik
      have hhd := flatI_head (f := F) hik he
      by_cases hc : (n.op = 20 ∧ i = 1) ∨ (n.op = 19 ∧ i = 2)
      · have hinc : inT n i sl = sl ++ [n.text] := by rw [inT, if_pos hc]
        have ih' := ih (ks.getD i default) (sl ++ [n.text]) (by omega) (by omega) (by rw [List.length_append, List.length_singleton]; omega)
        rw [← hinc, hF, hinc] at ih'
        generalize F i (ks.getD i default) = bl at ih' htk hhd
        rw [← hia2] at ih'
        have ih2 := ih'.cast (args' := [nodesD ns, dI ((intsN ks).getD (Int.toNat i) default), .sl 1 (sl.map txtRow ++ [[dS n.text]])]) (by simp [namesD]) rfl rfl
        generalize hbl : headI bl = h at ih2 hhd
        repeat' (first | (refine W.dre' (id := 7) [1, 5] (fun f => bif bt f 2 then [.pv (n.row.map .d), .gr 1 9 (sl.map txtRow ++ [[dS n.text]]) 1 false] else bif bt f 1 then [.pv (n.row.map .d), .gr 1 9 (sl.map txtRow) 0 false] else [.pv (n.row.map .d)]) [(0, [0]), (1, [0]), (0, [0, 1]), (0, [0, 1]), (0, [0, 1]), (2, [1]), (0, [3])] [.pv (n.row.map .d), .gr 1 9 (sl.map txtRow ++ [[dS n.text]]) 1 false] ?_) | refine W.pubD 1 rfl ?_ | refine WE.mkd (.og 1 0) ?_ (.c (OpS1.coG rfl rfl hcl rfl rfl rfl) .n) | refine WE.nil ?_ | refine WE.ixP' ?_ | refine WE.s' (E := env) (t := .d _) ?_ | refine WE.p' ?_ | refine WE.px' ?_ | refine WE.s' (E := env) (t := .lp _ _) ?_ | refine WE.s' (E := env) (t := .og _ _) ?_ | refine WE.s' (E := env) (t := .ea _ _) ?_ | refine WE.s' (E := env) (t := .agg _) ?_ | refine WE.s' (E := env) (t := .tup _) ?_ | refine WE.ixm' (E := env) ?_ | refine WE.ixo' (E := env) ?_ | refine WE.leg' (E := env) ?_ | refine WE.slS' (E := env) ?_ | refine WE.slD' (E := env) ?_ | refine WE.ap' (E := env) ?_ | refine WE.st' (E := env) ?_ | refine WE.seg' (E := env) ?_ | refine WE.bs' (E := env) ?_ | refine W.seq ?_ | refine W.rg ?_ | refine W.dra' ?_ | refine W.block ?_ | refine W.skip ?_ | refine W.exit ?_ | refine W.cond_true' ?_ | refine W.cond_false' ?_ | refine WG.nil ?_ | refine WG.run' (E := env) ?_ | refine WG.gt' ?_ | refine WG.gf' ?_ | refine WG.ixm' (E := env) ?_ | refine WG.ixo' (E := env) ?_ | refine WG.legm' (E := env) ?_ | refine WG.slS' (E := env) ?_ | refine WG.slD' (E := env) ?_ | refine WG.ap' (E := env) ?_ | refine WD.nil ?_ | refine WD.bs' (E := env) ?_ | refine WD.s' (E := env) (t := .d _) ?_ | refine WD.p' ?_ | refine WD.px' ?_ | refine WD.s' (E := env) (t := .ea _ _) ?_ | refine WD.s' (E := env) (t := .lp _ _) ?_ | refine WD.s' (E := env) (t := .og _ _) ?_ | refine WD.s' (E := env) (t := .agg _) ?_ | refine WD.s' (E := env) (t := .tup _) ?_ | refine WD.s' (E := env) (t := .clo _ _) ?_ | refine WD.ixm' (E := env) ?_ | refine WD.ixo' (E := env) ?_ | refine WD.legm' (E := env) ?_ | refine WD.slS' (E := env) ?_ | refine WD.slD' (E := env) ?_ | refine WG.c (E := env) rfl rfl (ih2) rfl rfl ?_ | refine WD.c (E := env) rfl rfl (ih2) rfl rfl ?_ | refine WG.co (E := env) rfl rfl (ih2) rfl rfl rfl rfl ?_ | refine WG.cx (E := env) rfl (ih2) rfl ?_ | ((first | refine WG.sp' (fun h => ?_) fun h => ?_ | refine W.cond' (fun h => ?_) fun h => ?_ | refine WD.sp' (fun h => ?_) fun h => ?_) <;> (try simp only [decide_eq_true_eq, decide_eq_false_iff_not, Bool.not_eq_true', Bool.not_eq_false', Bool.and_eq_true, Bool.or_eq_true, Bool.and_eq_false_iff, Bool.or_eq_false_iff, Bool.not_eq_true, Bool.not_eq_false, Int.not_lt, Int.not_le, List.length_map, beq_self_eq_true, Bool.true_eq_false, Bool.false_eq_true] at h) <;> (try (exfalso; first | contradiction | omega))))
        all_goals first
          | ((refine W.ret ?_; (first | refine RetQ.b' ?_ | refine RetQ.i' ?_ | refine RetQ.d' ?_ | refine RetQ.t2' ?_ ?_ | refine RetQ.t3' ?_ ?_ ?_)); rw [headI_app (by rw [hhd (by omega)]; omega), hhd (by omega)]; done)
          | exact ⟨_, _, by omega, ⟨i + 1, rfl, ⟨by omega, by rw [htk, he, headI_nil (l := bl) (by omega)]; rfl⟩, rfl⟩, (St.imp.of_le (by (refine le_ofL rfl ?_ ?_ <;> (repeat (first | exact trivial | refine ⟨⟨rfl, rfl⟩, ?_⟩ | refine ⟨rfl, .inl rfl, ?_⟩ | refine ⟨rfl, .inr rfl, ?_⟩)))))⟩
      · have hinc : inT n i sl = sl := by rw [inT, if_neg hc]
        have ih' := ih (ks.getD i default) sl (by omega) (by omega) (by omega)
        rw [← hinc, hF, hinc] at ih'
        generalize F i (ks.getD i default) = bl at ih' htk hhd
        rw [← hia2] at ih'
        generalize hbl : headI bl = h at ih' hhd
        repeat' (first | refine W.seq ?_ | refine W.rg ?_ | refine W.dra' ?_ | refine W.block ?_ | refine W.skip ?_ | refine W.exit ?_ | refine W.cond_true' ?_ | refine W.cond_false' ?_ | refine WG.nil ?_ | refine WG.run' (E := env) ?_ | refine WG.gt' ?_ | refine WG.gf' ?_ | refine WG.ixm' (E := env) ?_ | refine WG.ixo' (E := env) ?_ | refine WG.legm' (E := env) ?_ | refine WG.slS' (E := env) ?_ | refine WG.slD' (E := env) ?_ | refine WG.ap' (E := env) ?_ | refine WD.nil ?_ | refine WD.bs' (E := env) ?_ | refine WD.s' (E := env) (t := .d _) ?_ | refine WD.p' ?_ | refine WD.px' ?_ | refine WD.s' (E := env) (t := .ea _ _) ?_ | refine WD.s' (E := env) (t := .lp _ _) ?_ | refine WD.s' (E := env) (t := .og _ _) ?_ | refine WD.s' (E := env) (t := .agg _) ?_ | refine WD.s' (E := env) (t := .tup _) ?_ | refine WD.s' (E := env) (t := .clo _ _) ?_ | refine WD.ixm' (E := env) ?_ | refine WD.ixo' (E := env) ?_ | refine WD.legm' (E := env) ?_ | refine WD.slS' (E := env) ?_ | refine WD.slD' (E := env) ?_ | refine WG.c (E := env) rfl rfl (ih') rfl rfl ?_ | refine WD.c (E := env) rfl rfl (ih') rfl rfl ?_ | refine WG.co (E := env) rfl rfl (ih') rfl rfl rfl rfl ?_ | refine WG.cx (E := env) rfl (ih') rfl ?_ | ((first | refine WG.sp' (fun h => ?_) fun h => ?_ | refine W.cond' (fun h => ?_) fun h => ?_ | refine WD.sp' (fun h => ?_) fun h => ?_) <;> (try simp only [decide_eq_true_eq, decide_eq_false_iff_not, Bool.not_eq_true', Bool.not_eq_false', Bool.and_eq_true, Bool.or_eq_true, Bool.and_eq_false_iff, Bool.or_eq_false_iff, Bool.not_eq_true, Bool.not_eq_false, Int.not_lt, Int.not_le, List.length_map, beq_self_eq_true, Bool.true_eq_false, Bool.false_eq_true] at h) <;> (try (exfalso; first | contradiction | omega))))
        all_goals first
          | ((refine W.ret ?_; (first | refine RetQ.b' ?_ | refine RetQ.i' ?_ | refine RetQ.d' ?_ | refine RetQ.t2' ?_ ?_ | refine RetQ.t3' ?_ ?_ ?_)); rw [headI_app (by rw [hhd (by omega)]; omega), hhd (by omega)]; done)
          | exact ⟨_, _, by omega, ⟨i + 1, rfl, ⟨by omega, by rw [htk, he, headI_nil (l := bl) (by omega)]; rfl⟩, rfl⟩, (St.imp.of_le (by (refine le_ofL rfl ?_ ?_ <;> (repeat (first | exact trivial | refine ⟨⟨rfl, rfl⟩, ?_⟩ | refine ⟨rfl, .inl rfl, ?_⟩ | refine ⟨rfl, .inr rfl, ?_⟩)))))⟩
    · rw [show i = ks.length by omega, List.take_length] at he
      rw [he, List.nil_append]
      generalize knownB n sl = b at hknown
      repeat' (first | refine W.seq ?_ | refine W.rg ?_ | refine W.dra' ?_ | refine W.block ?_ | refine W.skip ?_ | refine W.exit ?_ | refine W.cond_true' ?_ | refine W.cond_false' ?_ | refine WG.nil ?_ | refine WG.run' (E := env) ?_ | refine WG.gt' ?_ | refine WG.gf' ?_ | refine WG.ixm' (E := env) ?_ | refine WG.ixo' (E := env) ?_ | refine WG.legm' (E := env) ?_ | refine WG.slS' (E := env) ?_ | refine WG.slD' (E := env) ?_ | refine WG.ap' (E := env) ?_ | refine WD.nil ?_ | refine WD.bs' (E := env) ?_ | refine WD.s' (E := env) (t := .d _) ?_ | refine WD.p' ?_ | refine WD.px' ?_ | refine WD.s' (E := env) (t := .ea _ _) ?_ | refine WD.s' (E := env) (t := .lp _ _) ?_ | refine WD.s' (E := env) (t := .og _ _) ?_ | refine WD.s' (E := env) (t := .agg _) ?_ | refine WD.s' (E := env) (t := .tup _) ?_ | refine WD.s' (E := env) (t := .clo _ _) ?_ | refine WD.ixm' (E := env) ?_ | refine WD.ixo' (E := env) ?_ | refine WD.legm' (E := env) ?_ | refine WD.slS' (E := env) ?_ | refine WD.slD' (E := env) ?_ | refine WG.c (E := env) rfl rfl (hknown) rfl rfl ?_ | refine WD.c (E := env) rfl rfl (hknown) rfl rfl ?_ | refine WG.co (E := env) rfl rfl (hknown) rfl rfl rfl rfl ?_ | refine WG.cx (E := env) rfl (hknown) rfl ?_ | ((first | refine WG.sp' (fun h => ?_) fun h => ?_ | refine W.cond' (fun h => ?_) fun h => ?_ | refine WD.sp' (fun h => ?_) fun h => ?_) <;> (try simp only [decide_eq_true_eq, decide_eq_false_iff_not, Bool.not_eq_true', Bool.not_eq_false', Bool.and_eq_true, Bool.or_eq_true, Bool.and_eq_false_iff, Bool.or_eq_false_iff, Bool.not_eq_true, Bool.not_eq_false, Int.not_lt, Int.not_le, List.length_map, beq_self_eq_true, Bool.true_eq_false, Bool.false_eq_true] at h) <;> (try (exfalso; first | contradiction | omega))))
      all_goals (refine W.ret ?_; (first | refine RetQ.b' ?_ | refine RetQ.i' ?_ | refine RetQ.d' ?_ | refine RetQ.t2' ?_ ?_ | refine RetQ.t3' ?_ ?_ ?_))
      all_goals (simp_all [headI]; try rfl)

end Go.Proofs.Yteooogngdejdgaa
