/-
  The nodes of a tree that nothing is about, by the reference; both agree on the first one. Conditions: texts of at most 2^20 bytes.
-/
import Derived.Test.YtmmjbpgdkokjgaaGreatQLowerTreeTrB
set_option linter.unusedVariables false
set_option linter.unusedSimpArgs false
set_option maxRecDepth 100000
namespace Go.Proofs.YtmmjbpgdkokjgaaGreat
open Go.RowKit

theorem flat_bound {nm : Nat → List Int} {F : Nat → Nat → List Nat} {ks : List Nat} (hF : ∀ i j, (F i j).length ≤ (full nm j).length) {i : Nat} (h : i < ks.length) :
    (flatI F (ks.take i) 0).length + (full nm (ks.getD i default)).length ≤ (ks.flatMap (full nm)).length := by
  have h1 := flatI_len (f := F) (g := full nm) (l := ks.take i) (i := 0) fun i j _ => hF i j
  have h2 : (ks.flatMap (full nm)).length = ((ks.take (i + 1)).flatMap (full nm)).length + ((ks.drop (i + 1)).flatMap (full nm)).length := by
    rw [← List.length_append, ← List.flatMap_append, List.take_append_drop]
  rw [take_step h, List.flatMap_append, List.length_append, List.flatMap_singleton] at h2
  omega

theorem flatI_all {F : Nat → Nat → List Nat} {nm : Nat → List Int} (hF : ∀ i j, (F i j).length ≤ (full nm j).length) (ks : List Nat) : (flatI F ks 0).length ≤ (ks.flatMap (full nm)).length :=
  flatI_len (f := F) (g := full nm) fun i j _ => hF i j

set_option maxHeartbeats 8000000 in
theorem l5Scope_fn (ns : List Nd) (hl : ns.length ≤ 1048) (hok : NmOK ns) : ∀ (f k : Nat) (sl : List ByteArray) (out : List Nat), k < f → k < ns.length → sl.length + k ≤ 4096 → out.length + (full (nmT ns) k).length ≤ 8192 →
    FunQ env.P 26 [.d (nodesD ns), .d (dI k), .d (namesD sl), .og 0 0] [.gr 1 2 (natRows out) 0 false] (just (.og 1 0) [.dead, .gr 1 2 (natRows (out ++ badM ns f k sl)) 0 false])
  | 0, k, sl, out, h, _, _, _ => by omega
  | f + 1, k, sl, out, hkf, hk, hs, hout => by
    have ih := l5Scope_fn ns hl hok f
    have hka := kids_arN (hok k hk)
    have hkat := fun q hq => kids_at (hok k hk) (i := q) hq
    have hlt : ∀ j ∈ kidsOf (nmT ns) k, j < k := fun j hj => kidsOf_lt hj
    rw [badM]
    rw [full_eq, List.length_append, List.length_singleton] at hout
    generalize kidsOf (nmT ns) k = ks at hlt hka hkat hout
    refine FunQ.intro Tryz.func26 rfl (by kernel_rfl) rfl ?_
    refine W.imp ((St.imp.mov 0 0 rfl rfl).trans (St.imp.of_le (S' := ⟨ofL [(0, .d (nodesD ns)), (1, vI .i64 k), (2, .d (namesD sl)), (3, .og 1 0)], [.dead, .gr 1 2 (natRows out) 0 false]⟩) (by (refine le_ofL rfl ?_ ?_ <;> (repeat (first | exact trivial | refine ⟨⟨rfl, rfl⟩, ?_⟩ | refine ⟨rfl, .inl rfl, ?_⟩ | refine ⟨rfl, .inr rfl, ?_⟩)))))) ?_
    repeat (first | refine W.seq ?_ | refine W.rg ?_ | refine W.dra' ?_ | refine W.block ?_ | refine W.skip ?_ | refine W.exit ?_ | refine W.cond_true' ?_ | refine W.cond_false' ?_ | refine WG.nil ?_ | refine WG.run' (E := env) ?_ | refine WG.gt' ?_ | refine WG.gf' ?_ | refine WG.ixm' (E := env) ?_ | refine WD.nil ?_ | refine WD.s' (E := env) (t := .d _) ?_ | refine WD.p' ?_ | refine WD.s' (E := env) (t := .ea _ _) ?_ | refine WD.s' (E := env) (t := .lp _ _) ?_ | refine WD.s' (E := env) (t := .og _ _) ?_ | refine WD.s' (E := env) (t := .agg _) ?_ | refine WD.s' (E := env) (t := .tup _) ?_ | refine WD.s' (E := env) (t := .clo _ _) ?_)
    have hat : ns.getD (Int.toNat k) default = ns.getD k default := by simp
    rw [hat]
    generalize hn : ns.getD k default = n at hka hkat
    clear hat
    have hkl := arN_le n.op
    have hks := l5Kids_fn n.op
    rw [← hka] at hks
    obtain ⟨F, hF⟩ : ∃ F : Nat → Nat → List Nat, ∀ i j, badM ns f j (inT n i sl) = F i j := ⟨_, fun _ _ => rfl⟩
    have hFl : ∀ i j, (F i j).length ≤ (full (nmT ns) j).length := fun i j => by rw [← hF]; exact badM_len ns f j _
    rw [show (fun i j => badM ns f j (inT n i sl)) = F from funext fun i => funext fun j => hF i j]
    refine W.loopI (fun m S => ∃ (i : Nat) (o : List Nat), m = ks.length - i ∧ (i ≤ ks.length ∧ o = out ++ flatI F (ks.take i) 0) ∧
      S = ⟨ofL [(0, .d (nodesD ns)), (1, vI .i64 k), (2, .d (namesD sl)), (3, .og 1 0), (9, .lp 2 0), (10, vI .i64 i)], [.dead, .gr 1 2 (natRows o) 0 false, .pv (n.row.map .d)]⟩) _ _ ⟨0, out, rfl, ⟨by omega, by simp [flatI]⟩, rfl⟩ (St.imp.of_le (by (refine le_ofL rfl ?_ ?_ <;> (repeat (first | exact trivial | refine ⟨⟨rfl, rfl⟩, ?_⟩ | refine ⟨rfl, .inl rfl, ?_⟩ | refine ⟨rfl, .inr rfl, ?_⟩))))) ?_
    rintro m S ⟨i, o, rfl, ⟨hi, ho⟩, rfl⟩
    have hlo : (natRows o).length = o.length := by simp [intsN]
    by_cases hik : i < ks.length
    · have hkm := hlt _ (getD_mem' hik)
      have hfb := flat_bound hFl hik
      have hol : o.length = out.length + (flatI F (ks.take i) 0).length := by rw [ho, List.length_append]
      have htk := flatI_take F ks hik
      have hkd := l5Kid_fn n i (by omega)
      by_cases hc : (n.op = 20 ∧ i = 1) ∨ (n.op = 19 ∧ i = 2)
      · have hinc : inT n i sl = sl ++ [n.text] := by rw [inT, if_pos hc]
        have ih' := ih (ks.getD i default) (sl ++ [n.text]) o (by omega) (by omega) (by rw [List.length_append, List.length_singleton]; omega) (by omega)
        rw [← hinc, hF, hinc] at ih'
        generalize F i (ks.getD i default) = bl at ih' htk
        rw [← hkat i hik] at ih'
        have ih2 : FunQ env.P 26 [.d (nodesD ns), .d (dI (kidI n i)), .d (.sl 1 (([] ++ sl.map txtRow) ++ [[dS n.text]])), .og 0 0] [.gr 1 2 (natRows o) 0 false] (just (.og 1 0) [.dead, .gr 1 2 (natRows (o ++ bl)) 0 false]) := by
          rw [show ([] ++ sl.map txtRow) ++ [[dS n.text]] = (sl ++ [n.text]).map txtRow by simp]
          exact ih'
        clear ih'
        repeat' (first | (refine W.dre' (id := 7) [0, 2, 6] (fun f => bif bt f 4 then [.dead, .gr 1 2 (natRows o) 0 false, .pv (n.row.map .d), .gr 1 9 (([] ++ sl.map txtRow) ++ [[dS n.text]]) 2 false] else bif bt f 2 then [.dead, .gr 1 2 (natRows o) 0 false, .pv (n.row.map .d), .gr 1 9 ([] ++ sl.map txtRow) 1 false] else bif bt f 1 then [.dead, .gr 1 2 (natRows o) 0 false, .pv (n.row.map .d), .gr 1 9 [] 0 false] else [.dead, .gr 1 2 (natRows o) 0 false, .pv (n.row.map .d)]) [(1, [0]), (0, [0, 1]), (2, [1]), (0, [0, 1, 3]), (0, [0, 1, 3]), (0, [0, 1, 3]), (4, [3]), (0, [7])] [.dead, .gr 1 2 (natRows o) 0 false, .pv (n.row.map .d), .gr 1 9 (([] ++ sl.map txtRow) ++ [[dS n.text]]) 2 false] ?_) | refine W.pubD 3 rfl ?_ | refine W.seq ?_ | refine W.rg ?_ | refine W.dra' ?_ | refine W.block ?_ | refine W.skip ?_ | refine W.exit ?_ | refine W.cond_true' ?_ | refine W.cond_false' ?_ | refine WG.nil ?_ | refine WG.run' (E := env) ?_ | refine WG.gt' ?_ | refine WG.gf' ?_ | refine WG.ixm' (E := env) ?_ | refine WD.nil ?_ | refine WD.s' (E := env) (t := .d _) ?_ | refine WD.p' ?_ | refine WD.s' (E := env) (t := .ea _ _) ?_ | refine WD.s' (E := env) (t := .lp _ _) ?_ | refine WD.s' (E := env) (t := .og _ _) ?_ | refine WD.s' (E := env) (t := .agg _) ?_ | refine WD.s' (E := env) (t := .tup _) ?_ | refine WD.s' (E := env) (t := .clo _ _) ?_ | refine WE.mkd (.og 3 0) ?_ (.c (OpS1.bsO rfl rfl rfl rfl rfl rfl rfl rfl rfl rfl rfl rfl) .n) | refine WE.nil ?_ | refine WE.s' (E := env) (t := .d _) ?_ | refine WE.s' (E := env) (t := .lp _ _) ?_ | refine WE.s' (E := env) (t := .og _ _) ?_ | refine WE.s' (E := env) (t := .ea _ _) ?_ | refine WE.s' (E := env) (t := .agg _) ?_ | refine WE.s' (E := env) (t := .tup _) ?_ | refine WE.ap' (E := env) ?_ | refine WE.bs' (E := env) ?_ | refine WG.cq (E := env) (t' := .og 4 0) (ob2 := [.dead, .dead, .pv (n.row.map .d), .gr 1 9 (([] ++ sl.map txtRow) ++ [[dS n.text]]) 2 true, .gr 1 2 (natRows (o ++ bl)) 0 false]) [1] [0] false rfl rfl ih2 rfl rfl rfl rfl rfl rfl rfl ⟨rfl, trivial⟩ (.inl rfl) rfl (fun h => nomatch h) rfl rfl ?_ | refine WG.c (E := env) rfl rfl (hks) rfl rfl ?_ | refine WD.c (E := env) rfl rfl (hks) rfl rfl ?_ | refine WG.c (E := env) rfl rfl (hkd) rfl rfl ?_ | refine WD.c (E := env) rfl rfl (hkd) rfl rfl ?_ | ((first | refine WG.sp' (fun h => ?_) fun h => ?_ | refine W.cond' (fun h => ?_) fun h => ?_ | refine WD.sp' (fun h => ?_) fun h => ?_) <;> (try simp only [atS, List.length_map, beq_self_eq_true] at h) <;> (try (exfalso; first | contradiction | omega))))
        all_goals exact ⟨_, _, by omega, ⟨i + 1, o ++ bl, rfl, ⟨by omega, by rw [htk, ho, List.append_assoc]⟩, rfl⟩, (St.imp.movD 4 0 1 rfl rfl).trans (St.imp.of_le (by (refine le_ofL rfl ?_ ?_ <;> (repeat (first | exact trivial | refine ⟨⟨rfl, rfl⟩, ?_⟩ | refine ⟨rfl, .inl rfl, ?_⟩ | refine ⟨rfl, .inr rfl, ?_⟩)))))⟩
      · have hinc : inT n i sl = sl := by rw [inT, if_neg hc]
        have ih' := ih (ks.getD i default) sl o (by omega) (by omega) (by omega) (by omega)
        rw [← hinc, hF, hinc] at ih'
        generalize F i (ks.getD i default) = bl at ih' htk
        rw [← hkat i hik] at ih'
        repeat' (first | refine W.seq ?_ | refine W.rg ?_ | refine W.dra' ?_ | refine W.block ?_ | refine W.skip ?_ | refine W.exit ?_ | refine W.cond_true' ?_ | refine W.cond_false' ?_ | refine WG.nil ?_ | refine WG.run' (E := env) ?_ | refine WG.gt' ?_ | refine WG.gf' ?_ | refine WG.ixm' (E := env) ?_ | refine WD.nil ?_ | refine WD.s' (E := env) (t := .d _) ?_ | refine WD.p' ?_ | refine WD.s' (E := env) (t := .ea _ _) ?_ | refine WD.s' (E := env) (t := .lp _ _) ?_ | refine WD.s' (E := env) (t := .og _ _) ?_ | refine WD.s' (E := env) (t := .agg _) ?_ | refine WD.s' (E := env) (t := .tup _) ?_ | refine WD.s' (E := env) (t := .clo _ _) ?_ | refine WG.cq (E := env) (t' := .og 3 0) (ob2 := [.dead, .dead, .pv (n.row.map .d), .gr 1 2 (natRows (o ++ bl)) 0 false]) [1] [0] false rfl rfl ih' rfl rfl rfl rfl rfl rfl rfl ⟨rfl, trivial⟩ (.inl rfl) rfl (fun h => nomatch h) rfl rfl ?_ | refine WG.c (E := env) rfl rfl (hks) rfl rfl ?_ | refine WD.c (E := env) rfl rfl (hks) rfl rfl ?_ | refine WG.c (E := env) rfl rfl (hkd) rfl rfl ?_ | refine WD.c (E := env) rfl rfl (hkd) rfl rfl ?_ | ((first | refine WG.sp' (fun h => ?_) fun h => ?_ | refine W.cond' (fun h => ?_) fun h => ?_ | refine WD.sp' (fun h => ?_) fun h => ?_) <;> (try simp only [atS, List.length_map, beq_self_eq_true] at h) <;> (try (exfalso; first | contradiction | omega))))
        all_goals exact ⟨_, _, by omega, ⟨i + 1, o ++ bl, rfl, ⟨by omega, by rw [htk, ho, List.append_assoc]⟩, rfl⟩, (St.imp.movD 3 0 1 rfl rfl).trans (St.imp.of_le (by (refine le_ofL rfl ?_ ?_ <;> (repeat (first | exact trivial | refine ⟨⟨rfl, rfl⟩, ?_⟩ | refine ⟨rfl, .inl rfl, ?_⟩ | refine ⟨rfl, .inr rfl, ?_⟩)))))⟩
    · rw [show i = ks.length by omega, List.take_length] at ho
      have hfl := flatI_all hFl ks
      have hol : o.length = out.length + (flatI F ks 0).length := by rw [ho, List.length_append]
      rw [← List.append_assoc, ← ho]
      have a1 := among_fn sl n.text (by omega)
      have a2 := among_fn callsL n.text (by decide)
      have a3 := among_fn onesL n.text (by decide)
      have c2 := callsS_fn
      have c3 := onesS_fn
      have hkb : knownB n sl = if n.op = 21 then among sl n.text else if n.op = 22 then among callsL n.text else if n.op = 23 then among onesL n.text else true := rfl
      generalize among sl n.text = b1 at a1 hkb
      generalize among callsL n.text = b2 at a2 hkb
      generalize among onesL n.text = b3 at a3 hkb
      repeat' (first | refine W.seq ?_ | refine W.rg ?_ | refine W.dra' ?_ | refine W.block ?_ | refine W.skip ?_ | refine W.exit ?_ | refine W.cond_true' ?_ | refine W.cond_false' ?_ | refine WG.nil ?_ | refine WG.run' (E := env) ?_ | refine WG.gt' ?_ | refine WG.gf' ?_ | refine WG.ixm' (E := env) ?_ | refine WD.nil ?_ | refine WD.s' (E := env) (t := .d _) ?_ | refine WD.p' ?_ | refine WD.s' (E := env) (t := .ea _ _) ?_ | refine WD.s' (E := env) (t := .lp _ _) ?_ | refine WD.s' (E := env) (t := .og _ _) ?_ | refine WD.s' (E := env) (t := .agg _) ?_ | refine WD.s' (E := env) (t := .tup _) ?_ | refine WD.s' (E := env) (t := .clo _ _) ?_ | refine WG.ap (E := env) rfl rfl rfl rfl rfl rfl rfl rfl rfl rfl rfl (by rw [hlo]; show (o.length + 1) * 8 ≤ _; omega) ?_ | refine WG.c (E := env) rfl rfl (hks) rfl rfl ?_ | refine WD.c (E := env) rfl rfl (hks) rfl rfl ?_ | refine WG.c (E := env) rfl rfl (a1) rfl rfl ?_ | refine WD.c (E := env) rfl rfl (a1) rfl rfl ?_ | refine WG.c (E := env) rfl rfl (a2) rfl rfl ?_ | refine WD.c (E := env) rfl rfl (a2) rfl rfl ?_ | refine WG.c (E := env) rfl rfl (a3) rfl rfl ?_ | refine WD.c (E := env) rfl rfl (a3) rfl rfl ?_ | refine WG.c (E := env) rfl rfl (c2) rfl rfl ?_ | refine WD.c (E := env) rfl rfl (c2) rfl rfl ?_ | refine WG.c (E := env) rfl rfl (c3) rfl rfl ?_ | refine WD.c (E := env) rfl rfl (c3) rfl rfl ?_ | ((first | refine WG.sp' (fun h => ?_) fun h => ?_ | refine W.cond' (fun h => ?_) fun h => ?_ | refine WD.sp' (fun h => ?_) fun h => ?_) <;> (try simp only [atS, List.length_map, beq_self_eq_true] at h) <;> (try (exfalso; first | contradiction | omega))))
      all_goals first | (exfalso; omega) | skip
      all_goals first
        | (refine W.imp (S' := ⟨ofL [(8, .og 1 0)], [.dead, .gr 1 2 (natRows o ++ [[dI k]]) 0 false]⟩) ((St.imp.rev 1 1 rfl).trans (St.imp.of_le (by (refine le_ofL rfl ?_ ?_ <;> (repeat (first | exact trivial | refine ⟨⟨rfl, rfl⟩, ?_⟩ | refine ⟨rfl, .inl rfl, ?_⟩ | refine ⟨rfl, .inr rfl, ?_⟩)))))) ?_
           refine W.ret ?_
           refine RetQ.r (t := .og 1 0) (ob := [.dead, .gr 1 2 (natRows o ++ [[dI k]]) 0 false]) ⟨rfl, by rw [hkb]; simp [*, natRows, intsN]⟩ (RetQ.mk (.inl rfl) rfl (by first | trivial | exact resOK_of (E := env) rfl) rfl rfl ?_ rfl)
           exact ⟨rfl, .inl rfl, rfl, .inl rfl, trivial⟩)
        | (refine W.imp (S' := ⟨ofL [(8, .og 1 0)], [.dead, .gr 1 2 (natRows o) 0 false]⟩) (St.imp.of_le (by (refine le_ofL rfl ?_ ?_ <;> (repeat (first | exact trivial | refine ⟨⟨rfl, rfl⟩, ?_⟩ | refine ⟨rfl, .inl rfl, ?_⟩ | refine ⟨rfl, .inr rfl, ?_⟩))))) ?_
           refine W.ret ?_
           refine RetQ.r (t := .og 1 0) (ob := [.dead, .gr 1 2 (natRows o) 0 false]) ⟨rfl, by rw [hkb]; simp [*]⟩ (RetQ.mk (.inl rfl) rfl (by first | trivial | exact resOK_of (E := env) rfl) rfl rfl ?_ rfl)
           exact ⟨rfl, .inl rfl, rfl, .inl rfl, trivial⟩)

end Go.Proofs.YtmmjbpgdkokjgaaGreat
