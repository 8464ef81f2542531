/-
  Every node of a tree lowered, by the program; a tree lowered. Conditions: none.
-/
import Derived.Test.YtmmjbpgdkokjgaaGreatQLowerTreeLwO
import Derived.Test.YtmmjbpgdkokjgaaGreatQLowerTreeLwB
set_option linter.unusedVariables false
set_option linter.unusedSimpArgs false
set_option maxRecDepth 100000
namespace Go.Proofs.YtmmjbpgdkokjgaaGreat
open Go.RowKit

theorem flatI_nil {f : Nat → Nat → List Nat} : ∀ {l : List Nat} {i : Nat}, flatI f l i = [] → ∀ j ∈ l, ∃ i, f i j = []
  | [], _, _, j, hj => by cases hj
  | x :: r, i, h, j, hj => by
    simp only [flatI, List.append_eq_nil_iff] at h
    rcases List.mem_cons.1 hj with rfl | hj
    · exact ⟨i, h.1⟩
    · exact flatI_nil h.2 j hj

theorem calls_known (ns : List Nd) : ∀ (f k : Nat) (names : List ByteArray), k < f → badM ns f k names = [] → ∀ j ∈ full (nmT ns) k, (ns.getD j default).op = 22 → among callsL (ns.getD j default).text = true
  | 0, k, names, h, _, j, hj, _ => by omega
  | f + 1, k, names, h, hb, j, hj, h22 => by
    rw [badM, List.append_eq_nil_iff] at hb
    rw [full_eq, List.mem_append] at hj
    rcases hj with hj | hj
    · obtain ⟨m, hm, hjm⟩ := List.mem_flatMap.1 hj
      obtain ⟨i, hi⟩ := flatI_nil hb.1 m hm
      have := kidsOf_lt hm
      exact calls_known ns f m _ (by omega) hi j hjm h22
    · have : j = k := by simpa using hj
      subst this
      have h2 := hb.2
      split at h2
      · rename_i hk
        unfold knownB at hk
        rw [if_neg (by omega), if_pos h22] at hk
        exact hk
      · cases h2

set_option maxHeartbeats 2000000 in
theorem lowerI_fn {ns : List Nd} (hok : ∀ j, j < ns.length → TdK ns j) (hca : ∀ j, j < ns.length → (ns.getD j default).op = 22 → among callsL (ns.getD j default).text = true) : ∀ (f k : Nat), k < f → k < ns.length → GoI ns k (fun names => lowP ns f k names) (cntT ns k)
  | 0, k, h, _ => by omega
  | f + 1, k, h, hk => by
    have hn := hok k hk
    have hce := cntT_eq hn
    have hka : 1 ≤ arN (ns.getD k default).op → GoI ns (ns.getD k default).a (fun names => lowP ns f (ns.getD k default).a.toNat names) (cntT ns (ns.getD k default).a.toNat) := fun h1 => by
      have := hn.a h1
      have e : (((ns.getD k default).a.toNat : Nat) : Int) = (ns.getD k default).a := by omega
      have ih := lowerI_fn hok hca f (ns.getD k default).a.toNat (by omega) (by omega)
      rwa [e] at ih
    have hkb : 2 ≤ arN (ns.getD k default).op → GoI ns (ns.getD k default).b (fun names => lowP ns f (ns.getD k default).b.toNat names) (cntT ns (ns.getD k default).b.toNat) := fun h1 => by
      have := hn.b h1
      have e : (((ns.getD k default).b.toNat : Nat) : Int) = (ns.getD k default).b := by omega
      have ih := lowerI_fn hok hca f (ns.getD k default).b.toNat (by omega) (by omega)
      rwa [e] at ih
    have hkc : 3 ≤ arN (ns.getD k default).op → GoI ns (ns.getD k default).c (fun names => lowP ns f (ns.getD k default).c.toNat names) (cntT ns (ns.getD k default).c.toNat) := fun h1 => by
      have := hn.c h1
      have e : (((ns.getD k default).c.toNat : Nat) : Int) = (ns.getD k default).c := by omega
      have ih := lowerI_fn hok hca f (ns.getD k default).c.toNat (by omega) (by omega)
      rwa [e] at ih
    refine ⟨fun names => lowP_count hok (f + 1) k names h hk, fun names L hnl hL => ?_⟩
    obtain ⟨A, hA⟩ : ∃ A : List ByteArray → Pt, A = fun names => lowP ns f (ns.getD k default).a.toNat names := ⟨_, rfl⟩
    obtain ⟨B, hB⟩ : ∃ B : List ByteArray → Pt, B = fun names => lowP ns f (ns.getD k default).b.toNat names := ⟨_, rfl⟩
    obtain ⟨C, hC⟩ : ∃ C : List ByteArray → Pt, C = fun names => lowP ns f (ns.getD k default).c.toNat names := ⟨_, rfl⟩
    have el : lowP ns (f + 1) k names = lowB (ns.getD k default) names (A (inT (ns.getD k default) 0 names)) (B (inT (ns.getD k default) 1 names)) (C (inT (ns.getD k default) 2 names)) := by rw [hA, hB, hC]; rfl
    show FunQ env.P 18 [.lp 0 0, .d (dI k), .d (namesD names)] (loI ns L 0) (just (.d (dI (plc ((lowP ns (f + 1) k names).on L)))) (loI ns ((lowP ns (f + 1) k names).on L) (lowP ns (f + 1) k names).count))
    rw [el]
    rw [← hA] at hka
    rw [← hB] at hkb
    rw [← hC] at hkc
    have hop := hn.op
    have htx := hn.tx
    have hn2 := hn.num2
    have hn4 := hn.num4
    have hct := hca k hk
    clear hn hA hB hC el hca hok
    generalize cntT ns k = ck at *
    generalize cntT ns (ns.getD k default).a.toNat = ca at *
    generalize cntT ns (ns.getD k default).b.toNat = cb at *
    generalize cntT ns (ns.getD k default).c.toNat = cc at *
    generalize hat : ns.getD k default = n at *
    by_cases hpl : 0 < plainM n.op
    · rw [show lowB n names (A (inT n 0 names)) (B (inT n 1 names)) (C (inT n 2 names)) = Pt.mk (plainN n names) ([A (inT n 0 names), B (inT n 1 names), C (inT n 2 names)].take (arN n.op)) from if_pos hpl]
      exact lowerI_plain hk hat hpl hka hkb hkc (fun h => htx (.inr h)) (by omega) (by omega)
    obtain ⟨op, a, b, c, num, text⟩ := n
    simp only at hop hce hka hkb hkc htx hn2 hn4 hct hpl
    have : op = 1 ∨ op = 2 ∨ op = 3 ∨ op = 4 ∨ op = 5 ∨ op = 6 ∨ op = 7 ∨ op = 8 ∨ op = 9 ∨ op = 10 ∨ op = 11 ∨ op = 12 ∨ op = 13 ∨ op = 14 ∨ op = 15 ∨ op = 16 ∨ op = 17 ∨ op = 18 ∨ op = 19 ∨ op = 20 ∨ op = 21 ∨ op = 22 ∨ op = 23 ∨ op = 24 := by omega
    rcases this with rfl | rfl | rfl | rfl | rfl | rfl | rfl | rfl | rfl | rfl | rfl | rfl | rfl | rfl | rfl | rfl | rfl | rfl | rfl | rfl | rfl | rfl | rfl | rfl
    · exact absurd (show 0 < plainM 1 by decide) hpl
    · have e : arN 2 = 0 := rfl
      exact lowerI_2 hk hat (hn2 rfl) (by omega)
    · have e : arN 3 = 0 := rfl
      exact lowerI_3 hk hat (htx (.inl rfl)) (by omega)
    · have e : arN 4 = 0 := rfl
      exact lowerI_4 hk hat (hn4 rfl) (by omega)
    · exact absurd (show 0 < plainM 5 by decide) hpl
    · exact absurd (show 0 < plainM 6 by decide) hpl
    · exact absurd (show 0 < plainM 7 by decide) hpl
    · have e : arN 8 = 2 := rfl
      rw [e] at hce
      simp at hce
      exact lowerI_8 hk hat (hka (by decide)) (hkb (by decide)) (by omega) (by omega)
    · have e : arN 9 = 2 := rfl
      rw [e] at hce
      simp at hce
      exact lowerI_9 hk hat (hka (by decide)) (hkb (by decide)) (by omega) (by omega)
    · exact absurd (show 0 < plainM 10 by decide) hpl
    · exact absurd (show 0 < plainM 11 by decide) hpl
    · exact absurd (show 0 < plainM 12 by decide) hpl
    · exact absurd (show 0 < plainM 13 by decide) hpl
    · exact absurd (show 0 < plainM 14 by decide) hpl
    · have e : arN 15 = 0 := rfl
      exact lowerI_15 hk hat  (by omega)
    · have e : arN 16 = 0 := rfl
      exact lowerI_16 hk hat  (by omega)
    · exact absurd (show 0 < plainM 17 by decide) hpl
    · exact absurd (show 0 < plainM 18 by decide) hpl
    · exact absurd (show 0 < plainM 19 by decide) hpl
    · exact absurd (show 0 < plainM 20 by decide) hpl
    · exact absurd (show 0 < plainM 21 by decide) hpl
    · have e : arN 22 = 0 := rfl
      exact lowerI_22 hk hat (hct rfl) (by omega)
    · have e : arN 23 = 1 := rfl
      rw [e] at hce
      simp at hce
      exact lowerI_23 hk hat (hka (by decide)) (by omega) (by omega)
    · have e : arN 24 = 0 := rfl
      exact lowerI_24 hk hat  (by omega)

set_option maxHeartbeats 2000000 in
theorem LowerTree_fn (ns : List Nd) (hf : fitsT ns) : Fun env.P 7 [nodesD ns] (.agg [vI .i64 (lowC ns), vI .i64 (lowV ns), .og 0 0]) [.x (neC ((lowR ns).map coN) (some ((lowR ns).map Co.row))) 0] := by
  have hsf := ScopeFault_fn ns hf
  have hszn := sizeN_fn ns
  unfold lowC lowV lowR
  by_cases h0 : scopeC ns = 0
  · have ht := scopeC_zero h0
    obtain ⟨⟨h1, h2⟩, -, h3, -⟩ := treeM_ok ht
    have hok := tdK_all ht
    have hcn := cntT_all ht
    have hb : badM ns ns.length (ns.length - 1) [] = [] := by
      have h := h0
      unfold scopeC at h
      rw [if_pos ht] at h
      split at h
      · exact absurd h (by decide)
      · rename_i h1
        exact headI_nil h1
    have hca : ∀ j, j < ns.length → (ns.getD j default).op = 22 → among callsL (ns.getD j default).text = true := fun j hj => calls_known ns ns.length (ns.length - 1) [] (by omega) hb j (by rw [h3]; exact List.mem_range.2 hj)
    have hone := (lowerI_fn hok hca ns.length (ns.length - 1) (by omega) (by omega)).2 [] [] (by rw [hcn]; simp; omega) (by rw [hcn]; simp; omega)
    have hcl := lowP_count hok ns.length (ns.length - 1) [] (by omega) (by omega)
    have hlt : (fun names => lowP ns ns.length (ns.length - 1) names) [] = lowT ns := rfl
    rw [hlt] at hone
    change (lowT ns).count ≤ _ at hcl
    have hfl : (lowT ns).on [] = (lowT ns).flat 0 := by simp [Pt.on]
    have hlen := Pt.flat_length (lowT ns) 0
    rw [hfl, show ((ns.length - 1 : Nat) : Int) = ((ns.map Nd.row).length : Int) - 1 by simp; omega] at hone
    change FunQ env.P 18 [.lp 0 0, .d (dI (((ns.map Nd.row).length : Int) - 1)), .d (.sl 1 [])] [.pv [.d (nodesD ns), .og 1 0], .x (neC [] none) 0] (just _ [.pv [.d (nodesD ns), .og 1 (lowT ns).count], .x (neC (((lowT ns).flat 0).map coN) none) (lowT ns).count]) at hone
    rw [h0] at hsf ⊢
    simp only [true_and, if_true]
    generalize (lowT ns).flat 0 = X at *
    generalize (lowT ns).count = cX at *
    generalize plc X = px at *
    have hXl : (X.map coN).length = cX := by rw [List.length_map]; exact hlen
    generalize scopeV ns = sv at *
    by_cases hbig : 900 < cX
    · rw [if_pos hbig, if_neg (fun h => h hbig)]
      refine FunQ.fin (t := .agg [.d (dI 2), .d (dI 0), .og 0 0]) (ob1 := [.gr 6 66 [] 0 false]) ?_ ?_
      · show Fun _ _ _ _ _
        refine Fun.intro Tryz.func7 rfl (by kernel_rfl) rfl ?_
        repeat' (first | refine W.stopAt 5 ?_ | refine W.seq ?_ | refine W.rg ?_ | refine W.skip ?_ | refine W.cond_false' ?_ | refine WG.nil ?_ | refine WG.run' (E := env) ?_ | refine WG.c (E := env) rfl rfl (hsf) rfl rfl ?_ | ((refine W.cond' (fun h => ?_) fun h => ?_) <;> (try simp only [atS, List.length_map, beq_self_eq_true] at h) <;> (try (exfalso; first | contradiction | omega))))
        all_goals first | (exfalso; omega) | skip
        refine ⟨?_⟩
        refine W.adoptPv 2 1 66 rfl rfl ?_
        refine W.imp (St.imp.nest 3 5 93 5 rfl (by decide)) ?_
        repeat' (first | refine W.stopAt 6 ?_ | refine W.seq ?_ | refine W.rg ?_ | refine W.skip ?_ | refine W.cond_false' ?_ | refine WG.nil ?_ | refine WG.run' (E := env) ?_ | (refine WG.cq (E := env) (t' := .d (dI px)) (ob2 := [_, _, .pv [.d (nodesD ns), .og 3 (0 + cX)], .x (neC (X.map coN) none) (0 + cX)]) [2, 3] [0, 0] false rfl rfl hone rfl rfl rfl rfl rfl rfl rfl ⟨rfl, rfl, trivial⟩ (.inl rfl) rfl (fun h => nomatch h) rfl rfl ?_) | refine WG.c (E := env) rfl rfl (hszn) rfl rfl ?_ | ((refine W.cond' (fun h => ?_) fun h => ?_) <;> (try simp only [atS, List.length_map, beq_self_eq_true] at h) <;> (try (exfalso; first | contradiction | omega))))
        refine ⟨?_⟩
        refine W.imp ((St.imp.revX 3 (0 + cX) rfl).trans (St.imp.of_le (S' := ⟨ofL [(0, .d (nodesD ns)), (2, .lp 0 0), (4, .lp 2 0)], [.pv [.d (dI 0), .d (dI 0), .d (.nl 6)], .pv [.d (dI 0), .d (dI sv)], .pv [.d (nodesD ns), .og 3 0], .x (neC (X.map coN) none) 0]⟩) (le_ofL rfl (by simp [revObs, Ob.rev, T.revL, T.rev, obsLe]; exact ⟨rfl, rfl, rfl, rfl, rfl, rfl, rfl⟩) (by (repeat (first | exact trivial | refine ⟨⟨rfl, rfl⟩, ?_⟩ | refine ⟨rfl, .inl rfl, ?_⟩ | refine ⟨rfl, .inr rfl, ?_⟩)))))) ?_
        refine W.imp (St.imp.note 3 rfl (X.map Co.row) (coN_dat X)) ?_
        repeat' (first | refine WG.lenN' (E := env) ?_ | refine W.seq ?_ | refine W.rg ?_ | refine W.skip ?_ | refine W.cond_false' ?_ | refine WG.nil ?_ | refine WG.run' (E := env) ?_ | fail | ((refine W.cond' (fun h => ?_) fun h => ?_) <;> (try simp only [atS, List.length_map, beq_self_eq_true] at h) <;> (try (exfalso; first | contradiction | omega))))
        all_goals first | (exfalso; omega) | skip
        refine W.ret ?_
        exact RetR.agn3' rfl rfl
      · exact fun w0 σ0 w g v I hv => Fin.nest0 (by omega) w0 σ0 w g v I hv
    · rw [if_neg hbig, if_pos hbig]
      refine Fun.intro Tryz.func7 rfl (by kernel_rfl) rfl ?_
      repeat' (first | refine W.stopAt 5 ?_ | refine W.seq ?_ | refine W.rg ?_ | refine W.skip ?_ | refine W.cond_false' ?_ | refine WG.nil ?_ | refine WG.run' (E := env) ?_ | refine WG.c (E := env) rfl rfl (hsf) rfl rfl ?_ | ((refine W.cond' (fun h => ?_) fun h => ?_) <;> (try simp only [atS, List.length_map, beq_self_eq_true] at h) <;> (try (exfalso; first | contradiction | omega))))
      all_goals first | (exfalso; omega) | skip
      refine ⟨?_⟩
      refine W.adoptPv 2 1 66 rfl rfl ?_
      refine W.imp (St.imp.nest 3 5 93 5 rfl (by decide)) ?_
      repeat' (first | refine W.stopAt 6 ?_ | refine W.seq ?_ | refine W.rg ?_ | refine W.skip ?_ | refine W.cond_false' ?_ | refine WG.nil ?_ | refine WG.run' (E := env) ?_ | (refine WG.cq (E := env) (t' := .d (dI px)) (ob2 := [_, _, .pv [.d (nodesD ns), .og 3 (0 + cX)], .x (neC (X.map coN) none) (0 + cX)]) [2, 3] [0, 0] false rfl rfl hone rfl rfl rfl rfl rfl rfl rfl ⟨rfl, rfl, trivial⟩ (.inl rfl) rfl (fun h => nomatch h) rfl rfl ?_) | refine WG.c (E := env) rfl rfl (hszn) rfl rfl ?_ | ((refine W.cond' (fun h => ?_) fun h => ?_) <;> (try simp only [atS, List.length_map, beq_self_eq_true] at h) <;> (try (exfalso; first | contradiction | omega))))
      refine ⟨?_⟩
      refine W.imp ((St.imp.revX 3 (0 + cX) rfl).trans (St.imp.of_le (S' := ⟨ofL [(0, .d (nodesD ns)), (2, .lp 0 0), (4, .lp 2 0)], [.pv [.d (dI 0), .d (dI 0), .d (.nl 6)], .pv [.d (dI 0), .d (dI sv)], .pv [.d (nodesD ns), .og 3 0], .x (neC (X.map coN) none) 0]⟩) (le_ofL rfl (by simp [revObs, Ob.rev, T.revL, T.rev, obsLe]; exact ⟨rfl, rfl, rfl, rfl, rfl, rfl, rfl⟩) (by (repeat (first | exact trivial | refine ⟨⟨rfl, rfl⟩, ?_⟩ | refine ⟨rfl, .inl rfl, ?_⟩ | refine ⟨rfl, .inr rfl, ?_⟩)))))) ?_
      refine W.imp (St.imp.note 3 rfl (X.map Co.row) (coN_dat X)) ?_
      repeat' (first | refine WG.lenN' (E := env) ?_ | refine W.seq ?_ | refine W.rg ?_ | refine W.skip ?_ | refine W.cond_false' ?_ | refine WG.nil ?_ | refine WG.run' (E := env) ?_ | fail | ((refine W.cond' (fun h => ?_) fun h => ?_) <;> (try simp only [atS, List.length_map, beq_self_eq_true] at h) <;> (try (exfalso; first | contradiction | omega))))
      all_goals first | (exfalso; omega) | skip
      refine W.ret ?_
      exact RetR.agx3 (.inl rfl) rfl (by first | trivial | exact resOK_of (E := env) rfl) rfl rfl rfl rfl
  · rw [if_neg h0, if_neg h0, if_neg (fun h => h0 h.1)]
    generalize scopeC ns = c at *
    generalize scopeV ns = v at *
    refine FunQ.fin (t := .agg [.d (dI c), .d (dI v), .og 0 0]) (ob1 := [.gr 6 66 [] 0 false]) ?_ ?_
    · show Fun _ _ _ _ _
      refine Fun.intro Tryz.func7 rfl (by kernel_rfl) rfl ?_
      repeat' (first | refine W.seq ?_ | refine W.rg ?_ | refine W.skip ?_ | refine W.cond_false' ?_ | refine WG.nil ?_ | refine WG.run' (E := env) ?_ | refine WG.c (E := env) rfl rfl (hsf) rfl rfl ?_ | ((refine W.cond' (fun h => ?_) fun h => ?_) <;> (try simp only [atS, List.length_map, beq_self_eq_true] at h) <;> (try (exfalso; first | contradiction | omega))))
      all_goals first | (exfalso; omega) | skip
      refine W.ret ?_
      exact RetR.agn3' rfl rfl
    · exact fun w0 σ0 w g v I hv => Fin.nest0 (by omega) w0 σ0 w g v I hv

end Go.Proofs.YtmmjbpgdkokjgaaGreat
