/-
  A tree lowered, by the reference. Conditions: none.
-/
import Derived.Test.YtmmjbpgdkokjgaaGreatQLowerTreeLwA
set_option linter.unusedVariables false
set_option linter.unusedSimpArgs false
set_option maxRecDepth 100000
namespace Go.Proofs.YtmmjbpgdkokjgaaGreat
open Go.RowKit

structure Stop (p : Prop) : Prop where
  out : p
/-- A walk stops ahead of a region. -/
theorem W.stopAt {P : Program} {N : Nm} {l : List Oper} {b : Bool} {Q : Exit → St → Prop} {S : St} (id : Nat) (h : Stop (W P N (.region id l.toArray b) Q S)) : W P N (.region id l.toArray b) Q S := h.out

theorem WG.adoptPv {P : Program} {N : Nm} {G : List Nat} {ops lst : List Oper} {Q : Exit → St → Prop} {tm : Nat → T} {ob : List Ob} (l off : Nat) (e : TypeId) {z : Nat} {cs : List T} (hl : ob[l]? = some (.pv cs)) (ho : cs[off]? = some (.d (.nl z)))
    (h : WG G P N ops lst Q ⟨tm, ob.set l (.pv (cs.set off (.og ob.length 0))) ++ [.gr z e [] 0 false]⟩) : WG G P N ops lst Q ⟨tm, ob⟩ := fun w0 σ0 a w g r => by
  obtain ⟨g', hle, I, ht⟩ := r.inv.adopt (by rw [r.hm]; exact r.hl) z e
  have hlt : l < ob.length := (List.getElem?_eq_some_iff.1 hl).1
  refine h w0 σ0 a w g' ⟨?_, r.defers, r.size, r.hm, by have := r.hl; simp at this ⊢; omega, fun j => (r.tm j).mono hle⟩
  have hl2 : (ob ++ [Ob.gr z e [] 0 false])[l]? = some (.pv cs) := by rw [List.getElem?_append_left hlt]; exact hl
  rw [← List.set_append_left _ _ hlt]
  obtain ⟨h1, b, vs, e', h2, h3, h4, h5, h6, h7, h8⟩ := I.obs l _ hl2
  refine I.turn hl2 (fun _ _ _ _ h => by cases h) (by omega) (Gh.le_refl g') rfl (fun _ _ => ⟨rfl, rfl⟩) rfl rfl rfl (Nat.le_refl _) (fun _ _ _ => rfl) ⟨h1, b, vs, e', h2, h3, h4, by simpa using h5, fun i x u hx hu => ?_, h7, h8⟩ fun _ hb => .inl hb
  by_cases hi : off = i
  · subst hi
    have hlo : off < cs.length := (List.getElem?_eq_some_iff.1 ho).1
    rw [List.getElem?_set_self hlo] at hx
    simp only [Option.some.injEq] at hx
    subst hx
    have := (h6 off _ u ho hu).inv_d.inv_nl
    rw [this]
    exact ht
  · rw [List.getElem?_set_ne hi] at hx
    exact h6 i x u hx hu

def lowT (ns : List Nd) : Pt := lowP ns ns.length (ns.length - 1) []
noncomputable def lowC (ns : List Nd) : Int := if scopeC ns = 0 then (if 900 < (lowT ns).count then 2 else 0) else scopeC ns
noncomputable def lowV (ns : List Nd) : Int := if scopeC ns = 0 then 0 else scopeV ns
noncomputable def lowR (ns : List Nd) : List Co := if scopeC ns = 0 ∧ ¬ 900 < (lowT ns).count then (lowT ns).flat 0 else []
/-- A code, a value and a core, as data. -/
def crD (c v : Int) (rs : List Co) : D := .agg [dI c, dI v, coresD rs]

theorem scopeC_zero {ns : List Nd} (h : scopeC ns = 0) : treeM ns = 0 := by
  unfold scopeC at h
  by_cases h0 : treeM ns = 0
  · exact h0
  · rw [if_neg h0] at h; exact h
theorem tdK_all {ns : List Nd} (h : treeM ns = 0) : ∀ j, j < ns.length → TdK ns j := fun j hj => tdK_of (codeFrom_zero (treeM_ok h).2.1 j (by omega) (by omega))
theorem cntT_all {ns : List Nd} (h : treeM ns = 0) : cntT ns (ns.length - 1) = ns.length := by
  unfold cntT
  rw [(treeM_ok h).2.2.1, List.length_range]

set_option maxHeartbeats 2000000 in
theorem LowerTreeS_fn (ns : List Nd) (hf : fitsT ns) : Fun env.P 5 [nodesD ns] (.d (crD (lowC ns) (lowV ns) (lowR ns))) [] := by
  have hsf := ScopeFaultS_fn ns hf
  unfold lowC lowV lowR
  by_cases h0 : scopeC ns = 0
  · have ht := scopeC_zero h0
    obtain ⟨⟨h1, h2⟩, -⟩ := treeM_ok ht
    have hok := tdK_all ht
    have hcn := cntT_all ht
    have hone := (l6One_fn hok ns.length (ns.length - 1) (by omega) (by omega)).2 [] [] (by rw [hcn]; simp; omega) (by rw [hcn]; simp; omega)
    have hcl := lowP_count hok ns.length (ns.length - 1) [] (by omega) (by omega)
    have hlt : (fun names => lowP ns ns.length (ns.length - 1) names) [] = lowT ns := rfl
    rw [hlt] at hone
    change (lowT ns).count ≤ _ at hcl
    have hfl : (lowT ns).on [] = (lowT ns).flat 0 := by simp [Pt.on]
    have hlen := Pt.flat_length (lowT ns) 0
    rw [hfl, show ((ns.length - 1 : Nat) : Int) = ((ns.map Nd.row).length : Int) - 1 by simp; omega] at hone
    change FunQ env.P 15 [.lp 0 0, .d (dI (((ns.map Nd.row).length : Int) - 1)), .d (.sl 1 [])] [.pv [.d (nodesD ns), .og 1 0], .gr 6 66 [] 0 false] (just _ [.pv [.d (nodesD ns), .og 1 (lowT ns).count], .gr 6 66 (((lowT ns).flat 0).map Co.row) (lowT ns).count false]) at hone
    rw [h0] at hsf ⊢
    simp only [true_and, if_true]
    generalize (lowT ns).flat 0 = X at *
    generalize (lowT ns).count = cX at *
    generalize plc X = px at *
    have hXl : (X.map Co.row).length = cX := by rw [List.length_map]; exact hlen
    refine Fun.intro Tryz.func5 rfl (by kernel_rfl) rfl ?_
    repeat' (first | refine W.seq ?_ | refine W.rg ?_ | refine W.skip ?_ | refine W.cond_false' ?_ | refine WG.nil ?_ | refine WG.run' (E := env) ?_ | refine WG.c (E := env) rfl rfl (hsf) rfl rfl ?_ | ((refine W.cond' (fun h => ?_) fun h => ?_) <;> (try simp only [atS, List.length_map, beq_self_eq_true] at h) <;> (try (exfalso; first | contradiction | omega))))
    all_goals first | (exfalso; omega) | skip
    refine WG.adoptPv 2 1 66 rfl rfl ?_
    repeat' (first | refine W.stopAt 6 ?_ | refine W.seq ?_ | refine W.rg ?_ | refine W.skip ?_ | refine W.cond_false' ?_ | refine WG.nil ?_ | refine WG.run' (E := env) ?_ | (refine WG.cq (E := env) (t' := .d (dI px)) (ob2 := [_, _, .pv [.d (nodesD ns), .og 3 (0 + cX)], .gr 6 66 (X.map Co.row) (0 + cX) false]) [2, 3] [0, 0] false rfl rfl hone rfl rfl rfl rfl rfl rfl rfl ⟨rfl, rfl, trivial⟩ (.inl rfl) rfl (fun h => nomatch h) rfl rfl ?_) | fail | ((refine W.cond' (fun h => ?_) fun h => ?_) <;> (try simp only [atS, List.length_map, beq_self_eq_true] at h) <;> (try (exfalso; first | contradiction | omega))))
    all_goals first | (exfalso; omega) | skip
    refine ⟨?_⟩
    refine W.imp ((St.imp.rev 3 (0 + cX) rfl).trans (St.imp.of_le (S' := ⟨ofL [(0, .d (nodesD ns)), (2, .lp 0 0), (4, .lp 2 0)], [.pv [.d (dI 0), .d (dI 0), .d (.nl 6)], .pv [.d (dI 0), .d (dI (scopeV ns))], .pv [.d (nodesD ns), .og 3 0], .gr 6 66 (X.map Co.row) 0 false]⟩) (le_ofL rfl (by simp [revObs, Ob.rev, T.revL, T.rev, obsLe]; exact ⟨rfl, rfl, rfl, rfl, rfl, rfl, rfl⟩) (by (repeat (first | exact trivial | refine ⟨⟨rfl, rfl⟩, ?_⟩ | refine ⟨rfl, .inl rfl, ?_⟩ | refine ⟨rfl, .inr rfl, ?_⟩)))))) ?_
    refine W.pubD 3 rfl ?_
    repeat' (first | refine W.seq ?_ | refine W.rg ?_ | refine W.skip ?_ | refine W.cond_false' ?_ | refine WG.nil ?_ | refine WG.run' (E := env) ?_ | ((refine W.cond' (fun h => ?_) fun h => ?_) <;> (try simp only [atS, List.length_map, beq_self_eq_true] at h) <;> (try (exfalso; first | contradiction | omega))))
    all_goals first | (exfalso; omega) | skip
    all_goals (refine W.ret ?_; (first | refine RetQ.d' ?_))
    · rw [if_pos (by omega), if_neg (by omega)]; rfl
    · rw [if_neg (by omega), if_pos (by omega)]; rfl
  · rw [if_neg h0, if_neg h0, if_neg (fun h => h0 h.1)]
    generalize scopeC ns = c at *
    generalize scopeV ns = v at *
    refine Fun.intro Tryz.func5 rfl (by kernel_rfl) rfl ?_
    repeat' (first | refine W.seq ?_ | refine W.rg ?_ | refine W.skip ?_ | refine W.cond_false' ?_ | refine WG.nil ?_ | refine WG.run' (E := env) ?_ | refine WG.c (E := env) rfl rfl (hsf) rfl rfl ?_ | ((refine W.cond' (fun h => ?_) fun h => ?_) <;> (try simp only [atS, List.length_map, beq_self_eq_true] at h) <;> (try (exfalso; first | contradiction | omega))))
    all_goals first | (exfalso; omega) | skip
    (refine W.ret ?_; (first | refine RetQ.d' ?_))
    rfl

end Go.Proofs.YtmmjbpgdkokjgaaGreat
