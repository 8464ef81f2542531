/-
  SetKey by the reference. Conditions: none.
-/
import Derived.Test.YtlegadpbjccelaaQMembersSk1
import Derived.Test.YtlegadpbjccelaaQMembersG15
set_option linter.unusedVariables false
set_option linter.unusedSimpArgs false
set_option maxRecDepth 100000
namespace Go.Proofs.Ytlegadpbjccelaa
open Go.RowKit

theorem WG.pubw {G : List Nat} {P : Program} {N : Nm} {ops l : List Oper} {Q : Exit → St → Prop} {tm : Nat → T} {ob : List Ob} (k : Nat) {z : Nat} {e : TypeId} {rows : List (List D)} {n : Nat}
    (h : WG G P N ops l Q ⟨tm, ob.set k (.gr z e rows n true)⟩) (hk : ob[k]? = some (.gr z e rows n false) := by exact rfl) : WG G P N ops l Q ⟨tm, ob⟩ := WL.pub (S := ⟨tm, ob⟩) k hk h

set_option maxHeartbeats 4000000 in
theorem setKeyS_fn (v x : V) (h : v.fine) (hx : x.fine) (key : ByteArray) (hs : key.size ≤ 1048576) (hb : Fun env.P 117 [cellsD v.cells, cellsD x.cells] (.d (dI 0)) []) :
    Fun env.P 51 [cellsD v.cells, dS key, cellsD x.cells] (.d (resD (setO v key x).1 (outC (setO v key x).1 (setO v key x).2))) [] := by
  have p1 := l1Parts_fn v h
  have p2 := l1Keys_fn v h
  have h3 := l1Text_fn key hs
  have b5 := l3Bad_fn 5
  have b6 := l3Bad_fn 6
  have hw := fun hk hv => withV_ok (key := key) h hx hk hv
  have a1 := fun hk hv => FunQ.pubG ((l1ObjectV_fn _ _ (hw hk hv).1 (hw hk hv).2.1 fun w hw' => by have := ((hw hk hv).2.2.2 w hw').2.1; omega).cast (args' := [.sl 1 (v.keys.map keyRow ++ [[dS key]]), .sl 1 (v.kids.map partR ++ [[cellsD x.cells]])]) (by simp [partR]) rfl rfl)
  have a2 := fun hk hv => l1Told_fn _ (withV_good (key := key) h hx hk hv).1 (withV_good (key := key) h hx hk hv).2
  change okText key = true → (v.kind = 0 ∨ v.kind = 6) → Fun env.P _ _ (.d (cellsD (withV v key x).cells)) [] at a1
  have hcl := V.length_counts v.kids
  have hce := V.count_eq v
  have hv200 := h.2.1
  have hnil : v.kind = 0 → v.keys = [] ∧ v.kids = [] := fun e1 => by
    obtain ⟨k, n, t, ks, kids⟩ := v
    have e1 : k = 0 := e1
    exact ⟨h.1.2.2.2.2.2.2.2.1 (by omega), Classical.byContradiction fun hne => by have := h.1.2.2.2.1 hne; omega⟩
  have hkl : v.kind = 6 → v.keysL v.kids.length = v.keys := fun hk => V.keysL_obj h.1 hk
  have hll := fun hk hv => (hw hk hv).2.1
  have hgc := givenC (withV v key x)
  obtain ⟨r1, e1⟩ := V.cells_cons v
  unfold setO
  rw [e1] at p1 p2 hb ⊢
  generalize withV v key x = o at a1 a2 hgc ⊢
  generalize x.cells = ds at *
  generalize v.kind = vk at *
  generalize v.num = vn at *
  generalize v.text = vt at *
  generalize v.kids = vd at *
  generalize hks : v.keys = ks at *
  have hl1 : 1 ≤ ((⟨vk, vn, vt, noS, (vd.length : Int)⟩ :: r1 : List Cell)).length := by simp
  have hg : ((⟨vk, vn, vt, noS, (vd.length : Int)⟩ :: r1 : List Cell).getD (Int.toNat 0) default) = ⟨vk, vn, vt, noS, (vd.length : Int)⟩ := rfl
  by_cases hkt : okText key = true
  case neg =>
    rw [if_neg hkt]
    have hkf : okText key = false := by simpa using hkt
    rw [hkf] at h3
    refine Fun.intro Try.func51 rfl (by kernel_rfl) rfl ?_
    repeat' (first | refine W.seq ?_ | refine W.rg ?_ | refine W.dra' ?_ | refine W.block ?_ | refine W.skip ?_ | refine W.exit ?_ | refine W.cond_true' ?_ | refine W.cond_false' ?_ | refine WG.nil ?_ | refine WG.run' (E := env) ?_ | refine WG.gt' ?_ | refine WG.gf' ?_ | refine WG.ixm' (E := env) ?_ | refine WG.ixo' (E := env) ?_ | refine WG.legm' (E := env) ?_ | refine WG.slS' (E := env) ?_ | refine WG.slD' (E := env) ?_ | refine WG.ap' (E := env) ?_ | refine WD.nil ?_ | refine WD.bs' (E := env) ?_ | refine WD.s' (E := env) (t := .d _) ?_ | refine WD.p' ?_ | refine WD.px' ?_ | refine WD.s' (E := env) (t := .ea _ _) ?_ | refine WD.s' (E := env) (t := .lp _ _) ?_ | refine WD.s' (E := env) (t := .og _ _) ?_ | refine WD.s' (E := env) (t := .agg _) ?_ | refine WD.s' (E := env) (t := .tup _) ?_ | refine WD.s' (E := env) (t := .clo _ _) ?_ | refine WD.ixm' (E := env) ?_ | refine WD.ixo' (E := env) ?_ | refine WD.legm' (E := env) ?_ | refine WD.slS' (E := env) ?_ | refine WD.slD' (E := env) ?_ | refine WG.c (E := env) rfl rfl (hb) rfl rfl ?_ | refine WD.c (E := env) rfl rfl (hb) rfl rfl ?_ | refine WG.co (E := env) rfl rfl (hb) rfl rfl rfl rfl ?_ | refine WG.cx (E := env) rfl (hb) rfl ?_ | refine WG.c (E := env) rfl rfl (h3) rfl rfl ?_ | refine WD.c (E := env) rfl rfl (h3) rfl rfl ?_ | refine WG.co (E := env) rfl rfl (h3) rfl rfl rfl rfl ?_ | refine WG.cx (E := env) rfl (h3) rfl ?_ | refine WG.c (E := env) rfl rfl (b5) rfl rfl ?_ | refine WD.c (E := env) rfl rfl (b5) rfl rfl ?_ | refine WG.co (E := env) rfl rfl (b5) rfl rfl rfl rfl ?_ | refine WG.cx (E := env) rfl (b5) rfl ?_ | ((first | refine WG.sp' (fun h => ?_) fun h => ?_ | refine W.cond' (fun h => ?_) fun h => ?_ | refine WD.sp' (fun h => ?_) fun h => ?_) <;> (try simp only [decide_eq_true_eq, decide_eq_false_iff_not, Bool.not_eq_true', Bool.not_eq_false', Bool.and_eq_true, Bool.or_eq_true, Bool.and_eq_false_iff, Bool.or_eq_false_iff, Bool.not_eq_true, Bool.not_eq_false, Int.not_lt, Int.not_le, List.length_map, beq_self_eq_true, Bool.true_eq_false, Bool.false_eq_true] at h) <;> (try (exfalso; first | contradiction | omega))))
    all_goals first | (exfalso; simp_all; done) | skip
    (refine W.ret ?_; (first | refine RetQ.b' ?_ | refine RetQ.i' ?_ | refine RetQ.d' ?_ | refine RetQ.t2' ?_ ?_ | refine RetQ.t3' ?_ ?_ ?_))
    rfl
  rw [hkt] at h3
  rw [if_pos hkt]
  by_cases hv06 : vk = 0 ∨ vk = 6
  case neg =>
    rw [if_pos (by omega)]
    refine Fun.intro Try.func51 rfl (by kernel_rfl) rfl ?_
    repeat' (first | refine W.seq ?_ | refine W.rg ?_ | refine W.dra' ?_ | refine W.block ?_ | refine W.skip ?_ | refine W.exit ?_ | refine W.cond_true' ?_ | refine W.cond_false' ?_ | refine WG.nil ?_ | refine WG.run' (E := env) ?_ | refine WG.gt' ?_ | refine WG.gf' ?_ | refine WG.ixm' (E := env) ?_ | refine WG.ixo' (E := env) ?_ | refine WG.legm' (E := env) ?_ | refine WG.slS' (E := env) ?_ | refine WG.slD' (E := env) ?_ | refine WG.ap' (E := env) ?_ | refine WD.nil ?_ | refine WD.bs' (E := env) ?_ | refine WD.s' (E := env) (t := .d _) ?_ | refine WD.p' ?_ | refine WD.px' ?_ | refine WD.s' (E := env) (t := .ea _ _) ?_ | refine WD.s' (E := env) (t := .lp _ _) ?_ | refine WD.s' (E := env) (t := .og _ _) ?_ | refine WD.s' (E := env) (t := .agg _) ?_ | refine WD.s' (E := env) (t := .tup _) ?_ | refine WD.s' (E := env) (t := .clo _ _) ?_ | refine WD.ixm' (E := env) ?_ | refine WD.ixo' (E := env) ?_ | refine WD.legm' (E := env) ?_ | refine WD.slS' (E := env) ?_ | refine WD.slD' (E := env) ?_ | refine WG.c (E := env) rfl rfl (hb) rfl rfl ?_ | refine WD.c (E := env) rfl rfl (hb) rfl rfl ?_ | refine WG.co (E := env) rfl rfl (hb) rfl rfl rfl rfl ?_ | refine WG.cx (E := env) rfl (hb) rfl ?_ | refine WG.c (E := env) rfl rfl (h3) rfl rfl ?_ | refine WD.c (E := env) rfl rfl (h3) rfl rfl ?_ | refine WG.co (E := env) rfl rfl (h3) rfl rfl rfl rfl ?_ | refine WG.cx (E := env) rfl (h3) rfl ?_ | refine WG.c (E := env) rfl rfl (b6) rfl rfl ?_ | refine WD.c (E := env) rfl rfl (b6) rfl rfl ?_ | refine WG.co (E := env) rfl rfl (b6) rfl rfl rfl rfl ?_ | refine WG.cx (E := env) rfl (b6) rfl ?_ | ((first | refine WG.sp' (fun h => ?_) fun h => ?_ | refine W.cond' (fun h => ?_) fun h => ?_ | refine WD.sp' (fun h => ?_) fun h => ?_) <;> (try simp only [decide_eq_true_eq, decide_eq_false_iff_not, Bool.not_eq_true', Bool.not_eq_false', Bool.and_eq_true, Bool.or_eq_true, Bool.and_eq_false_iff, Bool.or_eq_false_iff, Bool.not_eq_true, Bool.not_eq_false, Int.not_lt, Int.not_le, List.length_map, beq_self_eq_true, Bool.true_eq_false, Bool.false_eq_true] at h) <;> (try (exfalso; first | contradiction | omega))))
    all_goals (simp only [hg] at *)
    all_goals first | (exfalso; omega) | skip
    (refine W.ret ?_; (first | refine RetQ.b' ?_ | refine RetQ.i' ?_ | refine RetQ.d' ?_ | refine RetQ.t2' ?_ ?_ | refine RetQ.t3' ?_ ?_ ?_))
    rfl
  rw [if_neg (by omega)]
  have c1 := a1 hkt hv06
  have c2 := a2 hkt hv06
  have hl2 := hll hkt hv06
  simp only [List.length_append, List.length_singleton] at hl2
  by_cases h6 : vk = 6
  · rw [hkl h6] at p2
    have hkm : (ks.map keyRow).length = ks.length := by simp
    have hpm : (vd.map partR).length = vd.length := by simp
    refine Fun.intro Try.func51 rfl (by kernel_rfl) rfl ?_
    repeat' (first | refine W.seq ?_ | refine W.rg ?_ | refine W.dra' ?_ | refine W.block ?_ | refine W.skip ?_ | refine W.exit ?_ | refine W.cond_true' ?_ | refine W.cond_false' ?_ | refine WG.nil ?_ | refine WG.run' (E := env) ?_ | refine WG.gt' ?_ | refine WG.gf' ?_ | refine WG.ixm' (E := env) ?_ | refine WG.ixo' (E := env) ?_ | refine WG.legm' (E := env) ?_ | refine WG.slS' (E := env) ?_ | refine WG.slD' (E := env) ?_ | refine WG.ap' (E := env) ?_ | refine WD.nil ?_ | refine WD.bs' (E := env) ?_ | refine WD.s' (E := env) (t := .d _) ?_ | refine WD.p' ?_ | refine WD.px' ?_ | refine WD.s' (E := env) (t := .ea _ _) ?_ | refine WD.s' (E := env) (t := .lp _ _) ?_ | refine WD.s' (E := env) (t := .og _ _) ?_ | refine WD.s' (E := env) (t := .agg _) ?_ | refine WD.s' (E := env) (t := .tup _) ?_ | refine WD.s' (E := env) (t := .clo _ _) ?_ | refine WD.ixm' (E := env) ?_ | refine WD.ixo' (E := env) ?_ | refine WD.legm' (E := env) ?_ | refine WD.slS' (E := env) ?_ | refine WD.slD' (E := env) ?_ | refine WG.pubw 1 ?_ | refine WG.pubw 3 ?_ | refine WG.c (E := env) rfl rfl (hb) rfl rfl ?_ | refine WD.c (E := env) rfl rfl (hb) rfl rfl ?_ | refine WG.co (E := env) rfl rfl (hb) rfl rfl rfl rfl ?_ | refine WG.cx (E := env) rfl (hb) rfl ?_ | refine WG.c (E := env) rfl rfl (h3) rfl rfl ?_ | refine WD.c (E := env) rfl rfl (h3) rfl rfl ?_ | refine WG.co (E := env) rfl rfl (h3) rfl rfl rfl rfl ?_ | refine WG.cx (E := env) rfl (h3) rfl ?_ | refine WG.coG' (E := env) rfl rfl (p1) rfl ?_ | refine WG.coA' (E := env) rfl rfl (p1) rfl ?_ | refine WG.coA3' (E := env) rfl rfl (p1) rfl ?_ | refine WG.coG' (E := env) rfl rfl (p2) rfl ?_ | refine WG.coA' (E := env) rfl rfl (p2) rfl ?_ | refine WG.coA3' (E := env) rfl rfl (p2) rfl ?_ | refine WG.c (E := env) rfl rfl (c1) rfl rfl ?_ | refine WD.c (E := env) rfl rfl (c1) rfl rfl ?_ | refine WG.co (E := env) rfl rfl (c1) rfl rfl rfl rfl ?_ | refine WG.cx (E := env) rfl (c1) rfl ?_ | refine WG.c (E := env) rfl rfl (c2) rfl rfl ?_ | refine WD.c (E := env) rfl rfl (c2) rfl rfl ?_ | refine WG.co (E := env) rfl rfl (c2) rfl rfl rfl rfl ?_ | refine WG.cx (E := env) rfl (c2) rfl ?_ | ((first | refine WG.sp' (fun h => ?_) fun h => ?_ | refine W.cond' (fun h => ?_) fun h => ?_ | refine WD.sp' (fun h => ?_) fun h => ?_) <;> (try simp only [decide_eq_true_eq, decide_eq_false_iff_not, Bool.not_eq_true', Bool.not_eq_false', Bool.and_eq_true, Bool.or_eq_true, Bool.and_eq_false_iff, Bool.or_eq_false_iff, Bool.not_eq_true, Bool.not_eq_false, Int.not_lt, Int.not_le, List.length_map, beq_self_eq_true, Bool.true_eq_false, Bool.false_eq_true] at h) <;> (try (exfalso; first | contradiction | omega))))
    all_goals (simp only [hg] at *)
    all_goals first | (exfalso; omega) | skip
    all_goals (refine W.ret ?_; (first | refine RetQ.b' ?_ | refine RetQ.i' ?_ | refine RetQ.d' ?_ | refine RetQ.t2' ?_ ?_ | refine RetQ.t3' ?_ ?_ ?_))
    all_goals first | rfl | (rw [hgc]; rfl)
  · obtain ⟨q1, q2⟩ := hnil (by omega)
    subst q1 q2
    refine Fun.intro Try.func51 rfl (by kernel_rfl) rfl ?_
    repeat' (first | refine W.seq ?_ | refine W.rg ?_ | refine W.dra' ?_ | refine W.block ?_ | refine W.skip ?_ | refine W.exit ?_ | refine W.cond_true' ?_ | refine W.cond_false' ?_ | refine WG.nil ?_ | refine WG.run' (E := env) ?_ | refine WG.gt' ?_ | refine WG.gf' ?_ | refine WG.ixm' (E := env) ?_ | refine WG.ixo' (E := env) ?_ | refine WG.legm' (E := env) ?_ | refine WG.slS' (E := env) ?_ | refine WG.slD' (E := env) ?_ | refine WG.ap' (E := env) ?_ | refine WD.nil ?_ | refine WD.bs' (E := env) ?_ | refine WD.s' (E := env) (t := .d _) ?_ | refine WD.p' ?_ | refine WD.px' ?_ | refine WD.s' (E := env) (t := .ea _ _) ?_ | refine WD.s' (E := env) (t := .lp _ _) ?_ | refine WD.s' (E := env) (t := .og _ _) ?_ | refine WD.s' (E := env) (t := .agg _) ?_ | refine WD.s' (E := env) (t := .tup _) ?_ | refine WD.s' (E := env) (t := .clo _ _) ?_ | refine WD.ixm' (E := env) ?_ | refine WD.ixo' (E := env) ?_ | refine WD.legm' (E := env) ?_ | refine WD.slS' (E := env) ?_ | refine WD.slD' (E := env) ?_ | refine WG.pubw 1 ?_ | refine WG.pubw 2 ?_ | refine WG.c (E := env) rfl rfl (hb) rfl rfl ?_ | refine WD.c (E := env) rfl rfl (hb) rfl rfl ?_ | refine WG.co (E := env) rfl rfl (hb) rfl rfl rfl rfl ?_ | refine WG.cx (E := env) rfl (hb) rfl ?_ | refine WG.c (E := env) rfl rfl (h3) rfl rfl ?_ | refine WD.c (E := env) rfl rfl (h3) rfl rfl ?_ | refine WG.co (E := env) rfl rfl (h3) rfl rfl rfl rfl ?_ | refine WG.cx (E := env) rfl (h3) rfl ?_ | refine WG.c (E := env) rfl rfl (c1) rfl rfl ?_ | refine WD.c (E := env) rfl rfl (c1) rfl rfl ?_ | refine WG.co (E := env) rfl rfl (c1) rfl rfl rfl rfl ?_ | refine WG.cx (E := env) rfl (c1) rfl ?_ | refine WG.c (E := env) rfl rfl (c2) rfl rfl ?_ | refine WD.c (E := env) rfl rfl (c2) rfl rfl ?_ | refine WG.co (E := env) rfl rfl (c2) rfl rfl rfl rfl ?_ | refine WG.cx (E := env) rfl (c2) rfl ?_ | ((first | refine WG.sp' (fun h => ?_) fun h => ?_ | refine W.cond' (fun h => ?_) fun h => ?_ | refine WD.sp' (fun h => ?_) fun h => ?_) <;> (try simp only [decide_eq_true_eq, decide_eq_false_iff_not, Bool.not_eq_true', Bool.not_eq_false', Bool.and_eq_true, Bool.or_eq_true, Bool.and_eq_false_iff, Bool.or_eq_false_iff, Bool.not_eq_true, Bool.not_eq_false, Int.not_lt, Int.not_le, List.length_map, beq_self_eq_true, Bool.true_eq_false, Bool.false_eq_true] at h) <;> (try (exfalso; first | contradiction | omega))))
    all_goals (simp only [hg] at *)
    all_goals first | (exfalso; omega) | skip
    all_goals (refine W.ret ?_; (first | refine RetQ.b' ?_ | refine RetQ.i' ?_ | refine RetQ.d' ?_ | refine RetQ.t2' ?_ ?_ | refine RetQ.t3' ?_ ?_ ?_))
    all_goals first | rfl | (rw [hgc]; rfl)

set_option maxHeartbeats 1000000 in
theorem SetKeyS_fn (cs : List Cell) (key : ByteArray) (ds : List Cell) (hf : fitsC cs) (hd : fitsC ds) (hs : key.size ≤ 1048576) :
    Fun env.P 51 [cellsD cs, dS key, cellsD ds] (.d (resD (twoCode cs ds (setO (valOfM cs).1 key (valOfM ds).1).1) (twoCells cs ds (setO (valOfM cs).1 key (valOfM ds).1).1 (setO (valOfM cs).1 key (valOfM ds).1).2))) [] := by
  have h1 := l3Both_fn cs ds hf hd
  unfold twoCode twoCells oneCode oneCells
  by_cases h0 : (valOfM cs).2 = 0
  · by_cases h0' : (valOfM ds).2 = 0
    · obtain ⟨f1, e1⟩ := valOfM_fine h0
      obtain ⟨f2, e2⟩ := valOfM_fine h0'
      rw [bothCode, if_pos h0, h0'] at h1
      rw [if_pos h0, if_pos h0, if_pos h0', if_pos h0']
      have h2 := setKeyS_fn _ _ f1 f2 key hs (by rw [← e1, ← e2]; exact h1)
      rw [← e1, ← e2] at h2
      exact h2
    · rw [bothCode, if_pos h0] at h1
      rw [if_pos h0, if_pos h0, if_neg h0', if_neg h0']
      have h2 := l3Bad_fn (valOfM ds).2
      generalize (valOfM ds).2 = c at h0' h1 h2 ⊢
      refine Fun.intro Try.func51 rfl (by kernel_rfl) rfl ?_
      repeat' (first | refine W.seq ?_ | refine W.rg ?_ | refine W.dra' ?_ | refine W.block ?_ | refine W.skip ?_ | refine W.exit ?_ | refine W.cond_true' ?_ | refine W.cond_false' ?_ | refine WG.nil ?_ | refine WG.run' (E := env) ?_ | refine WG.gt' ?_ | refine WG.gf' ?_ | refine WG.ixm' (E := env) ?_ | refine WG.ixo' (E := env) ?_ | refine WG.legm' (E := env) ?_ | refine WG.slS' (E := env) ?_ | refine WG.slD' (E := env) ?_ | refine WG.ap' (E := env) ?_ | refine WD.nil ?_ | refine WD.bs' (E := env) ?_ | refine WD.s' (E := env) (t := .d _) ?_ | refine WD.p' ?_ | refine WD.px' ?_ | refine WD.s' (E := env) (t := .ea _ _) ?_ | refine WD.s' (E := env) (t := .lp _ _) ?_ | refine WD.s' (E := env) (t := .og _ _) ?_ | refine WD.s' (E := env) (t := .agg _) ?_ | refine WD.s' (E := env) (t := .tup _) ?_ | refine WD.s' (E := env) (t := .clo _ _) ?_ | refine WD.ixm' (E := env) ?_ | refine WD.ixo' (E := env) ?_ | refine WD.legm' (E := env) ?_ | refine WD.slS' (E := env) ?_ | refine WD.slD' (E := env) ?_ | refine WG.c (E := env) rfl rfl (h1) rfl rfl ?_ | refine WD.c (E := env) rfl rfl (h1) rfl rfl ?_ | refine WG.co (E := env) rfl rfl (h1) rfl rfl rfl rfl ?_ | refine WG.cx (E := env) rfl (h1) rfl ?_ | refine WG.c (E := env) rfl rfl (h2) rfl rfl ?_ | refine WD.c (E := env) rfl rfl (h2) rfl rfl ?_ | refine WG.co (E := env) rfl rfl (h2) rfl rfl rfl rfl ?_ | refine WG.cx (E := env) rfl (h2) rfl ?_ | ((first | refine WG.sp' (fun h => ?_) fun h => ?_ | refine W.cond' (fun h => ?_) fun h => ?_ | refine WD.sp' (fun h => ?_) fun h => ?_) <;> (try simp only [decide_eq_true_eq, decide_eq_false_iff_not, Bool.not_eq_true', Bool.not_eq_false', Bool.and_eq_true, Bool.or_eq_true, Bool.and_eq_false_iff, Bool.or_eq_false_iff, Bool.not_eq_true, Bool.not_eq_false, Int.not_lt, Int.not_le, List.length_map, beq_self_eq_true, Bool.true_eq_false, Bool.false_eq_true] at h) <;> (try (exfalso; first | contradiction | omega))))
      all_goals first | ((refine W.ret ?_; (first | refine RetQ.b' ?_ | refine RetQ.i' ?_ | refine RetQ.d' ?_ | refine RetQ.t2' ?_ ?_ | refine RetQ.t3' ?_ ?_ ?_)); rfl; done) | exact absurd (by assumption) h0'
  · rw [bothCode, if_neg h0] at h1
    rw [if_neg h0, if_neg h0]
    have h2 := l3Bad_fn (valOfM cs).2
    generalize (valOfM cs).2 = c at h0 h1 h2 ⊢
    refine Fun.intro Try.func51 rfl (by kernel_rfl) rfl ?_
    repeat' (first | refine W.seq ?_ | refine W.rg ?_ | refine W.dra' ?_ | refine W.block ?_ | refine W.skip ?_ | refine W.exit ?_ | refine W.cond_true' ?_ | refine W.cond_false' ?_ | refine WG.nil ?_ | refine WG.run' (E := env) ?_ | refine WG.gt' ?_ | refine WG.gf' ?_ | refine WG.ixm' (E := env) ?_ | refine WG.ixo' (E := env) ?_ | refine WG.legm' (E := env) ?_ | refine WG.slS' (E := env) ?_ | refine WG.slD' (E := env) ?_ | refine WG.ap' (E := env) ?_ | refine WD.nil ?_ | refine WD.bs' (E := env) ?_ | refine WD.s' (E := env) (t := .d _) ?_ | refine WD.p' ?_ | refine WD.px' ?_ | refine WD.s' (E := env) (t := .ea _ _) ?_ | refine WD.s' (E := env) (t := .lp _ _) ?_ | refine WD.s' (E := env) (t := .og _ _) ?_ | refine WD.s' (E := env) (t := .agg _) ?_ | refine WD.s' (E := env) (t := .tup _) ?_ | refine WD.s' (E := env) (t := .clo _ _) ?_ | refine WD.ixm' (E := env) ?_ | refine WD.ixo' (E := env) ?_ | refine WD.legm' (E := env) ?_ | refine WD.slS' (E := env) ?_ | refine WD.slD' (E := env) ?_ | refine WG.c (E := env) rfl rfl (h1) rfl rfl ?_ | refine WD.c (E := env) rfl rfl (h1) rfl rfl ?_ | refine WG.co (E := env) rfl rfl (h1) rfl rfl rfl rfl ?_ | refine WG.cx (E := env) rfl (h1) rfl ?_ | refine WG.c (E := env) rfl rfl (h2) rfl rfl ?_ | refine WD.c (E := env) rfl rfl (h2) rfl rfl ?_ | refine WG.co (E := env) rfl rfl (h2) rfl rfl rfl rfl ?_ | refine WG.cx (E := env) rfl (h2) rfl ?_ | ((first | refine WG.sp' (fun h => ?_) fun h => ?_ | refine W.cond' (fun h => ?_) fun h => ?_ | refine WD.sp' (fun h => ?_) fun h => ?_) <;> (try simp only [decide_eq_true_eq, decide_eq_false_iff_not, Bool.not_eq_true', Bool.not_eq_false', Bool.and_eq_true, Bool.or_eq_true, Bool.and_eq_false_iff, Bool.or_eq_false_iff, Bool.not_eq_true, Bool.not_eq_false, Int.not_lt, Int.not_le, List.length_map, beq_self_eq_true, Bool.true_eq_false, Bool.false_eq_true] at h) <;> (try (exfalso; first | contradiction | omega))))
    all_goals first | ((refine W.ret ?_; (first | refine RetQ.b' ?_ | refine RetQ.i' ?_ | refine RetQ.d' ?_ | refine RetQ.t2' ?_ ?_ | refine RetQ.t3' ?_ ?_ ?_)); rfl; done) | exact absurd (by assumption) h0

end Go.Proofs.Ytlegadpbjccelaa
