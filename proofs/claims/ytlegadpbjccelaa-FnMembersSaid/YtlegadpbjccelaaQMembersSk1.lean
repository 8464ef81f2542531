/-
  SetKey: a value with one more key, by the program. Conditions: none.
-/
import Derived.Test.YtlegadpbjccelaaQMembersG14
import Derived.Test.YtlegadpbjccelaaQMembersG10
import Derived.Test.YtlegadpbjccelaaQMembersPgE
set_option linter.unusedVariables false
set_option linter.unusedSimpArgs false
set_option maxRecDepth 100000
namespace Go.Proofs.Ytlegadpbjccelaa
open Go.RowKit

theorem OpS1.pub {P : Program} {N : Nm} {tm : Nat → T} {ob ob' : List Ob} {ops : List Oper} {o : Oper} {t : T} {e : TypeId} {z n : Nat} {rows : List (List D)} (k : Nat) (hk : ob[k]? = some (.gr z e rows n false))
    (h : OpS1 P N ops o tm t (ob.set k (.gr z e rows n true)) ob') : OpS1 P N ops o tm t ob ob' := fun tm' hag l Q k' => WL.pub (S := ⟨tm', ob⟩) k hk (h tm' hag l Q k')

set_option maxHeartbeats 1000000 in
theorem cloneKs_fn (sl : List ByteArray) (hl : sl.length ≤ 1048576) : Fun env.P 192 [.sl 1 (sl.map keyRow)] (.og 0 0) [.gr 1 9 (sl.map keyRow) 0 false] := by
  refine Fun.intro Try.func192 rfl (by kernel_rfl) rfl ?_
  repeat (first | refine W.seq ?_ | refine W.rg ?_ | refine W.dra' ?_ | refine W.block ?_ | refine W.skip ?_ | refine W.exit ?_ | refine W.cond_true' ?_ | refine W.cond_false' ?_ | refine WG.nil ?_ | refine WG.run' (E := env) ?_ | refine WG.gt' ?_ | refine WG.gf' ?_ | refine WG.ixm' (E := env) ?_ | refine WG.ixo' (E := env) ?_ | refine WG.legm' (E := env) ?_ | refine WG.slS' (E := env) ?_ | refine WG.slD' (E := env) ?_ | refine WG.ap' (E := env) ?_ | refine WD.nil ?_ | refine WD.bs' (E := env) ?_ | refine WD.s' (E := env) (t := .d _) ?_ | refine WD.p' ?_ | refine WD.px' ?_ | refine WD.s' (E := env) (t := .ea _ _) ?_ | refine WD.s' (E := env) (t := .lp _ _) ?_ | refine WD.s' (E := env) (t := .og _ _) ?_ | refine WD.s' (E := env) (t := .agg _) ?_ | refine WD.s' (E := env) (t := .tup _) ?_ | refine WD.s' (E := env) (t := .clo _ _) ?_ | refine WD.ixm' (E := env) ?_ | refine WD.ixo' (E := env) ?_ | refine WD.legm' (E := env) ?_ | refine WD.slS' (E := env) ?_ | refine WD.slD' (E := env) ?_)
  refine WG.nilB (E := env) rfl rfl rfl rfl ?_
  intro b hb
  cases b with
  | true =>
    have h0 := hb rfl
    rw [h0]
    repeat' (first | refine W.seq ?_ | refine W.rg ?_ | refine W.dra' ?_ | refine W.block ?_ | refine W.skip ?_ | refine W.exit ?_ | refine W.cond_true' ?_ | refine W.cond_false' ?_ | refine WG.nil ?_ | refine WG.run' (E := env) ?_ | refine WG.gt' ?_ | refine WG.gf' ?_ | refine WG.ixm' (E := env) ?_ | refine WG.ixo' (E := env) ?_ | refine WG.legm' (E := env) ?_ | refine WG.slS' (E := env) ?_ | refine WG.slD' (E := env) ?_ | refine WG.ap' (E := env) ?_ | refine WD.nil ?_ | refine WD.bs' (E := env) ?_ | refine WD.s' (E := env) (t := .d _) ?_ | refine WD.p' ?_ | refine WD.px' ?_ | refine WD.s' (E := env) (t := .ea _ _) ?_ | refine WD.s' (E := env) (t := .lp _ _) ?_ | refine WD.s' (E := env) (t := .og _ _) ?_ | refine WD.s' (E := env) (t := .agg _) ?_ | refine WD.s' (E := env) (t := .tup _) ?_ | refine WD.s' (E := env) (t := .clo _ _) ?_ | refine WD.ixm' (E := env) ?_ | refine WD.ixo' (E := env) ?_ | refine WD.legm' (E := env) ?_ | refine WD.slS' (E := env) ?_ | refine WD.slD' (E := env) ?_ | ((first | refine WG.sp' (fun h => ?_) fun h => ?_ | refine W.cond' (fun h => ?_) fun h => ?_ | refine WD.sp' (fun h => ?_) fun h => ?_) <;> (try simp only [decide_eq_true_eq, decide_eq_false_iff_not, Bool.not_eq_true', Bool.not_eq_false', Bool.and_eq_true, Bool.or_eq_true, Bool.and_eq_false_iff, Bool.or_eq_false_iff, Bool.not_eq_true, Bool.not_eq_false, Int.not_lt, Int.not_le, List.length_map, beq_self_eq_true, Bool.true_eq_false, Bool.false_eq_true] at h) <;> (try (exfalso; first | contradiction | omega))))
    refine W.ret ?_
    exact RetR.gn'
  | false =>
    repeat' (first | refine W.seq ?_ | refine W.rg ?_ | refine W.dra' ?_ | refine W.block ?_ | refine W.skip ?_ | refine W.exit ?_ | refine W.cond_true' ?_ | refine W.cond_false' ?_ | refine WG.nil ?_ | refine WG.run' (E := env) ?_ | refine WG.gt' ?_ | refine WG.gf' ?_ | refine WG.ixm' (E := env) ?_ | refine WG.ixo' (E := env) ?_ | refine WG.legm' (E := env) ?_ | refine WG.slS' (E := env) ?_ | refine WG.slD' (E := env) ?_ | refine WG.ap' (E := env) ?_ | refine WD.nil ?_ | refine WD.bs' (E := env) ?_ | refine WD.s' (E := env) (t := .d _) ?_ | refine WD.p' ?_ | refine WD.px' ?_ | refine WD.s' (E := env) (t := .ea _ _) ?_ | refine WD.s' (E := env) (t := .lp _ _) ?_ | refine WD.s' (E := env) (t := .og _ _) ?_ | refine WD.s' (E := env) (t := .agg _) ?_ | refine WD.s' (E := env) (t := .tup _) ?_ | refine WD.s' (E := env) (t := .clo _ _) ?_ | refine WD.ixm' (E := env) ?_ | refine WD.ixo' (E := env) ?_ | refine WD.legm' (E := env) ?_ | refine WD.slS' (E := env) ?_ | refine WD.slD' (E := env) ?_ | ((first | refine WG.sp' (fun h => ?_) fun h => ?_ | refine W.cond' (fun h => ?_) fun h => ?_ | refine WD.sp' (fun h => ?_) fun h => ?_) <;> (try simp only [decide_eq_true_eq, decide_eq_false_iff_not, Bool.not_eq_true', Bool.not_eq_false', Bool.and_eq_true, Bool.or_eq_true, Bool.and_eq_false_iff, Bool.or_eq_false_iff, Bool.not_eq_true, Bool.not_eq_false, Int.not_lt, Int.not_le, List.length_map, beq_self_eq_true, Bool.true_eq_false, Bool.false_eq_true] at h) <;> (try (exfalso; first | contradiction | omega))))
    refine W.ret ?_
    exact RetQ.own (tt := .og 0 1) 0 1 (.inl rfl) rfl (by first | trivial | exact resOK_of (E := env) rfl) rfl rfl rfl rfl rfl

set_option maxHeartbeats 1000000 in
theorem cloneVs_fn (sl : List V) (hl : sl.length ≤ 4096) : Fun env.P 193 [.sl 5 (sl.map V.row)] (.og 0 0) [.gr 5 112 (sl.map V.row) 0 false] := by
  refine Fun.intro Try.func193 rfl (by kernel_rfl) rfl ?_
  repeat (first | refine W.seq ?_ | refine W.rg ?_ | refine W.dra' ?_ | refine W.block ?_ | refine W.skip ?_ | refine W.exit ?_ | refine W.cond_true' ?_ | refine W.cond_false' ?_ | refine WG.nil ?_ | refine WG.run' (E := env) ?_ | refine WG.gt' ?_ | refine WG.gf' ?_ | refine WG.ixm' (E := env) ?_ | refine WG.ixo' (E := env) ?_ | refine WG.legm' (E := env) ?_ | refine WG.slS' (E := env) ?_ | refine WG.slD' (E := env) ?_ | refine WG.ap' (E := env) ?_ | refine WD.nil ?_ | refine WD.bs' (E := env) ?_ | refine WD.s' (E := env) (t := .d _) ?_ | refine WD.p' ?_ | refine WD.px' ?_ | refine WD.s' (E := env) (t := .ea _ _) ?_ | refine WD.s' (E := env) (t := .lp _ _) ?_ | refine WD.s' (E := env) (t := .og _ _) ?_ | refine WD.s' (E := env) (t := .agg _) ?_ | refine WD.s' (E := env) (t := .tup _) ?_ | refine WD.s' (E := env) (t := .clo _ _) ?_ | refine WD.ixm' (E := env) ?_ | refine WD.ixo' (E := env) ?_ | refine WD.legm' (E := env) ?_ | refine WD.slS' (E := env) ?_ | refine WD.slD' (E := env) ?_)
  refine WG.nilB (E := env) rfl rfl rfl rfl ?_
  intro b hb
  cases b with
  | true =>
    have h0 := hb rfl
    rw [h0]
    repeat' (first | refine W.seq ?_ | refine W.rg ?_ | refine W.dra' ?_ | refine W.block ?_ | refine W.skip ?_ | refine W.exit ?_ | refine W.cond_true' ?_ | refine W.cond_false' ?_ | refine WG.nil ?_ | refine WG.run' (E := env) ?_ | refine WG.gt' ?_ | refine WG.gf' ?_ | refine WG.ixm' (E := env) ?_ | refine WG.ixo' (E := env) ?_ | refine WG.legm' (E := env) ?_ | refine WG.slS' (E := env) ?_ | refine WG.slD' (E := env) ?_ | refine WG.ap' (E := env) ?_ | refine WD.nil ?_ | refine WD.bs' (E := env) ?_ | refine WD.s' (E := env) (t := .d _) ?_ | refine WD.p' ?_ | refine WD.px' ?_ | refine WD.s' (E := env) (t := .ea _ _) ?_ | refine WD.s' (E := env) (t := .lp _ _) ?_ | refine WD.s' (E := env) (t := .og _ _) ?_ | refine WD.s' (E := env) (t := .agg _) ?_ | refine WD.s' (E := env) (t := .tup _) ?_ | refine WD.s' (E := env) (t := .clo _ _) ?_ | refine WD.ixm' (E := env) ?_ | refine WD.ixo' (E := env) ?_ | refine WD.legm' (E := env) ?_ | refine WD.slS' (E := env) ?_ | refine WD.slD' (E := env) ?_ | ((first | refine WG.sp' (fun h => ?_) fun h => ?_ | refine W.cond' (fun h => ?_) fun h => ?_ | refine WD.sp' (fun h => ?_) fun h => ?_) <;> (try simp only [decide_eq_true_eq, decide_eq_false_iff_not, Bool.not_eq_true', Bool.not_eq_false', Bool.and_eq_true, Bool.or_eq_true, Bool.and_eq_false_iff, Bool.or_eq_false_iff, Bool.not_eq_true, Bool.not_eq_false, Int.not_lt, Int.not_le, List.length_map, beq_self_eq_true, Bool.true_eq_false, Bool.false_eq_true] at h) <;> (try (exfalso; first | contradiction | omega))))
    refine W.ret ?_
    exact RetR.gn'
  | false =>
    repeat' (first | refine W.seq ?_ | refine W.rg ?_ | refine W.dra' ?_ | refine W.block ?_ | refine W.skip ?_ | refine W.exit ?_ | refine W.cond_true' ?_ | refine W.cond_false' ?_ | refine WG.nil ?_ | refine WG.run' (E := env) ?_ | refine WG.gt' ?_ | refine WG.gf' ?_ | refine WG.ixm' (E := env) ?_ | refine WG.ixo' (E := env) ?_ | refine WG.legm' (E := env) ?_ | refine WG.slS' (E := env) ?_ | refine WG.slD' (E := env) ?_ | refine WG.ap' (E := env) ?_ | refine WD.nil ?_ | refine WD.bs' (E := env) ?_ | refine WD.s' (E := env) (t := .d _) ?_ | refine WD.p' ?_ | refine WD.px' ?_ | refine WD.s' (E := env) (t := .ea _ _) ?_ | refine WD.s' (E := env) (t := .lp _ _) ?_ | refine WD.s' (E := env) (t := .og _ _) ?_ | refine WD.s' (E := env) (t := .agg _) ?_ | refine WD.s' (E := env) (t := .tup _) ?_ | refine WD.s' (E := env) (t := .clo _ _) ?_ | refine WD.ixm' (E := env) ?_ | refine WD.ixo' (E := env) ?_ | refine WD.legm' (E := env) ?_ | refine WD.slS' (E := env) ?_ | refine WD.slD' (E := env) ?_ | ((first | refine WG.sp' (fun h => ?_) fun h => ?_ | refine W.cond' (fun h => ?_) fun h => ?_ | refine WD.sp' (fun h => ?_) fun h => ?_) <;> (try simp only [decide_eq_true_eq, decide_eq_false_iff_not, Bool.not_eq_true', Bool.not_eq_false', Bool.and_eq_true, Bool.or_eq_true, Bool.and_eq_false_iff, Bool.or_eq_false_iff, Bool.not_eq_true, Bool.not_eq_false, Int.not_lt, Int.not_le, List.length_map, beq_self_eq_true, Bool.true_eq_false, Bool.false_eq_true] at h) <;> (try (exfalso; first | contradiction | omega))))
    refine W.ret ?_
    exact RetQ.own (tt := .og 0 1) 0 1 (.inl rfl) rfl (by first | trivial | exact resOK_of (E := env) rfl) rfl rfl rfl rfl rfl

/-- A value with a key more, or anew. -/
def withV (v : V) (key : ByteArray) (x : V) : V := objS (v.keys ++ [key]) (v.kids ++ [x])
def setO (v : V) (key : ByteArray) (x : V) : Int × V :=
  if okText key = true then (if v.kind ≠ 0 ∧ v.kind ≠ 6 then (6, V.zero) else (faultV (withV v key x), givenV (withV v key x))) else (5, V.zero)

theorem withV_ok {v x : V} {key : ByteArray} (h : v.fine) (hx : x.fine) (hk : okText key = true) (hv : v.kind = 0 ∨ v.kind = 6) :
    (v.keys ++ [key]).length = (v.kids ++ [x]).length ∧ (v.keys ++ [key]).length ≤ 200 ∧ badKs (v.keys ++ [key]) = false ∧ (∀ w ∈ v.kids ++ [x], w.fine) := by
  have hc := V.length_counts v.kids
  have hce := V.count_eq v
  have h2 := h.2.1
  have hl : v.keys.length = v.kids.length := by
    obtain ⟨k, n, t, ks, kids⟩ := v
    rcases hv with hv | hv
    · have e1 : k = 0 := hv
      have e2 : ks = [] := h.1.2.2.2.2.2.2.2.1 (by omega)
      have e3 : kids = [] := Classical.byContradiction fun hne => by have := h.1.2.2.2.1 hne; omega
      simp [V.keys, V.kids, e2, e3]
    · exact (V.obj_keys h.1 hv).1
  refine ⟨by simp [hl], by simp; omega, ?_, fun w hw => ?_⟩
  · unfold badKs
    rw [List.any_eq_false]
    intro k hk'
    rcases List.mem_append.1 hk' with h1 | h1
    · have : okText k = true := by
        obtain ⟨k', n, t, ks, kids⟩ := v
        exact h.1.2.2.2.2.2.2.2.2.1 k h1
      simp [this]
    · simp at h1; subst h1; simp [hk]
  · rcases List.mem_append.1 hw with h1 | h1
    · exact (V.fine_kids h w h1).1
    · simp at h1; subst h1; exact hx

theorem withV_good {v x : V} {key : ByteArray} (h : v.fine) (hx : x.fine) (hk : okText key = true) (hv : v.kind = 0 ∨ v.kind = 6) : (withV v key x).good ∧ (withV v key x).count ≤ 1048576 := by
  obtain ⟨h1, h2, h3, h4⟩ := withV_ok h hx hk hv
  exact ⟨objS_good h1 h3 h4, objS_count h1 h2 h4⟩

theorem setO_fine {v x : V} {key : ByteArray} (h : v.fine) (hx : x.fine) : (setO v key x).2.fine := by
  unfold setO
  split
  · rename_i hk
    split
    · exact V.zero_fine
    · exact givenV_fine (withV_good h hx hk (by omega)).1
  · exact V.zero_fine

set_option maxHeartbeats 4000000 in
theorem setKeyP_fn (v x : V) (h : v.fine) (hx : x.fine) (key : ByteArray) (hs : key.size ≤ 1048576) : Fun env.P 124 [.agg v.rowP, dS key, .agg x.rowP] (.d (outD (setO v key x).1 (setO v key x).2)) [] := by
  have hks : ∀ k ∈ v.keys, k.size ≤ 1048576 := fun k hk => by
    have : okText k = true := by
      obtain ⟨k', n, t, ks, kids⟩ := v
      exact h.1.2.2.2.2.2.2.2.2.1 k hk
    simp only [okText, Bool.and_eq_true, decide_eq_true_eq] at this
    omega
  have h1 := isString_fn key hs
  have h4 := refusesP_fn 6
  have h5 := refusesP_fn 5
  have hw := fun hk hv => withV_ok (key := key) h hx hk hv
  have hg := fun hk hv => given_fn _ (withV_good (key := key) h hx hk hv).1 (withV_good (key := key) h hx hk hv).2
  have hcl := V.length_counts v.kids
  have hce := V.count_eq v
  have hv200 := h.2.1
  have hck := cloneKs_fn v.keys
  have hcv := cloneVs_fn v.kids (by omega)
  have hob := fun (hk : okText key = true) (hv : v.kind = 0 ∨ v.kind = 6) => (objectP_fn _ _ (hw hk hv).1 (fun k hk' => by
      rcases List.mem_append.1 hk' with h1 | h1
      · exact Nat.le_trans (hks k h1) (Nat.le_of_ble_eq_true rfl)
      · simp at h1; subst h1; exact Nat.le_trans hs (Nat.le_of_ble_eq_true rfl)) (by have := (hw hk hv).2.1; omega)).cast (args' := [.sl 1 (v.keys.map keyRow ++ [[dS key]]), .sl 5 (v.kids.map V.row ++ [V.rowP x])]) (by simp [V.row_eq]) rfl rfl
  change okText key = true → (v.kind = 0 ∨ v.kind = 6) → Fun env.P _ _ (.d (.agg (withV v key x).rowP)) [] at hob
  unfold setO givenV
  by_cases hkt : okText key = true
  case neg =>
    rw [if_neg hkt]
    have hkf : okText key = false := by simpa using hkt
    rw [hkf] at h1
    refine Fun.intro Try.func124 rfl (by kernel_rfl) rfl ?_
    repeat' (first | refine W.seq ?_ | refine W.rg ?_ | refine W.dra' ?_ | refine W.block ?_ | refine W.skip ?_ | refine W.exit ?_ | refine W.cond_true' ?_ | refine W.cond_false' ?_ | refine WG.nil ?_ | refine WG.run' (E := env) ?_ | refine WG.gt' ?_ | refine WG.gf' ?_ | refine WG.ixm' (E := env) ?_ | refine WG.ixo' (E := env) ?_ | refine WG.legm' (E := env) ?_ | refine WG.slS' (E := env) ?_ | refine WG.slD' (E := env) ?_ | refine WG.ap' (E := env) ?_ | refine WD.nil ?_ | refine WD.bs' (E := env) ?_ | refine WD.s' (E := env) (t := .d _) ?_ | refine WD.p' ?_ | refine WD.px' ?_ | refine WD.s' (E := env) (t := .ea _ _) ?_ | refine WD.s' (E := env) (t := .lp _ _) ?_ | refine WD.s' (E := env) (t := .og _ _) ?_ | refine WD.s' (E := env) (t := .agg _) ?_ | refine WD.s' (E := env) (t := .tup _) ?_ | refine WD.s' (E := env) (t := .clo _ _) ?_ | refine WD.ixm' (E := env) ?_ | refine WD.ixo' (E := env) ?_ | refine WD.legm' (E := env) ?_ | refine WD.slS' (E := env) ?_ | refine WD.slD' (E := env) ?_ | refine WG.c (E := env) rfl rfl (h1) rfl rfl ?_ | refine WD.c (E := env) rfl rfl (h1) rfl rfl ?_ | refine WG.co (E := env) rfl rfl (h1) rfl rfl rfl rfl ?_ | refine WG.cx (E := env) rfl (h1) rfl ?_ | refine WG.c (E := env) rfl rfl (h4) rfl rfl ?_ | refine WD.c (E := env) rfl rfl (h4) rfl rfl ?_ | refine WG.co (E := env) rfl rfl (h4) rfl rfl rfl rfl ?_ | refine WG.cx (E := env) rfl (h4) rfl ?_ | refine WG.c (E := env) rfl rfl (h5) rfl rfl ?_ | refine WD.c (E := env) rfl rfl (h5) rfl rfl ?_ | refine WG.co (E := env) rfl rfl (h5) rfl rfl rfl rfl ?_ | refine WG.cx (E := env) rfl (h5) rfl ?_ | ((first | refine WG.sp' (fun h => ?_) fun h => ?_ | refine W.cond' (fun h => ?_) fun h => ?_ | refine WD.sp' (fun h => ?_) fun h => ?_) <;> (try simp only [decide_eq_true_eq, decide_eq_false_iff_not, Bool.not_eq_true', Bool.not_eq_false', Bool.and_eq_true, Bool.or_eq_true, Bool.and_eq_false_iff, Bool.or_eq_false_iff, Bool.not_eq_true, Bool.not_eq_false, Int.not_lt, Int.not_le, List.length_map, beq_self_eq_true, Bool.true_eq_false, Bool.false_eq_true] at h) <;> (try (exfalso; first | contradiction | omega))))
    all_goals first | (exfalso; simp_all; done) | skip
    (refine W.ret ?_; (first | refine RetQ.b' ?_ | refine RetQ.i' ?_ | refine RetQ.d' ?_ | refine RetQ.t2' ?_ ?_ | refine RetQ.t3' ?_ ?_ ?_))
    rfl
  rw [hkt] at h1
  rw [if_pos hkt]
  by_cases hv06 : v.kind = 0 ∨ v.kind = 6
  case neg =>
    rw [if_pos (by omega)]
    refine Fun.intro Try.func124 rfl (by kernel_rfl) rfl ?_
    repeat' (first | refine W.seq ?_ | refine W.rg ?_ | refine W.dra' ?_ | refine W.block ?_ | refine W.skip ?_ | refine W.exit ?_ | refine W.cond_true' ?_ | refine W.cond_false' ?_ | refine WG.nil ?_ | refine WG.run' (E := env) ?_ | refine WG.gt' ?_ | refine WG.gf' ?_ | refine WG.ixm' (E := env) ?_ | refine WG.ixo' (E := env) ?_ | refine WG.legm' (E := env) ?_ | refine WG.slS' (E := env) ?_ | refine WG.slD' (E := env) ?_ | refine WG.ap' (E := env) ?_ | refine WD.nil ?_ | refine WD.bs' (E := env) ?_ | refine WD.s' (E := env) (t := .d _) ?_ | refine WD.p' ?_ | refine WD.px' ?_ | refine WD.s' (E := env) (t := .ea _ _) ?_ | refine WD.s' (E := env) (t := .lp _ _) ?_ | refine WD.s' (E := env) (t := .og _ _) ?_ | refine WD.s' (E := env) (t := .agg _) ?_ | refine WD.s' (E := env) (t := .tup _) ?_ | refine WD.s' (E := env) (t := .clo _ _) ?_ | refine WD.ixm' (E := env) ?_ | refine WD.ixo' (E := env) ?_ | refine WD.legm' (E := env) ?_ | refine WD.slS' (E := env) ?_ | refine WD.slD' (E := env) ?_ | refine WG.c (E := env) rfl rfl (h1) rfl rfl ?_ | refine WD.c (E := env) rfl rfl (h1) rfl rfl ?_ | refine WG.co (E := env) rfl rfl (h1) rfl rfl rfl rfl ?_ | refine WG.cx (E := env) rfl (h1) rfl ?_ | refine WG.c (E := env) rfl rfl (h4) rfl rfl ?_ | refine WD.c (E := env) rfl rfl (h4) rfl rfl ?_ | refine WG.co (E := env) rfl rfl (h4) rfl rfl rfl rfl ?_ | refine WG.cx (E := env) rfl (h4) rfl ?_ | refine WG.c (E := env) rfl rfl (h5) rfl rfl ?_ | refine WD.c (E := env) rfl rfl (h5) rfl rfl ?_ | refine WG.co (E := env) rfl rfl (h5) rfl rfl rfl rfl ?_ | refine WG.cx (E := env) rfl (h5) rfl ?_ | ((first | refine WG.sp' (fun h => ?_) fun h => ?_ | refine W.cond' (fun h => ?_) fun h => ?_ | refine WD.sp' (fun h => ?_) fun h => ?_) <;> (try simp only [decide_eq_true_eq, decide_eq_false_iff_not, Bool.not_eq_true', Bool.not_eq_false', Bool.and_eq_true, Bool.or_eq_true, Bool.and_eq_false_iff, Bool.or_eq_false_iff, Bool.not_eq_true, Bool.not_eq_false, Int.not_lt, Int.not_le, List.length_map, beq_self_eq_true, Bool.true_eq_false, Bool.false_eq_true] at h) <;> (try (exfalso; first | contradiction | omega))))
    all_goals first | (exfalso; omega) | skip
    (refine W.ret ?_; (first | refine RetQ.b' ?_ | refine RetQ.i' ?_ | refine RetQ.d' ?_ | refine RetQ.t2' ?_ ?_ | refine RetQ.t3' ?_ ?_ ?_))
    rfl
  rw [if_neg (by omega)]
  have ho := hob hkt hv06
  have hgv := hg hkt hv06
  have hwl := hw hkt hv06
  have hck1 := hck (by have := hwl.2.1; simp at this; omega)
  have hkl : v.keys.length ≤ 200 := by have := hwl.2.1; simp at this; omega
  have hkm : (v.keys.map keyRow).length = v.keys.length := by simp
  have hvm : (v.kids.map V.row).length = v.kids.length := by simp
  generalize withV v key x = o at ho hgv ⊢
  refine Fun.intro Try.func124 rfl (by kernel_rfl) rfl ?_
  repeat' (first | (refine W.dre' (id := 5) [2, 5, 8, 11, 12, 14] (fun f => [.pv (v.rowP.map .d), .pv (x.rowP.map .d), .pv (bif bt f 32 then ((dI (faultV o) :: (if faultV o = 0 then o else V.zero).rowP).map .d) else [.d (dI 0), .d (dI 0), .d (dI 0), .d (dS ByteArray.empty), .d (.nl 1), .d (.nl 5)])] ++ bif bt f 16 then [.gr 1 9 (v.keys.map keyRow ++ [[dS key]]) 1 true, .gr 5 112 (v.kids.map V.row ++ [V.rowP x]) 1 true] else bif bt f 8 then [.gr 1 9 (v.keys.map keyRow ++ [[dS key]]) 1 false, .gr 5 112 (v.kids.map V.row ++ [V.rowP x]) 1 false] else bif bt f 4 then [.gr 1 9 (v.keys.map keyRow ++ [[dS key]]) 1 false, .gr 5 112 (v.kids.map V.row) 0 false] else bif bt f 2 then [.gr 1 9 (v.keys.map keyRow ++ [[dS key]]) 1 false] else bif bt f 1 then [.gr 1 9 (v.keys.map keyRow) 0 false] else []) [(0, [0]), (0, [0]), (1, [0]), (0, [0, 1]), (0, [0, 1]), (2, [1]), (0, [0, 1, 3]), (0, [0, 1, 3]), (4, [3]), (0, [0, 1, 3, 7]), (0, [0, 1, 3, 7]), (8, [7]), (16, [15]), (0, [31]), (32, [31])] [.pv (v.rowP.map .d), .pv (x.rowP.map .d), .pv ((dI (faultV o) :: (if faultV o = 0 then o else V.zero).rowP).map .d), .gr 1 9 (v.keys.map keyRow ++ [[dS key]]) 1 true, .gr 5 112 (v.kids.map V.row ++ [V.rowP x]) 1 true] ?_) | refine WE.mkd (.og 3 0) ?_ (.c (OpS1.coG rfl rfl hck1 rfl rfl rfl) .n) | refine WE.mkd (.og 4 0) ?_ (.c (OpS1.coG rfl rfl hcv rfl rfl rfl) .n) | refine WE.mkd (.d (.agg o.rowP)) ?_ (.c (OpS1.pub 3 rfl (OpS1.pub 4 rfl (OpS1.c rfl rfl ho rfl rfl))) .n) | refine WE.mkd (.d (outD (faultV o) (if faultV o = 0 then o else V.zero))) ?_ (.c (OpS1.c rfl rfl hgv rfl rfl) .n) | refine WE.nil ?_ | refine WE.ixP' ?_ | refine WE.s' (E := env) (t := .d _) ?_ | refine WE.p' ?_ | refine WE.px' ?_ | refine WE.s' (E := env) (t := .lp _ _) ?_ | refine WE.s' (E := env) (t := .og _ _) ?_ | refine WE.s' (E := env) (t := .ea _ _) ?_ | refine WE.s' (E := env) (t := .agg _) ?_ | refine WE.s' (E := env) (t := .tup _) ?_ | refine WE.ixm' (E := env) ?_ | refine WE.ixo' (E := env) ?_ | refine WE.leg' (E := env) ?_ | refine WE.slS' (E := env) ?_ | refine WE.slD' (E := env) ?_ | refine WE.ap' (E := env) ?_ | refine WE.st' (E := env) ?_ | refine WE.seg' (E := env) ?_ | refine WE.bs' (E := env) ?_ | refine W.seq ?_ | refine W.rg ?_ | refine W.dra' ?_ | refine W.block ?_ | refine W.skip ?_ | refine W.exit ?_ | refine W.cond_true' ?_ | refine W.cond_false' ?_ | refine WG.nil ?_ | refine WG.run' (E := env) ?_ | refine WG.gt' ?_ | refine WG.gf' ?_ | refine WG.ixm' (E := env) ?_ | refine WG.ixo' (E := env) ?_ | refine WG.legm' (E := env) ?_ | refine WG.slS' (E := env) ?_ | refine WG.slD' (E := env) ?_ | refine WG.ap' (E := env) ?_ | refine WD.nil ?_ | refine WD.bs' (E := env) ?_ | refine WD.s' (E := env) (t := .d _) ?_ | refine WD.p' ?_ | refine WD.px' ?_ | refine WD.s' (E := env) (t := .ea _ _) ?_ | refine WD.s' (E := env) (t := .lp _ _) ?_ | refine WD.s' (E := env) (t := .og _ _) ?_ | refine WD.s' (E := env) (t := .agg _) ?_ | refine WD.s' (E := env) (t := .tup _) ?_ | refine WD.s' (E := env) (t := .clo _ _) ?_ | refine WD.ixm' (E := env) ?_ | refine WD.ixo' (E := env) ?_ | refine WD.legm' (E := env) ?_ | refine WD.slS' (E := env) ?_ | refine WD.slD' (E := env) ?_ | refine WG.c (E := env) rfl rfl (hgv) rfl rfl ?_ | refine WD.c (E := env) rfl rfl (hgv) rfl rfl ?_ | refine WG.co (E := env) rfl rfl (hgv) rfl rfl rfl rfl ?_ | refine WG.cx (E := env) rfl (hgv) rfl ?_ | refine WG.c (E := env) rfl rfl (h1) rfl rfl ?_ | refine WD.c (E := env) rfl rfl (h1) rfl rfl ?_ | refine WG.co (E := env) rfl rfl (h1) rfl rfl rfl rfl ?_ | refine WG.cx (E := env) rfl (h1) rfl ?_ | refine WG.c (E := env) rfl rfl (h4) rfl rfl ?_ | refine WD.c (E := env) rfl rfl (h4) rfl rfl ?_ | refine WG.co (E := env) rfl rfl (h4) rfl rfl rfl rfl ?_ | refine WG.cx (E := env) rfl (h4) rfl ?_ | refine WG.c (E := env) rfl rfl (h5) rfl rfl ?_ | refine WD.c (E := env) rfl rfl (h5) rfl rfl ?_ | refine WG.co (E := env) rfl rfl (h5) rfl rfl rfl rfl ?_ | refine WG.cx (E := env) rfl (h5) rfl ?_ | ((first | refine WG.sp' (fun h => ?_) fun h => ?_ | refine W.cond' (fun h => ?_) fun h => ?_ | refine WD.sp' (fun h => ?_) fun h => ?_) <;> (try simp only [decide_eq_true_eq, decide_eq_false_iff_not, Bool.not_eq_true', Bool.not_eq_false', Bool.and_eq_true, Bool.or_eq_true, Bool.and_eq_false_iff, Bool.or_eq_false_iff, Bool.not_eq_true, Bool.not_eq_false, Int.not_lt, Int.not_le, List.length_map, beq_self_eq_true, Bool.true_eq_false, Bool.false_eq_true] at h) <;> (try (exfalso; first | contradiction | omega))))
  all_goals first | (exfalso; omega) | skip
  all_goals trace_state
  all_goals (refine W.ret ?_; (first | refine RetQ.b' ?_ | refine RetQ.i' ?_ | refine RetQ.d' ?_ | refine RetQ.t2' ?_ ?_ | refine RetQ.t3' ?_ ?_ ?_))
  all_goals rfl

end Go.Proofs.Ytlegadpbjccelaa
