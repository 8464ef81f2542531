/-
  KeysOf: the keys of a value, by the program and by the reference. Conditions: none.
-/
import Derived.Test.YthfmgmdabgcceaaG12
import Derived.Test.YthfmgmdabgcceaaG10
set_option linter.unusedVariables false
set_option linter.unusedSimpArgs false
set_option maxRecDepth 100000
namespace Go.Proofs.Ythfmgmdabgcceaa
open Go.RowKit

def textV (s : ByteArray) : V := .mk 4 0 s [] []
def numV (n : Int) : V := .mk 3 n noS [] []
theorem textV_good {s : ByteArray} (h : okText s = true) : (textV s).good :=
  ⟨by decide, fun h => absurd rfl h, fun _ => rfl, fun h => absurd rfl h, by decide, h, fun h => absurd h (by decide), fun _ => rfl, fun k hk => absurd hk (by simp), trivial, trivial⟩

theorem textP_fn (s : ByteArray) : Fun env.P 181 [dS s] (.d (.agg (textV s).rowP)) [] := by
  refine Fun.intro Try.func181 rfl (by kernel_rfl) rfl ?_
  repeat' (first | refine W.seq ?_ | refine W.rg ?_ | refine W.dra' ?_ | refine W.block ?_ | refine W.skip ?_ | refine W.exit ?_ | refine W.cond_true' ?_ | refine W.cond_false' ?_ | refine WG.nil ?_ | refine WG.run' (E := env) ?_ | refine WG.gt' ?_ | refine WG.gf' ?_ | refine WG.ixm' (E := env) ?_ | refine WG.ixo' (E := env) ?_ | refine WG.legm' (E := env) ?_ | refine WG.slS' (E := env) ?_ | refine WG.slD' (E := env) ?_ | refine WG.ap' (E := env) ?_ | refine WD.nil ?_ | refine WD.bs' (E := env) ?_ | refine WD.s' (E := env) (t := .d _) ?_ | refine WD.p' ?_ | refine WD.px' ?_ | refine WD.s' (E := env) (t := .ea _ _) ?_ | refine WD.s' (E := env) (t := .lp _ _) ?_ | refine WD.s' (E := env) (t := .og _ _) ?_ | refine WD.s' (E := env) (t := .agg _) ?_ | refine WD.s' (E := env) (t := .tup _) ?_ | refine WD.s' (E := env) (t := .clo _ _) ?_ | refine WD.ixm' (E := env) ?_ | refine WD.ixo' (E := env) ?_ | refine WD.legm' (E := env) ?_ | refine WD.slS' (E := env) ?_ | refine WD.slD' (E := env) ?_ | ((first | refine WG.sp' (fun h => ?_) fun h => ?_ | refine W.cond' (fun h => ?_) fun h => ?_ | refine WD.sp' (fun h => ?_) fun h => ?_) <;> (try simp only [decide_eq_true_eq, decide_eq_false_iff_not, Bool.not_eq_true', Bool.not_eq_false', Bool.and_eq_true, Bool.or_eq_true, Bool.and_eq_false_iff, Bool.or_eq_false_iff, Bool.not_eq_true, Bool.not_eq_false, Int.not_lt, Int.not_le, List.length_map, beq_self_eq_true, Bool.true_eq_false, Bool.false_eq_true] at h) <;> (try (exfalso; first | contradiction | omega))))
  (refine W.ret ?_; (first | refine RetQ.b' ?_ | refine RetQ.i' ?_ | refine RetQ.d' ?_ | refine RetQ.t2' ?_ ?_ | refine RetQ.t3' ?_ ?_ ?_))
  rfl

theorem l1StringD_fn (s : ByteArray) : Fun env.P 179 [dS s] (.d (cellsD (textV s).cells)) [] := by
  refine Fun.intro Try.func179 rfl (by kernel_rfl) rfl ?_
  repeat' (first | refine W.seq ?_ | refine W.rg ?_ | refine W.dra' ?_ | refine W.block ?_ | refine W.skip ?_ | refine W.exit ?_ | refine W.cond_true' ?_ | refine W.cond_false' ?_ | refine WG.nil ?_ | refine WG.run' (E := env) ?_ | refine WG.gt' ?_ | refine WG.gf' ?_ | refine WG.ixm' (E := env) ?_ | refine WG.ixo' (E := env) ?_ | refine WG.legm' (E := env) ?_ | refine WG.slS' (E := env) ?_ | refine WG.slD' (E := env) ?_ | refine WG.ap' (E := env) ?_ | refine WD.nil ?_ | refine WD.bs' (E := env) ?_ | refine WD.s' (E := env) (t := .d _) ?_ | refine WD.p' ?_ | refine WD.px' ?_ | refine WD.s' (E := env) (t := .ea _ _) ?_ | refine WD.s' (E := env) (t := .lp _ _) ?_ | refine WD.s' (E := env) (t := .og _ _) ?_ | refine WD.s' (E := env) (t := .agg _) ?_ | refine WD.s' (E := env) (t := .tup _) ?_ | refine WD.s' (E := env) (t := .clo _ _) ?_ | refine WD.ixm' (E := env) ?_ | refine WD.ixo' (E := env) ?_ | refine WD.legm' (E := env) ?_ | refine WD.slS' (E := env) ?_ | refine WD.slD' (E := env) ?_ | ((first | refine WG.sp' (fun h => ?_) fun h => ?_ | refine W.cond' (fun h => ?_) fun h => ?_ | refine WD.sp' (fun h => ?_) fun h => ?_) <;> (try simp only [decide_eq_true_eq, decide_eq_false_iff_not, Bool.not_eq_true', Bool.not_eq_false', Bool.and_eq_true, Bool.or_eq_true, Bool.and_eq_false_iff, Bool.or_eq_false_iff, Bool.not_eq_true, Bool.not_eq_false, Int.not_lt, Int.not_le, List.length_map, beq_self_eq_true, Bool.true_eq_false, Bool.false_eq_true] at h) <;> (try (exfalso; first | contradiction | omega))))
  (refine W.ret ?_; first | refine RetR.agp' ?_ ?_ | refine RetR.gp' ?_ | (first | refine RetQ.b' ?_ | refine RetQ.i' ?_ | refine RetQ.d' ?_ | refine RetQ.t2' ?_ ?_ | refine RetQ.t3' ?_ ?_ ?_))
  rfl

/-- The keys of a value as values. -/
def keyVs (v : V) : List V := if v.kind = 6 then v.keys.map textV else numsV v.kids.length

theorem V.okKeys {v : V} (h : v.good) : ∀ k ∈ v.keys, okText k = true := by
  cases v; exact h.2.2.2.2.2.2.2.2.1

theorem texts_counts : ∀ l : List ByteArray, V.counts (l.map textV) = l.length
  | [] => rfl
  | a :: r => by simp only [List.map_cons, V.counts, texts_counts r, List.length_cons]; show 1 + _ = _; omega
theorem texts_depths : ∀ l : List ByteArray, V.depths (l.map textV) ≤ 1
  | [] => by decide
  | a :: r => by
    have := texts_depths r
    simp only [List.map_cons, V.depths]
    have : (textV a).depth = 1 := rfl
    omega

theorem keyVs_fine {v : V} (h : v.fine) : (∀ w ∈ keyVs v, w.good) ∧ V.counts (keyVs v) ≤ 199 ∧ faultV (arrV (keyVs v)) = 0 := by
  have hce := V.count_eq v
  have hlc := V.length_counts v.kids
  have hv2 := h.2.1
  unfold keyVs
  split
  · rename_i hk
    have hl := (V.obj_keys h.1 hk).1
    refine ⟨fun w hw => ?_, by rw [texts_counts]; omega, ?_⟩
    · obtain ⟨k, hk, rfl⟩ := List.mem_map.1 hw
      exact textV_good (V.okKeys h.1 k hk)
    · have hd : (arrV (v.keys.map textV)).depth = V.depths (v.keys.map textV) + 1 := rfl
      have := texts_depths v.keys
      rw [faultV, arrV_count, texts_counts, if_neg (by omega), if_neg (by omega)]
  · refine ⟨fun w hw => ?_, by rw [numsV_counts]; omega, rangeV_fault (by omega)⟩
    obtain ⟨j, hj, rfl⟩ := List.mem_map.1 hw
    have := List.mem_range.1 hj
    exact number_good _ (by omega)

/-- What the keys of a value are: the code, and the value. -/
def keysO (v : V) : Int × V := if holdsK v.kind = true then (0, arrV (keyVs v)) else (6, V.zero)

theorem keysO_fine {v : V} (h : v.fine) : (keysO v).2.fine := by
  obtain ⟨h1, h2, h3⟩ := keyVs_fine h
  unfold keysO
  split
  · have := givenV_fine (arrV_good h1)
    rwa [givenV, if_pos h3] at this
  · exact V.zero_fine

set_option maxHeartbeats 2000000 in
theorem keysOfP_fn (v : V) (h : v.fine) : Fun env.P 125 [.agg v.rowP] (.d (outD (keysO v).1 (keysO v).2)) [] := by
  have h4 := refusesP_fn 6
  obtain ⟨k1, k2, k3⟩ := keyVs_fine h
  have h2 := arrayP_fn (keyVs v)
  have h3 := given_fn (arrV (keyVs v)) (arrV_good k1) (by rw [arrV_count]; omega)
  rw [k3, if_pos rfl] at h3
  have hce := V.count_eq v
  have hlc := V.length_counts v.kids
  have hv2 := h.2.1
  have hkl : v.kind = 6 → v.keys.length = v.kids.length := fun hk => (V.obj_keys h.1 hk).1
  have e6 : v.kind = 6 → keyVs v = v.keys.map textV := fun hk => if_pos hk
  have e5 : v.kind = 5 → keyVs v = numsV v.kids.length := fun hk => if_neg (by omega)
  unfold keysO
  generalize keyVs v = l at *
  refine Fun.intro Try.func125 rfl (by kernel_rfl) rfl ?_
  repeat' (first | refine W.seq ?_ | refine W.rg ?_ | refine W.dra' ?_ | refine W.block ?_ | refine W.skip ?_ | refine W.exit ?_ | refine W.cond_true' ?_ | refine W.cond_false' ?_ | refine WG.nil ?_ | refine WG.run' (E := env) ?_ | refine WG.gt' ?_ | refine WG.gf' ?_ | refine WG.ixm' (E := env) ?_ | refine WG.ixo' (E := env) ?_ | refine WG.legm' (E := env) ?_ | refine WG.slS' (E := env) ?_ | refine WG.slD' (E := env) ?_ | refine WG.ap' (E := env) ?_ | refine WD.nil ?_ | refine WD.bs' (E := env) ?_ | refine WD.s' (E := env) (t := .d _) ?_ | refine WD.p' ?_ | refine WD.px' ?_ | refine WD.s' (E := env) (t := .ea _ _) ?_ | refine WD.s' (E := env) (t := .lp _ _) ?_ | refine WD.s' (E := env) (t := .og _ _) ?_ | refine WD.s' (E := env) (t := .agg _) ?_ | refine WD.s' (E := env) (t := .tup _) ?_ | refine WD.s' (E := env) (t := .clo _ _) ?_ | refine WD.ixm' (E := env) ?_ | refine WD.ixo' (E := env) ?_ | refine WD.legm' (E := env) ?_ | refine WD.slS' (E := env) ?_ | refine WD.slD' (E := env) ?_ | refine WG.c (E := env) rfl rfl (h4) rfl rfl ?_ | refine WD.c (E := env) rfl rfl (h4) rfl rfl ?_ | refine WG.co (E := env) rfl rfl (h4) rfl rfl rfl rfl ?_ | refine WG.cx (E := env) rfl (h4) rfl ?_ | ((first | refine WG.sp' (fun h => ?_) fun h => ?_ | refine W.cond' (fun h => ?_) fun h => ?_ | refine WD.sp' (fun h => ?_) fun h => ?_) <;> (try simp only [decide_eq_true_eq, decide_eq_false_iff_not, Bool.not_eq_true', Bool.not_eq_false', Bool.and_eq_true, Bool.or_eq_true, Bool.and_eq_false_iff, Bool.or_eq_false_iff, Bool.not_eq_true, Bool.not_eq_false, Int.not_lt, Int.not_le, List.length_map, beq_self_eq_true, Bool.true_eq_false, Bool.false_eq_true] at h) <;> (try (exfalso; first | contradiction | omega))))
  · obtain rfl := e6 h
    have hkl2 := hkl h
    rw [if_pos (show holdsK v.kind = true by rw [h]; rfl)]
    refine W.loopI (fun m S => ∃ (i : Nat) (rv : List (List D)), m = v.keys.length - i ∧ (i ≤ v.keys.length ∧ rv = ((v.keys.take i).map textV).map V.row) ∧
      S = ⟨ofL [(1, .lp 0 0), (2, .lp 1 0), (3, .og 2 0), (14, .d (.sl 1 (v.keys.map keyRow))), (15, vI .i64 (v.keys.map keyRow).length), (16, vI .i64 i)],
        [.pv (v.rowP.map .d), .pv [.d (dI 0), .d (dI 0), .d (dI 0), .d (dS ByteArray.empty), .d (.nl 1), .d (.nl 5)], .gr 5 100 rv 0 false]⟩) _ _ ⟨0, [], rfl, ⟨by omega, rfl⟩, rfl⟩ (St.imp.of_le (by (refine le_ofL rfl ?_ ?_ <;> (repeat (first | exact trivial | refine ⟨⟨rfl, rfl⟩, ?_⟩ | refine ⟨rfl, .inl rfl, ?_⟩ | refine ⟨rfl, .inr rfl, ?_⟩))))) ?_
    rintro m S ⟨i, rv, rfl, ⟨hi, hrv⟩, rfl⟩
    have hrl : rv.length = i := by rw [hrv, List.length_map, List.length_map, List.length_take]; omega
    repeat' (first | refine W.seq ?_ | refine W.rg ?_ | refine W.dra' ?_ | refine W.block ?_ | refine W.skip ?_ | refine W.exit ?_ | refine W.cond_true' ?_ | refine W.cond_false' ?_ | refine WG.nil ?_ | refine WG.run' (E := env) ?_ | refine WG.gt' ?_ | refine WG.gf' ?_ | refine WG.ixm' (E := env) ?_ | refine WG.ixo' (E := env) ?_ | refine WG.legm' (E := env) ?_ | refine WG.slS' (E := env) ?_ | refine WG.slD' (E := env) ?_ | refine WG.ap' (E := env) ?_ | refine WD.nil ?_ | refine WD.bs' (E := env) ?_ | refine WD.s' (E := env) (t := .d _) ?_ | refine WD.p' ?_ | refine WD.px' ?_ | refine WD.s' (E := env) (t := .ea _ _) ?_ | refine WD.s' (E := env) (t := .lp _ _) ?_ | refine WD.s' (E := env) (t := .og _ _) ?_ | refine WD.s' (E := env) (t := .agg _) ?_ | refine WD.s' (E := env) (t := .tup _) ?_ | refine WD.s' (E := env) (t := .clo _ _) ?_ | refine WD.ixm' (E := env) ?_ | refine WD.ixo' (E := env) ?_ | refine WD.legm' (E := env) ?_ | refine WD.slS' (E := env) ?_ | refine WD.slD' (E := env) ?_ | refine WG.c (E := env) rfl rfl (textP_fn _) rfl rfl ?_ | refine WD.c (E := env) rfl rfl (textP_fn _) rfl rfl ?_ | refine WG.co (E := env) rfl rfl (textP_fn _) rfl rfl rfl rfl ?_ | refine WG.cx (E := env) rfl (textP_fn _) rfl ?_ | ((first | refine WG.sp' (fun h => ?_) fun h => ?_ | refine W.cond' (fun h => ?_) fun h => ?_ | refine WD.sp' (fun h => ?_) fun h => ?_) <;> (try simp only [decide_eq_true_eq, decide_eq_false_iff_not, Bool.not_eq_true', Bool.not_eq_false', Bool.and_eq_true, Bool.or_eq_true, Bool.and_eq_false_iff, Bool.or_eq_false_iff, Bool.not_eq_true, Bool.not_eq_false, Int.not_lt, Int.not_le, List.length_map, beq_self_eq_true, Bool.true_eq_false, Bool.false_eq_true] at h) <;> (try (exfalso; first | contradiction | omega))))
    · refine ⟨_, _, by omega, ⟨i + 1, _, rfl, ⟨by omega, ?_⟩, rfl⟩, (St.imp.rev 2 1 rfl).trans (St.imp.of_le (by (refine le_ofL rfl ?_ ?_ <;> (repeat (first | exact trivial | refine ⟨⟨rfl, rfl⟩, ?_⟩ | refine ⟨rfl, .inl rfl, ?_⟩ | refine ⟨rfl, .inr rfl, ?_⟩)))))⟩
      rw [take_step (by omega), List.map_append, List.map_append, ← hrv]
      rfl
    · obtain rfl : i = v.keys.length := by omega
      rw [List.take_length] at hrv
      subst hrv
      refine WG.pub 2 rfl ?_
      repeat' (first | refine W.seq ?_ | refine W.rg ?_ | refine W.dra' ?_ | refine W.block ?_ | refine W.skip ?_ | refine W.exit ?_ | refine W.cond_true' ?_ | refine W.cond_false' ?_ | refine WG.nil ?_ | refine WG.run' (E := env) ?_ | refine WG.gt' ?_ | refine WG.gf' ?_ | refine WG.ixm' (E := env) ?_ | refine WG.ixo' (E := env) ?_ | refine WG.legm' (E := env) ?_ | refine WG.slS' (E := env) ?_ | refine WG.slD' (E := env) ?_ | refine WG.ap' (E := env) ?_ | refine WD.nil ?_ | refine WD.bs' (E := env) ?_ | refine WD.s' (E := env) (t := .d _) ?_ | refine WD.p' ?_ | refine WD.px' ?_ | refine WD.s' (E := env) (t := .ea _ _) ?_ | refine WD.s' (E := env) (t := .lp _ _) ?_ | refine WD.s' (E := env) (t := .og _ _) ?_ | refine WD.s' (E := env) (t := .agg _) ?_ | refine WD.s' (E := env) (t := .tup _) ?_ | refine WD.s' (E := env) (t := .clo _ _) ?_ | refine WD.ixm' (E := env) ?_ | refine WD.ixo' (E := env) ?_ | refine WD.legm' (E := env) ?_ | refine WD.slS' (E := env) ?_ | refine WD.slD' (E := env) ?_ | refine WG.c (E := env) rfl rfl (h2) rfl rfl ?_ | refine WD.c (E := env) rfl rfl (h2) rfl rfl ?_ | refine WG.co (E := env) rfl rfl (h2) rfl rfl rfl rfl ?_ | refine WG.cx (E := env) rfl (h2) rfl ?_ | refine WG.c (E := env) rfl rfl (h3) rfl rfl ?_ | refine WD.c (E := env) rfl rfl (h3) rfl rfl ?_ | refine WG.co (E := env) rfl rfl (h3) rfl rfl rfl rfl ?_ | refine WG.cx (E := env) rfl (h3) rfl ?_ | ((first | refine WG.sp' (fun h => ?_) fun h => ?_ | refine W.cond' (fun h => ?_) fun h => ?_ | refine WD.sp' (fun h => ?_) fun h => ?_) <;> (try simp only [decide_eq_true_eq, decide_eq_false_iff_not, Bool.not_eq_true', Bool.not_eq_false', Bool.and_eq_true, Bool.or_eq_true, Bool.and_eq_false_iff, Bool.or_eq_false_iff, Bool.not_eq_true, Bool.not_eq_false, Int.not_lt, Int.not_le, List.length_map, beq_self_eq_true, Bool.true_eq_false, Bool.false_eq_true] at h) <;> (try (exfalso; first | contradiction | omega))))
      (refine W.ret ?_; (first | refine RetQ.b' ?_ | refine RetQ.i' ?_ | refine RetQ.d' ?_ | refine RetQ.t2' ?_ ?_ | refine RetQ.t3' ?_ ?_ ?_))
      rfl
  · obtain rfl := e5 h
    rw [if_pos (show holdsK v.kind = true by rw [h]; rfl)]
    refine W.loopI (fun m S => ∃ (i : Nat) (rv : List (List D)), m = v.kids.length - i ∧ (i ≤ v.kids.length ∧ rv = (numsV i).map V.row) ∧
      S = ⟨ofL [(1, .lp 0 0), (2, .lp 1 0), (3, .og 2 0), (30, vI .i64 (v.kids.map V.row).length), (31, vI .i64 i)],
        [.pv (v.rowP.map .d), .pv [.d (dI 0), .d (dI 0), .d (dI 0), .d (dS ByteArray.empty), .d (.nl 1), .d (.nl 5)], .gr 5 100 rv 0 false]⟩) _ _ ⟨0, [], rfl, ⟨by omega, rfl⟩, rfl⟩ (St.imp.of_le (by (refine le_ofL rfl ?_ ?_ <;> (repeat (first | exact trivial | refine ⟨⟨rfl, rfl⟩, ?_⟩ | refine ⟨rfl, .inl rfl, ?_⟩ | refine ⟨rfl, .inr rfl, ?_⟩))))) ?_
    rintro m S ⟨i, rv, rfl, ⟨hi, hrv⟩, rfl⟩
    have hrl : rv.length = i := by rw [hrv, List.length_map, numsV_length]
    repeat' (first | refine W.seq ?_ | refine W.rg ?_ | refine W.dra' ?_ | refine W.block ?_ | refine W.skip ?_ | refine W.exit ?_ | refine W.cond_true' ?_ | refine W.cond_false' ?_ | refine WG.nil ?_ | refine WG.run' (E := env) ?_ | refine WG.gt' ?_ | refine WG.gf' ?_ | refine WG.ixm' (E := env) ?_ | refine WG.ixo' (E := env) ?_ | refine WG.legm' (E := env) ?_ | refine WG.slS' (E := env) ?_ | refine WG.slD' (E := env) ?_ | refine WG.ap' (E := env) ?_ | refine WD.nil ?_ | refine WD.bs' (E := env) ?_ | refine WD.s' (E := env) (t := .d _) ?_ | refine WD.p' ?_ | refine WD.px' ?_ | refine WD.s' (E := env) (t := .ea _ _) ?_ | refine WD.s' (E := env) (t := .lp _ _) ?_ | refine WD.s' (E := env) (t := .og _ _) ?_ | refine WD.s' (E := env) (t := .agg _) ?_ | refine WD.s' (E := env) (t := .tup _) ?_ | refine WD.s' (E := env) (t := .clo _ _) ?_ | refine WD.ixm' (E := env) ?_ | refine WD.ixo' (E := env) ?_ | refine WD.legm' (E := env) ?_ | refine WD.slS' (E := env) ?_ | refine WD.slD' (E := env) ?_ | refine WG.c (E := env) rfl rfl (numberP_fn _) rfl rfl ?_ | refine WD.c (E := env) rfl rfl (numberP_fn _) rfl rfl ?_ | refine WG.co (E := env) rfl rfl (numberP_fn _) rfl rfl rfl rfl ?_ | refine WG.cx (E := env) rfl (numberP_fn _) rfl ?_ | ((first | refine WG.sp' (fun h => ?_) fun h => ?_ | refine W.cond' (fun h => ?_) fun h => ?_ | refine WD.sp' (fun h => ?_) fun h => ?_) <;> (try simp only [decide_eq_true_eq, decide_eq_false_iff_not, Bool.not_eq_true', Bool.not_eq_false', Bool.and_eq_true, Bool.or_eq_true, Bool.and_eq_false_iff, Bool.or_eq_false_iff, Bool.not_eq_true, Bool.not_eq_false, Int.not_lt, Int.not_le, List.length_map, beq_self_eq_true, Bool.true_eq_false, Bool.false_eq_true] at h) <;> (try (exfalso; first | contradiction | omega))))
    · refine ⟨_, _, by omega, ⟨i + 1, _, rfl, ⟨by omega, ?_⟩, rfl⟩, (St.imp.rev 2 1 rfl).trans (St.imp.of_le (by (refine le_ofL rfl ?_ ?_ <;> (repeat (first | exact trivial | refine ⟨⟨rfl, rfl⟩, ?_⟩ | refine ⟨rfl, .inl rfl, ?_⟩ | refine ⟨rfl, .inr rfl, ?_⟩)))))⟩
      rw [numsV_succ, List.map_append, ← hrv]
      rfl
    · obtain rfl : i = v.kids.length := by omega
      subst hrv
      refine WG.pub 2 rfl ?_
      repeat' (first | refine W.seq ?_ | refine W.rg ?_ | refine W.dra' ?_ | refine W.block ?_ | refine W.skip ?_ | refine W.exit ?_ | refine W.cond_true' ?_ | refine W.cond_false' ?_ | refine WG.nil ?_ | refine WG.run' (E := env) ?_ | refine WG.gt' ?_ | refine WG.gf' ?_ | refine WG.ixm' (E := env) ?_ | refine WG.ixo' (E := env) ?_ | refine WG.legm' (E := env) ?_ | refine WG.slS' (E := env) ?_ | refine WG.slD' (E := env) ?_ | refine WG.ap' (E := env) ?_ | refine WD.nil ?_ | refine WD.bs' (E := env) ?_ | refine WD.s' (E := env) (t := .d _) ?_ | refine WD.p' ?_ | refine WD.px' ?_ | refine WD.s' (E := env) (t := .ea _ _) ?_ | refine WD.s' (E := env) (t := .lp _ _) ?_ | refine WD.s' (E := env) (t := .og _ _) ?_ | refine WD.s' (E := env) (t := .agg _) ?_ | refine WD.s' (E := env) (t := .tup _) ?_ | refine WD.s' (E := env) (t := .clo _ _) ?_ | refine WD.ixm' (E := env) ?_ | refine WD.ixo' (E := env) ?_ | refine WD.legm' (E := env) ?_ | refine WD.slS' (E := env) ?_ | refine WD.slD' (E := env) ?_ | refine WG.c (E := env) rfl rfl (h2) rfl rfl ?_ | refine WD.c (E := env) rfl rfl (h2) rfl rfl ?_ | refine WG.co (E := env) rfl rfl (h2) rfl rfl rfl rfl ?_ | refine WG.cx (E := env) rfl (h2) rfl ?_ | refine WG.c (E := env) rfl rfl (h3) rfl rfl ?_ | refine WD.c (E := env) rfl rfl (h3) rfl rfl ?_ | refine WG.co (E := env) rfl rfl (h3) rfl rfl rfl rfl ?_ | refine WG.cx (E := env) rfl (h3) rfl ?_ | ((first | refine WG.sp' (fun h => ?_) fun h => ?_ | refine W.cond' (fun h => ?_) fun h => ?_ | refine WD.sp' (fun h => ?_) fun h => ?_) <;> (try simp only [decide_eq_true_eq, decide_eq_false_iff_not, Bool.not_eq_true', Bool.not_eq_false', Bool.and_eq_true, Bool.or_eq_true, Bool.and_eq_false_iff, Bool.or_eq_false_iff, Bool.not_eq_true, Bool.not_eq_false, Int.not_lt, Int.not_le, List.length_map, beq_self_eq_true, Bool.true_eq_false, Bool.false_eq_true] at h) <;> (try (exfalso; first | contradiction | omega))))
      (refine W.ret ?_; (first | refine RetQ.b' ?_ | refine RetQ.i' ?_ | refine RetQ.d' ?_ | refine RetQ.t2' ?_ ?_ | refine RetQ.t3' ?_ ?_ ?_))
      rfl
  · rw [if_neg (show ¬ holdsK v.kind = true by simp [holdsK]; omega)]
    (refine W.ret ?_; (first | refine RetQ.b' ?_ | refine RetQ.i' ?_ | refine RetQ.d' ?_ | refine RetQ.t2' ?_ ?_ | refine RetQ.t3' ?_ ?_ ?_))
    rfl

set_option maxHeartbeats 1000000 in
theorem KeysOf_fn (cs : List Cell) (hf : fitsC cs) : Fun env.P 62 [cellsD cs] (.agg [vI .i64 (oneCode cs (keysO (valOfM cs).1).1), .og 0 0]) [.gr 5 75 ((oneCells cs (keysO (valOfM cs).1).1 (keysO (valOfM cs).1).2).map Cell.row) 0 false] := by
  have h1 := ofOneD_fn (f := 125) cs hf (keysO (valOfM cs).1).1 (keysO (valOfM cs).1).2 (fun h0 => keysOfP_fn _ (valOfM_fine h0).1) (oneOK fun h0 => keysO_fine (valOfM_fine h0).1)
  generalize oneCode cs (keysO (valOfM cs).1).1 = code at h1 ⊢
  generalize oneCells cs (keysO (valOfM cs).1).1 (keysO (valOfM cs).1).2 = rs at h1 ⊢
  refine Fun.intro Try.func62 rfl (by kernel_rfl) rfl ?_
  repeat' (first | refine W.seq ?_ | refine W.rg ?_ | refine W.dra' ?_ | refine W.block ?_ | refine W.skip ?_ | refine W.exit ?_ | refine W.cond_true' ?_ | refine W.cond_false' ?_ | refine WG.nil ?_ | refine WG.run' (E := env) ?_ | refine WG.gt' ?_ | refine WG.gf' ?_ | refine WG.ixm' (E := env) ?_ | refine WG.ixo' (E := env) ?_ | refine WG.legm' (E := env) ?_ | refine WG.slS' (E := env) ?_ | refine WG.slD' (E := env) ?_ | refine WG.ap' (E := env) ?_ | refine WD.nil ?_ | refine WD.bs' (E := env) ?_ | refine WD.s' (E := env) (t := .d _) ?_ | refine WD.p' ?_ | refine WD.px' ?_ | refine WD.s' (E := env) (t := .ea _ _) ?_ | refine WD.s' (E := env) (t := .lp _ _) ?_ | refine WD.s' (E := env) (t := .og _ _) ?_ | refine WD.s' (E := env) (t := .agg _) ?_ | refine WD.s' (E := env) (t := .tup _) ?_ | refine WD.s' (E := env) (t := .clo _ _) ?_ | refine WD.ixm' (E := env) ?_ | refine WD.ixo' (E := env) ?_ | refine WD.legm' (E := env) ?_ | refine WD.slS' (E := env) ?_ | refine WD.slD' (E := env) ?_ | refine WG.coG' (E := env) rfl rfl (h1) rfl ?_ | refine WG.coA' (E := env) rfl rfl (h1) rfl ?_ | refine WG.coA3' (E := env) rfl rfl (h1) rfl ?_ | ((first | refine WG.sp' (fun h => ?_) fun h => ?_ | refine W.cond' (fun h => ?_) fun h => ?_ | refine WD.sp' (fun h => ?_) fun h => ?_) <;> (try simp only [decide_eq_true_eq, decide_eq_false_iff_not, Bool.not_eq_true', Bool.not_eq_false', Bool.and_eq_true, Bool.or_eq_true, Bool.and_eq_false_iff, Bool.or_eq_false_iff, Bool.not_eq_true, Bool.not_eq_false, Int.not_lt, Int.not_le, List.length_map, beq_self_eq_true, Bool.true_eq_false, Bool.false_eq_true] at h) <;> (try (exfalso; first | contradiction | omega))))
  (refine W.ret ?_; first | refine RetR.g' ?_ | refine RetR.ag' ?_ ?_ | refine RetR.agn' ?_ | exact RetR.gn' | refine RetR.ag3' ?_ ?_ ?_ | refine RetR.agn3' ?_ ?_)
  all_goals rfl

theorem keyVs_length {v : V} (h : v.fine) : (keyVs v).length = v.kids.length := by
  unfold keyVs
  split
  · rename_i hk; rw [List.length_map, (V.obj_keys h.1 hk).1]
  · rw [numsV_length]
theorem keyVs_text {v : V} (h : v.fine) (hk : v.kind = 6) (i : Nat) (hi : i < v.kids.length) : (keyVs v).getD i default = textV ((v.keysL v.kids.length).getD i default) := by
  have hl := (V.obj_keys h.1 hk).1
  rw [keyVs, if_pos hk, V.keysL_obj h.1 hk]
  have : i < v.keys.length := by omega
  simp [this]
theorem keyVs_num {v : V} (hk : v.kind ≠ 6) (i : Nat) (hi : i < v.kids.length) : (keyVs v).getD i default = numV i := by
  rw [keyVs, if_neg hk, numsV]
  simp [hi, numV]

theorem l1NumberV_fn (n : Int) : Fun env.P 180 [dI n] (.d (cellsD (numV n).cells)) [] := l1NumberD_fn n

set_option maxHeartbeats 2000000 in
theorem l3Keys_fn (v : V) (h : v.fine) : Fun env.P 124 [cellsD v.cells] (.d (resD (keysO v).1 (outC (keysO v).1 (keysO v).2))) [] := by
  have p2 := FunQ.pubG (l1Keys_fn v h)
  obtain ⟨k1, k2, k3⟩ := keyVs_fine h
  have a1 := FunQ.pubG (l1Array_fn (keyVs v) (by omega))
  have hv200 := h.2.1
  have hlc := V.length_counts v.kids
  have hce := V.count_eq v
  have hll := keyVs_length h
  have hl6 := fun hk : v.kind = 6 => keyVs_text h hk
  have hl5 := fun hk : v.kind ≠ 6 => keyVs_num (v := v) hk
  have hkl : (v.keysL v.kids.length).length = v.kids.length := by simp [V.keysL]
  obtain ⟨r1, e1⟩ := V.cells_cons v
  unfold keysO
  rw [e1] at p2 ⊢
  generalize keyVs v = l at *
  generalize v.keysL v.kids.length = kl at *
  generalize hvk : v.kind = vk at *
  generalize v.num = vn at *
  generalize v.text = vt at *
  generalize v.kids.length = len at *
  have hl1 : 1 ≤ ((⟨vk, vn, vt, noS, (len : Int)⟩ :: r1 : List Cell)).length := by simp
  have hg : ((⟨vk, vn, vt, noS, (len : Int)⟩ :: r1 : List Cell).getD (Int.toNat 0) default) = ⟨vk, vn, vt, noS, (len : Int)⟩ := rfl
  refine Fun.intro Try.func124 rfl (by kernel_rfl) rfl ?_
  repeat' (first | refine W.seq ?_ | refine W.rg ?_ | refine W.dra' ?_ | refine W.block ?_ | refine W.skip ?_ | refine W.exit ?_ | refine W.cond_true' ?_ | refine W.cond_false' ?_ | refine WG.nil ?_ | refine WG.run' (E := env) ?_ | refine WG.gt' ?_ | refine WG.gf' ?_ | refine WG.ixm' (E := env) ?_ | refine WG.ixo' (E := env) ?_ | refine WG.legm' (E := env) ?_ | refine WG.slS' (E := env) ?_ | refine WG.slD' (E := env) ?_ | refine WG.ap' (E := env) ?_ | refine WD.nil ?_ | refine WD.bs' (E := env) ?_ | refine WD.s' (E := env) (t := .d _) ?_ | refine WD.p' ?_ | refine WD.px' ?_ | refine WD.s' (E := env) (t := .ea _ _) ?_ | refine WD.s' (E := env) (t := .lp _ _) ?_ | refine WD.s' (E := env) (t := .og _ _) ?_ | refine WD.s' (E := env) (t := .agg _) ?_ | refine WD.s' (E := env) (t := .tup _) ?_ | refine WD.s' (E := env) (t := .clo _ _) ?_ | refine WD.ixm' (E := env) ?_ | refine WD.ixo' (E := env) ?_ | refine WD.legm' (E := env) ?_ | refine WD.slS' (E := env) ?_ | refine WD.slD' (E := env) ?_ | refine WG.c (E := env) rfl rfl (l1Holds_fn _) rfl rfl ?_ | refine WD.c (E := env) rfl rfl (l1Holds_fn _) rfl rfl ?_ | refine WG.co (E := env) rfl rfl (l1Holds_fn _) rfl rfl rfl rfl ?_ | refine WG.cx (E := env) rfl (l1Holds_fn _) rfl ?_ | refine WG.c (E := env) rfl rfl (l3Bad_fn 6) rfl rfl ?_ | refine WD.c (E := env) rfl rfl (l3Bad_fn 6) rfl rfl ?_ | refine WG.co (E := env) rfl rfl (l3Bad_fn 6) rfl rfl rfl rfl ?_ | refine WG.cx (E := env) rfl (l3Bad_fn 6) rfl ?_ | refine WG.c (E := env) rfl rfl (p2) rfl rfl ?_ | refine WD.c (E := env) rfl rfl (p2) rfl rfl ?_ | refine WG.co (E := env) rfl rfl (p2) rfl rfl rfl rfl ?_ | refine WG.cx (E := env) rfl (p2) rfl ?_ | ((first | refine WG.sp' (fun h => ?_) fun h => ?_ | refine W.cond' (fun h => ?_) fun h => ?_ | refine WD.sp' (fun h => ?_) fun h => ?_) <;> (try simp only [decide_eq_true_eq, decide_eq_false_iff_not, Bool.not_eq_true', Bool.not_eq_false', Bool.and_eq_true, Bool.or_eq_true, Bool.and_eq_false_iff, Bool.or_eq_false_iff, Bool.not_eq_true, Bool.not_eq_false, Int.not_lt, Int.not_le, List.length_map, beq_self_eq_true, Bool.true_eq_false, Bool.false_eq_true] at h) <;> (try (exfalso; first | contradiction | omega))))
  all_goals (simp only [hg] at *)
  · rw [if_neg (by simp [*])]
    (refine W.ret ?_; (first | refine RetQ.b' ?_ | refine RetQ.i' ?_ | refine RetQ.d' ?_ | refine RetQ.t2' ?_ ?_ | refine RetQ.t3' ?_ ?_ ?_))
    rfl
  rw [if_pos (by assumption)]
  refine W.loopI (fun m S => ∃ (i : Nat) (rv : List (List D)), m = len - i ∧ (i ≤ len ∧ rv = (l.take i).map partR) ∧
    S = ⟨ofL [(0, .d (cellsD (⟨vk, vn, vt, noS, (len : Int)⟩ :: r1))), (2, .lp 0 0), (3, .og 1 0), (4, .d (.sl 1 (kl.map keyRow))), (5, vI .i64 i)], [.pv [.d (dI 0), .d (.nl 5)], .gr 1 28 rv 0 false]⟩) _ _ ⟨0, [], rfl, ⟨by omega, rfl⟩, rfl⟩ (St.imp.of_le (by (refine le_ofL rfl ?_ ?_ <;> (repeat (first | exact trivial | refine ⟨⟨rfl, rfl⟩, ?_⟩ | refine ⟨rfl, .inl rfl, ?_⟩ | refine ⟨rfl, .inr rfl, ?_⟩))))) ?_
  rintro m S ⟨i, rv, rfl, ⟨hi, hrv⟩, rfl⟩
  have hrl : rv.length = i := by rw [hrv, List.length_map, List.length_take]; omega
  repeat' (first | refine W.seq ?_ | refine W.rg ?_ | refine W.dra' ?_ | refine W.block ?_ | refine W.skip ?_ | refine W.exit ?_ | refine W.cond_true' ?_ | refine W.cond_false' ?_ | refine WG.nil ?_ | refine WG.run' (E := env) ?_ | refine WG.gt' ?_ | refine WG.gf' ?_ | refine WG.ixm' (E := env) ?_ | refine WG.ixo' (E := env) ?_ | refine WG.legm' (E := env) ?_ | refine WG.slS' (E := env) ?_ | refine WG.slD' (E := env) ?_ | refine WG.ap' (E := env) ?_ | refine WD.nil ?_ | refine WD.bs' (E := env) ?_ | refine WD.s' (E := env) (t := .d _) ?_ | refine WD.p' ?_ | refine WD.px' ?_ | refine WD.s' (E := env) (t := .ea _ _) ?_ | refine WD.s' (E := env) (t := .lp _ _) ?_ | refine WD.s' (E := env) (t := .og _ _) ?_ | refine WD.s' (E := env) (t := .agg _) ?_ | refine WD.s' (E := env) (t := .tup _) ?_ | refine WD.s' (E := env) (t := .clo _ _) ?_ | refine WD.ixm' (E := env) ?_ | refine WD.ixo' (E := env) ?_ | refine WD.legm' (E := env) ?_ | refine WD.slS' (E := env) ?_ | refine WD.slD' (E := env) ?_ | refine WG.c (E := env) rfl rfl (l1StringD_fn _) rfl rfl ?_ | refine WD.c (E := env) rfl rfl (l1StringD_fn _) rfl rfl ?_ | refine WG.co (E := env) rfl rfl (l1StringD_fn _) rfl rfl rfl rfl ?_ | refine WG.cx (E := env) rfl (l1StringD_fn _) rfl ?_ | refine WG.c (E := env) rfl rfl (l1NumberV_fn _) rfl rfl ?_ | refine WD.c (E := env) rfl rfl (l1NumberV_fn _) rfl rfl ?_ | refine WG.co (E := env) rfl rfl (l1NumberV_fn _) rfl rfl rfl rfl ?_ | refine WG.cx (E := env) rfl (l1NumberV_fn _) rfl ?_ | ((first | refine WG.sp' (fun h => ?_) fun h => ?_ | refine W.cond' (fun h => ?_) fun h => ?_ | refine WD.sp' (fun h => ?_) fun h => ?_) <;> (try simp only [decide_eq_true_eq, decide_eq_false_iff_not, Bool.not_eq_true', Bool.not_eq_false', Bool.and_eq_true, Bool.or_eq_true, Bool.and_eq_false_iff, Bool.or_eq_false_iff, Bool.not_eq_true, Bool.not_eq_false, Int.not_lt, Int.not_le, List.length_map, beq_self_eq_true, Bool.true_eq_false, Bool.false_eq_true] at h) <;> (try (exfalso; first | contradiction | omega))))
  · have hx := hl6 (by assumption) i (by omega)
    refine ⟨_, _, by omega, ⟨i + 1, _, rfl, ⟨by omega, ?_⟩, rfl⟩, (St.imp.rev 1 1 rfl).trans (St.imp.of_le (by (refine le_ofL rfl ?_ ?_ <;> (repeat (first | exact trivial | refine ⟨⟨rfl, rfl⟩, ?_⟩ | refine ⟨rfl, .inl rfl, ?_⟩ | refine ⟨rfl, .inr rfl, ?_⟩)))))⟩
    rw [take_step (by omega), List.map_append, ← hrv, hx]
    rfl
  · have hx := hl5 (by assumption) i (by omega)
    refine ⟨_, _, by omega, ⟨i + 1, _, rfl, ⟨by omega, ?_⟩, rfl⟩, (St.imp.rev 1 1 rfl).trans (St.imp.of_le (by (refine le_ofL rfl ?_ ?_ <;> (repeat (first | exact trivial | refine ⟨⟨rfl, rfl⟩, ?_⟩ | refine ⟨rfl, .inl rfl, ?_⟩ | refine ⟨rfl, .inr rfl, ?_⟩)))))⟩
    rw [take_step (by omega), List.map_append, ← hrv, hx]
    rfl
  · obtain rfl : i = len := by omega
    rw [List.take_of_length_le (by omega)] at hrv
    subst hrv
    refine WG.pub 1 rfl ?_
    repeat' (first | refine W.seq ?_ | refine W.rg ?_ | refine W.dra' ?_ | refine W.block ?_ | refine W.skip ?_ | refine W.exit ?_ | refine W.cond_true' ?_ | refine W.cond_false' ?_ | refine WG.nil ?_ | refine WG.run' (E := env) ?_ | refine WG.gt' ?_ | refine WG.gf' ?_ | refine WG.ixm' (E := env) ?_ | refine WG.ixo' (E := env) ?_ | refine WG.legm' (E := env) ?_ | refine WG.slS' (E := env) ?_ | refine WG.slD' (E := env) ?_ | refine WG.ap' (E := env) ?_ | refine WD.nil ?_ | refine WD.bs' (E := env) ?_ | refine WD.s' (E := env) (t := .d _) ?_ | refine WD.p' ?_ | refine WD.px' ?_ | refine WD.s' (E := env) (t := .ea _ _) ?_ | refine WD.s' (E := env) (t := .lp _ _) ?_ | refine WD.s' (E := env) (t := .og _ _) ?_ | refine WD.s' (E := env) (t := .agg _) ?_ | refine WD.s' (E := env) (t := .tup _) ?_ | refine WD.s' (E := env) (t := .clo _ _) ?_ | refine WD.ixm' (E := env) ?_ | refine WD.ixo' (E := env) ?_ | refine WD.legm' (E := env) ?_ | refine WD.slS' (E := env) ?_ | refine WD.slD' (E := env) ?_ | refine WG.c (E := env) rfl rfl (a1) rfl rfl ?_ | refine WD.c (E := env) rfl rfl (a1) rfl rfl ?_ | refine WG.co (E := env) rfl rfl (a1) rfl rfl rfl rfl ?_ | refine WG.cx (E := env) rfl (a1) rfl ?_ | ((first | refine WG.sp' (fun h => ?_) fun h => ?_ | refine W.cond' (fun h => ?_) fun h => ?_ | refine WD.sp' (fun h => ?_) fun h => ?_) <;> (try simp only [decide_eq_true_eq, decide_eq_false_iff_not, Bool.not_eq_true', Bool.not_eq_false', Bool.and_eq_true, Bool.or_eq_true, Bool.and_eq_false_iff, Bool.or_eq_false_iff, Bool.not_eq_true, Bool.not_eq_false, Int.not_lt, Int.not_le, List.length_map, beq_self_eq_true, Bool.true_eq_false, Bool.false_eq_true] at h) <;> (try (exfalso; first | contradiction | omega))))
    (refine W.ret ?_; (first | refine RetQ.b' ?_ | refine RetQ.i' ?_ | refine RetQ.d' ?_ | refine RetQ.t2' ?_ ?_ | refine RetQ.t3' ?_ ?_ ?_))
    rfl

set_option maxHeartbeats 1000000 in
theorem KeysOfS_fn (cs : List Cell) (hf : fitsC cs) : Fun env.P 61 [cellsD cs] (.d (resD (oneCode cs (keysO (valOfM cs).1).1) (oneCells cs (keysO (valOfM cs).1).1 (keysO (valOfM cs).1).2))) [] := by
  have h1 := ValueFaultS_fn cs hf.1 hf.2
  unfold oneCode oneCells
  by_cases h0 : (valOfM cs).2 = 0
  · obtain ⟨f1, e1⟩ := valOfM_fine h0
    have h2 := l3Keys_fn _ f1
    rw [← e1] at h2
    rw [h0] at h1
    rw [if_pos h0, if_pos h0]
    generalize outC (keysO (valOfM cs).1).1 (keysO (valOfM cs).1).2 = rs at h2 ⊢
    generalize (keysO (valOfM cs).1).1 = c at h2 ⊢
    refine Fun.intro Try.func61 rfl (by kernel_rfl) rfl ?_
    repeat' (first | refine W.seq ?_ | refine W.rg ?_ | refine W.dra' ?_ | refine W.block ?_ | refine W.skip ?_ | refine W.exit ?_ | refine W.cond_true' ?_ | refine W.cond_false' ?_ | refine WG.nil ?_ | refine WG.run' (E := env) ?_ | refine WG.gt' ?_ | refine WG.gf' ?_ | refine WG.ixm' (E := env) ?_ | refine WG.ixo' (E := env) ?_ | refine WG.legm' (E := env) ?_ | refine WG.slS' (E := env) ?_ | refine WG.slD' (E := env) ?_ | refine WG.ap' (E := env) ?_ | refine WD.nil ?_ | refine WD.bs' (E := env) ?_ | refine WD.s' (E := env) (t := .d _) ?_ | refine WD.p' ?_ | refine WD.px' ?_ | refine WD.s' (E := env) (t := .ea _ _) ?_ | refine WD.s' (E := env) (t := .lp _ _) ?_ | refine WD.s' (E := env) (t := .og _ _) ?_ | refine WD.s' (E := env) (t := .agg _) ?_ | refine WD.s' (E := env) (t := .tup _) ?_ | refine WD.s' (E := env) (t := .clo _ _) ?_ | refine WD.ixm' (E := env) ?_ | refine WD.ixo' (E := env) ?_ | refine WD.legm' (E := env) ?_ | refine WD.slS' (E := env) ?_ | refine WD.slD' (E := env) ?_ | refine WG.c (E := env) rfl rfl (h1) rfl rfl ?_ | refine WD.c (E := env) rfl rfl (h1) rfl rfl ?_ | refine WG.co (E := env) rfl rfl (h1) rfl rfl rfl rfl ?_ | refine WG.cx (E := env) rfl (h1) rfl ?_ | refine WG.c (E := env) rfl rfl (h2) rfl rfl ?_ | refine WD.c (E := env) rfl rfl (h2) rfl rfl ?_ | refine WG.co (E := env) rfl rfl (h2) rfl rfl rfl rfl ?_ | refine WG.cx (E := env) rfl (h2) rfl ?_ | ((first | refine WG.sp' (fun h => ?_) fun h => ?_ | refine W.cond' (fun h => ?_) fun h => ?_ | refine WD.sp' (fun h => ?_) fun h => ?_) <;> (try simp only [decide_eq_true_eq, decide_eq_false_iff_not, Bool.not_eq_true', Bool.not_eq_false', Bool.and_eq_true, Bool.or_eq_true, Bool.and_eq_false_iff, Bool.or_eq_false_iff, Bool.not_eq_true, Bool.not_eq_false, Int.not_lt, Int.not_le, List.length_map, beq_self_eq_true, Bool.true_eq_false, Bool.false_eq_true] at h) <;> (try (exfalso; first | contradiction | omega))))
    (refine W.ret ?_; (first | refine RetQ.b' ?_ | refine RetQ.i' ?_ | refine RetQ.d' ?_ | refine RetQ.t2' ?_ ?_ | refine RetQ.t3' ?_ ?_ ?_))
    rfl
  · rw [if_neg h0, if_neg h0]
    have h2 := l3Bad_fn (valOfM cs).2
    generalize (valOfM cs).2 = c at h0 h1 h2 ⊢
    refine Fun.intro Try.func61 rfl (by kernel_rfl) rfl ?_
    repeat' (first | refine W.seq ?_ | refine W.rg ?_ | refine W.dra' ?_ | refine W.block ?_ | refine W.skip ?_ | refine W.exit ?_ | refine W.cond_true' ?_ | refine W.cond_false' ?_ | refine WG.nil ?_ | refine WG.run' (E := env) ?_ | refine WG.gt' ?_ | refine WG.gf' ?_ | refine WG.ixm' (E := env) ?_ | refine WG.ixo' (E := env) ?_ | refine WG.legm' (E := env) ?_ | refine WG.slS' (E := env) ?_ | refine WG.slD' (E := env) ?_ | refine WG.ap' (E := env) ?_ | refine WD.nil ?_ | refine WD.bs' (E := env) ?_ | refine WD.s' (E := env) (t := .d _) ?_ | refine WD.p' ?_ | refine WD.px' ?_ | refine WD.s' (E := env) (t := .ea _ _) ?_ | refine WD.s' (E := env) (t := .lp _ _) ?_ | refine WD.s' (E := env) (t := .og _ _) ?_ | refine WD.s' (E := env) (t := .agg _) ?_ | refine WD.s' (E := env) (t := .tup _) ?_ | refine WD.s' (E := env) (t := .clo _ _) ?_ | refine WD.ixm' (E := env) ?_ | refine WD.ixo' (E := env) ?_ | refine WD.legm' (E := env) ?_ | refine WD.slS' (E := env) ?_ | refine WD.slD' (E := env) ?_ | refine WG.c (E := env) rfl rfl (h1) rfl rfl ?_ | refine WD.c (E := env) rfl rfl (h1) rfl rfl ?_ | refine WG.co (E := env) rfl rfl (h1) rfl rfl rfl rfl ?_ | refine WG.cx (E := env) rfl (h1) rfl ?_ | refine WG.c (E := env) rfl rfl (h2) rfl rfl ?_ | refine WD.c (E := env) rfl rfl (h2) rfl rfl ?_ | refine WG.co (E := env) rfl rfl (h2) rfl rfl rfl rfl ?_ | refine WG.cx (E := env) rfl (h2) rfl ?_ | ((first | refine WG.sp' (fun h => ?_) fun h => ?_ | refine W.cond' (fun h => ?_) fun h => ?_ | refine WD.sp' (fun h => ?_) fun h => ?_) <;> (try simp only [decide_eq_true_eq, decide_eq_false_iff_not, Bool.not_eq_true', Bool.not_eq_false', Bool.and_eq_true, Bool.or_eq_true, Bool.and_eq_false_iff, Bool.or_eq_false_iff, Bool.not_eq_true, Bool.not_eq_false, Int.not_lt, Int.not_le, List.length_map, beq_self_eq_true, Bool.true_eq_false, Bool.false_eq_true] at h) <;> (try (exfalso; first | contradiction | omega))))
    all_goals first | ((refine W.ret ?_; (first | refine RetQ.b' ?_ | refine RetQ.i' ?_ | refine RetQ.d' ?_ | refine RetQ.t2' ?_ ?_ | refine RetQ.t3' ?_ ?_ ?_)); rfl; done) | exact absurd (by assumption) h0

theorem KeysOf_both (cs : List Cell) (hf : fitsC cs) : ∃ (code : Int) (rs : List Cell), rs.length ≤ 1048576 ∧ Fun env.P 62 [cellsD cs] (.agg [vI .i64 code, .og 0 0]) [.gr 5 75 (rs.map Cell.row) 0 false] ∧
    Fun env.P 61 [cellsD cs] (.d (.agg [dI code, .sl 5 (rs.map Cell.row)])) [] :=
  ⟨_, _, oneCells_len cs _ fun h0 => keysO_fine (valOfM_fine h0).1, KeysOf_fn cs hf, KeysOfS_fn cs hf⟩

end Go.Proofs.Ythfmgmdabgcceaa
