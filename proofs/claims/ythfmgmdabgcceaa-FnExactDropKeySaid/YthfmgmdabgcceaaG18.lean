/-
  DropKey: a value without one of its keys, by the program and by the reference. Conditions: none.
-/
import Derived.Test.YthfmgmdabgcceaaG17
set_option linter.unusedVariables false
set_option linter.unusedSimpArgs false
set_option maxRecDepth 100000
namespace Go.Proofs.Ythfmgmdabgcceaa
open Go.RowKit

theorem posK_all {key : ByteArray} : ∀ {ks : List ByteArray}, (∀ a ∈ ks, lessK a key = true) → posK key ks = ks.length
  | [], _ => rfl
  | a :: r, h => by rw [posK, if_pos (h a (List.mem_cons_self ..)), posK_all fun b hb => h b (List.mem_cons_of_mem _ hb)]; rfl

theorem objK_incr {α : Type} [Inhabited α] {keys : List ByteArray} (h : incr keys) (xs : List α) (hl : keys.length = xs.length) : ∀ i, i ≤ keys.length → objK keys i = keys.take i ∧ objX keys xs i = xs.take i
  | 0, _ => by simp [objK, objX]
  | i + 1, hi => by
    obtain ⟨e1, e2⟩ := objK_incr h xs hl i (by omega)
    have hall : ∀ a ∈ keys.take i, lessK a (keys.getD i default) = true := fun a ha => by
      obtain ⟨j, hj, rfl⟩ := List.getElem_of_mem ha
      have hj2 : j < i := by simp at hj; omega
      have := less_getD h j i hj2 (by omega)
      have hj3 : j < keys.length := by omega
      simpa [hj3] using this
    have hp := posK_all hall
    have hh : hasK (keys.take i) (keys.getD i default) = false := by rw [hasK, hp, decide_eq_false (by omega), Bool.false_and]
    have hxl : (xs.take i).length = (keys.take i).length := by simp [hl]
    constructor
    · rw [objK, e1, insK, if_neg (by rw [hh]; simp), hp, List.take_length, List.drop_length, take_step (by omega)]
    · rw [objX, e1, e2, insX, if_neg (by rw [hh]; simp), hp, ← hxl, List.take_length, List.drop_length, take_step (l := xs) (by omega)]

theorem keyed_cells (k : ByteArray) (v : V) : keyed k v.cells = v.cellsK k := by cases v; rfl

theorem pcs_cells : ∀ (ks : List ByteArray) (vs : List V), ks.length = vs.length → ∀ i, i ≤ ks.length → pcs ks (vs.map V.cells) i = V.kidsC (vs.take i) (ks.take i)
  | ks, vs, hl, 0, _ => by simp [pcs, V.kidsC]
  | ks, vs, hl, i + 1, hi => by
    have ih := pcs_cells ks vs hl i (by omega)
    have e : (vs.map V.cells).getD i default = (vs.getD i default).cells := by
      have : i < vs.length := by omega
      simp [this]
    rw [pcs, ih, e, keyed_cells, take_step (l := vs) (by omega), take_step (l := ks) (by omega), V.kidsC_app _ _ _ _ (by simp [hl])]

theorem l1Object_fn (ks : List ByteArray) (vs : List V) (hl : ks.length = vs.length) (hi : incr ks) (h1 : ks.length ≤ 200) (hc : ∀ v ∈ vs, v.count ≤ 1000) :
    Fun env.P 129 [.sl 1 (ks.map keyRow), .sl 1 (vs.map partR)] (.og 0 0) [.gr 5 75 ((objV ks vs).cells.map Cell.row) 0 false] := by
  have h2 := l1ObjectS_fn ks (vs.map V.cells) 1000 (by rw [List.length_map]; exact hl) (by omega) (by omega) (by omega) fun x hx => by
    obtain ⟨v, hv, rfl⟩ := List.mem_map.1 hx
    refine ⟨fun e => ?_, ?_⟩
    · obtain ⟨r, hr⟩ := V.cells_cons v
      rw [hr] at e; cases e
    · rw [show v.cells.length = v.count from V.cellsK_length v noS]; exact hc v hv
  obtain ⟨e1, e2⟩ := objK_incr hi (vs.map V.cells) (by rw [List.length_map]; exact hl) ks.length (Nat.le_refl _)
  rw [List.take_length] at e1
  rw [List.take_of_length_le (by rw [List.length_map]; omega)] at e2
  rw [e1, e2, pcs_cells ks vs hl _ (Nat.le_refl _), List.take_length, List.take_of_length_le (by omega)] at h2
  refine h2.cast (by simp [cellssD, partR, cellsR, Function.comp_def]) rfl ?_
  rw [show (objV ks vs).cells = ⟨6, 0, noS, noS, (vs.length : Int)⟩ :: V.kidsC vs ks from rfl, hl]

set_option maxHeartbeats 4000000 in
theorem dropS_fn (v : V) (h : v.fine) (key : ByteArray) (hs : key.size ≤ 1048576) (hv : Fun env.P 40 [cellsD v.cells] (.d (dI 0)) []) :
    Fun env.P 63 [cellsD v.cells, dS key] (.d (resD (dropO2 v key).1 (outC (dropO2 v key).1 (dropO2 v key).2))) [] := by
  have p1 := FunQ.pubG (l1Parts_fn v h)
  have p2 := FunQ.pubG (l1Keys_fn v h)
  have h3 := l1Text_fn key hs
  have hv200 := h.2.1
  have hlc := V.length_counts v.kids
  have hce := V.count_eq v
  have hml : (v.kids.map partR).length = v.kids.length := by simp
  have hko : v.kind = 6 → v.keysL v.kids.length = v.keys ∧ v.keys.length = v.kids.length ∧ incr v.keys := fun hk => ⟨V.keysL_obj h.1 hk, V.obj_keys h.1 hk⟩
  have a1 : v.kind = 6 → Fun env.P 129 [.sl 1 ((dropKs key v.keys).map keyRow), .sl 1 ((dropVs key v.keys v.kids).map partR)] (.d (cellsD (objV (dropKs key v.keys) (dropVs key v.keys v.kids)).cells)) [] := fun hk => by
    obtain ⟨_, q2, q3⟩ := hko hk
    refine FunQ.pubG (l1Object_fn _ _ (dropVs_length _ _ _ q2).symm (incr_filter _ q3) ?_ fun w hw => ?_)
    · have : (dropKs key v.keys).length ≤ v.keys.length := List.length_filter_le _ _
      omega
    · have := V.counts_ge _ (dropVs_mem _ _ _ w hw)
      omega
  obtain ⟨r1, e1⟩ := V.cells_cons v
  unfold dropO2 dropO
  rw [e1] at p1 p2 hv ⊢
  generalize (objV (dropKs key v.keys) (dropVs key v.keys v.kids)) = ov at a1 ⊢
  generalize v.kind = vk at *
  generalize v.num = vn at *
  generalize v.text = vt at *
  generalize v.kids = vd at *
  have hl1 : 1 ≤ ((⟨vk, vn, vt, noS, (vd.length : Int)⟩ :: r1 : List Cell)).length := by simp
  have hg : ((⟨vk, vn, vt, noS, (vd.length : Int)⟩ :: r1 : List Cell).getD (Int.toNat 0) default) = ⟨vk, vn, vt, noS, (vd.length : Int)⟩ := rfl
  refine Fun.intro Try.func63 rfl (by kernel_rfl) rfl ?_
  repeat' (first | refine W.seq ?_ | refine W.rg ?_ | refine W.dra' ?_ | refine W.block ?_ | refine W.skip ?_ | refine W.exit ?_ | refine W.cond_true' ?_ | refine W.cond_false' ?_ | refine WG.nil ?_ | refine WG.run' (E := env) ?_ | refine WG.gt' ?_ | refine WG.gf' ?_ | refine WG.ixm' (E := env) ?_ | refine WG.ixo' (E := env) ?_ | refine WG.legm' (E := env) ?_ | refine WG.slS' (E := env) ?_ | refine WG.slD' (E := env) ?_ | refine WG.ap' (E := env) ?_ | refine WD.nil ?_ | refine WD.bs' (E := env) ?_ | refine WD.s' (E := env) (t := .d _) ?_ | refine WD.p' ?_ | refine WD.px' ?_ | refine WD.s' (E := env) (t := .ea _ _) ?_ | refine WD.s' (E := env) (t := .lp _ _) ?_ | refine WD.s' (E := env) (t := .og _ _) ?_ | refine WD.s' (E := env) (t := .agg _) ?_ | refine WD.s' (E := env) (t := .tup _) ?_ | refine WD.s' (E := env) (t := .clo _ _) ?_ | refine WD.ixm' (E := env) ?_ | refine WD.ixo' (E := env) ?_ | refine WD.legm' (E := env) ?_ | refine WD.slS' (E := env) ?_ | refine WD.slD' (E := env) ?_ | refine WG.c (E := env) rfl rfl (hv) rfl rfl ?_ | refine WD.c (E := env) rfl rfl (hv) rfl rfl ?_ | refine WG.co (E := env) rfl rfl (hv) rfl rfl rfl rfl ?_ | refine WG.cx (E := env) rfl (hv) rfl ?_ | refine WG.c (E := env) rfl rfl (h3) rfl rfl ?_ | refine WD.c (E := env) rfl rfl (h3) rfl rfl ?_ | refine WG.co (E := env) rfl rfl (h3) rfl rfl rfl rfl ?_ | refine WG.cx (E := env) rfl (h3) rfl ?_ | refine WG.c (E := env) rfl rfl (l3Null_fn) rfl rfl ?_ | refine WD.c (E := env) rfl rfl (l3Null_fn) rfl rfl ?_ | refine WG.co (E := env) rfl rfl (l3Null_fn) rfl rfl rfl rfl ?_ | refine WG.cx (E := env) rfl (l3Null_fn) rfl ?_ | refine WG.c (E := env) rfl rfl (l3Bad_fn 5) rfl rfl ?_ | refine WD.c (E := env) rfl rfl (l3Bad_fn 5) rfl rfl ?_ | refine WG.co (E := env) rfl rfl (l3Bad_fn 5) rfl rfl rfl rfl ?_ | refine WG.cx (E := env) rfl (l3Bad_fn 5) rfl ?_ | refine WG.c (E := env) rfl rfl (l3Bad_fn 6) rfl rfl ?_ | refine WD.c (E := env) rfl rfl (l3Bad_fn 6) rfl rfl ?_ | refine WG.co (E := env) rfl rfl (l3Bad_fn 6) rfl rfl rfl rfl ?_ | refine WG.cx (E := env) rfl (l3Bad_fn 6) rfl ?_ | refine WG.c (E := env) rfl rfl (p1) rfl rfl ?_ | refine WD.c (E := env) rfl rfl (p1) rfl rfl ?_ | refine WG.co (E := env) rfl rfl (p1) rfl rfl rfl rfl ?_ | refine WG.cx (E := env) rfl (p1) rfl ?_ | refine WG.c (E := env) rfl rfl (p2) rfl rfl ?_ | refine WD.c (E := env) rfl rfl (p2) rfl rfl ?_ | refine WG.co (E := env) rfl rfl (p2) rfl rfl rfl rfl ?_ | refine WG.cx (E := env) rfl (p2) rfl ?_ | ((first | refine WG.sp' (fun h => ?_) fun h => ?_ | refine W.cond' (fun h => ?_) fun h => ?_ | refine WD.sp' (fun h => ?_) fun h => ?_) <;> (try simp only [decide_eq_true_eq, decide_eq_false_iff_not, Bool.not_eq_true', Bool.not_eq_false', Bool.and_eq_true, Bool.or_eq_true, Bool.and_eq_false_iff, Bool.or_eq_false_iff, Bool.not_eq_true, Bool.not_eq_false, Int.not_lt, Int.not_le, List.length_map, beq_self_eq_true, Bool.true_eq_false, Bool.false_eq_true] at h) <;> (try (exfalso; first | contradiction | omega))))
  all_goals (simp only [hg] at *)
  · rw [if_neg (by simp [*])]
    (refine W.ret ?_; (first | refine RetQ.b' ?_ | refine RetQ.i' ?_ | refine RetQ.d' ?_ | refine RetQ.t2' ?_ ?_ | refine RetQ.t3' ?_ ?_ ?_))
    rfl
  · rw [if_pos (by assumption), if_pos (by assumption)]
    (refine W.ret ?_; (first | refine RetQ.b' ?_ | refine RetQ.i' ?_ | refine RetQ.d' ?_ | refine RetQ.t2' ?_ ?_ | refine RetQ.t3' ?_ ?_ ?_))
    rfl
  · rw [if_pos (by assumption), if_neg (by assumption), if_pos (by assumption)]
    (refine W.ret ?_; (first | refine RetQ.b' ?_ | refine RetQ.i' ?_ | refine RetQ.d' ?_ | refine RetQ.t2' ?_ ?_ | refine RetQ.t3' ?_ ?_ ?_))
    rfl
  have h6 : vk = 6 := by omega
  rw [if_pos (by assumption), if_neg (by assumption), if_neg (by omega)]
  obtain ⟨q1, q2, q3⟩ := hko h6
  have a2 := a1 h6
  rw [q1]
  generalize v.keys = ks at *
  refine W.loopI (fun m S => ∃ (i : Nat) (rk rx : List (List D)), m = ks.length - i ∧ (i ≤ ks.length ∧ rk.length ≤ i ∧ rx.length ≤ i ∧ rk = (dropKs key (ks.take i)).map keyRow ∧ rx = (dropVs key (ks.take i) (vd.take i)).map partR) ∧
    S = ⟨ofL [(1, .d (dS key)), (4, .lp 0 0), (6, .og 1 0), (7, .og 2 0), (8, .d (.sl 1 (ks.map keyRow))), (9, .d (.sl 1 (vd.map partR))), (10, vI .i64 i)],
      [.pv [.d (dI 0), .d (.nl 5)], .gr 1 9 rk 0 false, .gr 1 28 rx 0 false]⟩) _ _ ⟨0, [], [], rfl, ⟨by omega, by simp, by simp, rfl, rfl⟩, rfl⟩ (St.imp.of_le (by (refine le_ofL rfl ?_ ?_ <;> (repeat (first | exact trivial | refine ⟨⟨rfl, rfl⟩, ?_⟩ | refine ⟨rfl, .inl rfl, ?_⟩ | refine ⟨rfl, .inr rfl, ?_⟩))))) ?_
  rintro m S ⟨i, rk, rx, rfl, ⟨hi, hrk, hrx, ek, ex⟩, rfl⟩
  by_cases hlt : i < ks.length
  · have e0 : dropKs key (ks.take (i + 1)) = dropKs key (ks.take i) ++ if ks.getD i default = key then [] else [ks.getD i default] := by rw [take_step hlt, dropKs_app]
    have e1 : dropVs key (ks.take (i + 1)) (vd.take (i + 1)) = dropVs key (ks.take i) (vd.take i) ++ if ks.getD i default = key then [] else [vd.getD i default] := by
      rw [take_step hlt, take_step (l := vd) (by omega), dropVs_app _ _ _ _ _ (by simp; omega)]
    repeat' (first | refine W.seq ?_ | refine W.rg ?_ | refine W.dra' ?_ | refine W.block ?_ | refine W.skip ?_ | refine W.exit ?_ | refine W.cond_true' ?_ | refine W.cond_false' ?_ | refine WG.nil ?_ | refine WG.run' (E := env) ?_ | refine WG.gt' ?_ | refine WG.gf' ?_ | refine WG.ixm' (E := env) ?_ | refine WG.ixo' (E := env) ?_ | refine WG.legm' (E := env) ?_ | refine WG.slS' (E := env) ?_ | refine WG.slD' (E := env) ?_ | refine WG.ap' (E := env) ?_ | refine WD.nil ?_ | refine WD.bs' (E := env) ?_ | refine WD.s' (E := env) (t := .d _) ?_ | refine WD.p' ?_ | refine WD.px' ?_ | refine WD.s' (E := env) (t := .ea _ _) ?_ | refine WD.s' (E := env) (t := .lp _ _) ?_ | refine WD.s' (E := env) (t := .og _ _) ?_ | refine WD.s' (E := env) (t := .agg _) ?_ | refine WD.s' (E := env) (t := .tup _) ?_ | refine WD.s' (E := env) (t := .clo _ _) ?_ | refine WD.ixm' (E := env) ?_ | refine WD.ixo' (E := env) ?_ | refine WD.legm' (E := env) ?_ | refine WD.slS' (E := env) ?_ | refine WD.slD' (E := env) ?_ | ((first | refine WG.sp' (fun h => ?_) fun h => ?_ | refine W.cond' (fun h => ?_) fun h => ?_ | refine WD.sp' (fun h => ?_) fun h => ?_) <;> (try simp only [decide_eq_true_eq, decide_eq_false_iff_not, Bool.not_eq_true', Bool.not_eq_false', Bool.and_eq_true, Bool.or_eq_true, Bool.and_eq_false_iff, Bool.or_eq_false_iff, Bool.not_eq_true, Bool.not_eq_false, Int.not_lt, Int.not_le, List.length_map, beq_self_eq_true, Bool.true_eq_false, Bool.false_eq_true] at h) <;> (try (exfalso; first | contradiction | omega))))
    · refine ⟨_, _, by omega, ⟨i + 1, rk ++ [keyRow (ks.getD (Int.toNat (i : Int)) default)], rx ++ [partR (vd.getD (Int.toNat (i : Int)) default)], rfl, ⟨by omega, by simp; omega, by simp; omega, ?_, ?_⟩, rfl⟩, (St.imp.rev 1 1 rfl).trans ((St.imp.rev 2 1 rfl).trans (St.imp.of_le (by (refine le_ofL rfl ?_ ?_ <;> (repeat (first | exact trivial | refine ⟨⟨rfl, rfl⟩, ?_⟩ | refine ⟨rfl, .inl rfl, ?_⟩ | refine ⟨rfl, .inr rfl, ?_⟩))))))⟩
      · (try simp only [Int.toNat_natCast, Int.toNat_zero, toNat_cc, toNat_c1, toNat_cm1, toNat_cm] at *)
        rw [e0, if_neg (by assumption), List.map_append, ← ek]
        rfl
      · (try simp only [Int.toNat_natCast, Int.toNat_zero, toNat_cc, toNat_c1, toNat_cm1, toNat_cm] at *)
        rw [e1, if_neg (by assumption), List.map_append, ← ex]
        rfl
    · refine ⟨_, _, by omega, ⟨i + 1, rk, rx, rfl, ⟨by omega, by omega, by omega, ?_, ?_⟩, rfl⟩, (St.imp.of_le (by (refine le_ofL rfl ?_ ?_ <;> (repeat (first | exact trivial | refine ⟨⟨rfl, rfl⟩, ?_⟩ | refine ⟨rfl, .inl rfl, ?_⟩ | refine ⟨rfl, .inr rfl, ?_⟩)))))⟩
      · (try simp only [Int.toNat_natCast, Int.toNat_zero, toNat_cc, toNat_c1, toNat_cm1, toNat_cm] at *)
        rw [e0, if_pos (by assumption), List.append_nil, ← ek]
      · (try simp only [Int.toNat_natCast, Int.toNat_zero, toNat_cc, toNat_c1, toNat_cm1, toNat_cm] at *)
        rw [e1, if_pos (by assumption), List.append_nil, ← ex]
  · obtain rfl : i = ks.length := by omega
    rw [List.take_length] at ek ex
    rw [List.take_of_length_le (by omega)] at ex
    subst ek ex
    refine W.pub 1 rfl ?_
    refine W.pub 2 rfl ?_
    repeat' (first | refine W.seq ?_ | refine W.rg ?_ | refine W.dra' ?_ | refine W.block ?_ | refine W.skip ?_ | refine W.exit ?_ | refine W.cond_true' ?_ | refine W.cond_false' ?_ | refine WG.nil ?_ | refine WG.run' (E := env) ?_ | refine WG.gt' ?_ | refine WG.gf' ?_ | refine WG.ixm' (E := env) ?_ | refine WG.ixo' (E := env) ?_ | refine WG.legm' (E := env) ?_ | refine WG.slS' (E := env) ?_ | refine WG.slD' (E := env) ?_ | refine WG.ap' (E := env) ?_ | refine WD.nil ?_ | refine WD.bs' (E := env) ?_ | refine WD.s' (E := env) (t := .d _) ?_ | refine WD.p' ?_ | refine WD.px' ?_ | refine WD.s' (E := env) (t := .ea _ _) ?_ | refine WD.s' (E := env) (t := .lp _ _) ?_ | refine WD.s' (E := env) (t := .og _ _) ?_ | refine WD.s' (E := env) (t := .agg _) ?_ | refine WD.s' (E := env) (t := .tup _) ?_ | refine WD.s' (E := env) (t := .clo _ _) ?_ | refine WD.ixm' (E := env) ?_ | refine WD.ixo' (E := env) ?_ | refine WD.legm' (E := env) ?_ | refine WD.slS' (E := env) ?_ | refine WD.slD' (E := env) ?_ | refine WG.c (E := env) rfl rfl (a2) rfl rfl ?_ | refine WD.c (E := env) rfl rfl (a2) rfl rfl ?_ | refine WG.co (E := env) rfl rfl (a2) rfl rfl rfl rfl ?_ | refine WG.cx (E := env) rfl (a2) rfl ?_ | ((first | refine WG.sp' (fun h => ?_) fun h => ?_ | refine W.cond' (fun h => ?_) fun h => ?_ | refine WD.sp' (fun h => ?_) fun h => ?_) <;> (try simp only [decide_eq_true_eq, decide_eq_false_iff_not, Bool.not_eq_true', Bool.not_eq_false', Bool.and_eq_true, Bool.or_eq_true, Bool.and_eq_false_iff, Bool.or_eq_false_iff, Bool.not_eq_true, Bool.not_eq_false, Int.not_lt, Int.not_le, List.length_map, beq_self_eq_true, Bool.true_eq_false, Bool.false_eq_true] at h) <;> (try (exfalso; first | contradiction | omega))))
    (refine W.ret ?_; (first | refine RetQ.b' ?_ | refine RetQ.i' ?_ | refine RetQ.d' ?_ | refine RetQ.t2' ?_ ?_ | refine RetQ.t3' ?_ ?_ ?_))
    rfl

set_option maxHeartbeats 1000000 in
theorem DropKeyS_fn (cs : List Cell) (hf : fitsC cs) (key : ByteArray) (hs : key.size ≤ 1048576) : Fun env.P 63 [cellsD cs, dS key] (.d (resD (oneCode cs (dropO2 (valOfM cs).1 key).1) (oneCells cs (dropO2 (valOfM cs).1 key).1 (dropO2 (valOfM cs).1 key).2))) [] := by
  have h1 := ValueFaultS_fn cs hf.1 hf.2
  unfold oneCode oneCells
  by_cases h0 : (valOfM cs).2 = 0
  · obtain ⟨f1, e1⟩ := valOfM_fine h0
    rw [h0] at h1
    rw [if_pos h0, if_pos h0]
    have h2 := dropS_fn _ f1 key hs (by rw [← e1]; exact h1)
    rw [← e1] at h2
    exact h2
  · rw [if_neg h0, if_neg h0]
    have h2 := l3Bad_fn (valOfM cs).2
    generalize (valOfM cs).2 = c at h0 h1 h2 ⊢
    refine Fun.intro Try.func63 rfl (by kernel_rfl) rfl ?_
    repeat' (first | refine W.seq ?_ | refine W.rg ?_ | refine W.dra' ?_ | refine W.block ?_ | refine W.skip ?_ | refine W.exit ?_ | refine W.cond_true' ?_ | refine W.cond_false' ?_ | refine WG.nil ?_ | refine WG.run' (E := env) ?_ | refine WG.gt' ?_ | refine WG.gf' ?_ | refine WG.ixm' (E := env) ?_ | refine WG.ixo' (E := env) ?_ | refine WG.legm' (E := env) ?_ | refine WG.slS' (E := env) ?_ | refine WG.slD' (E := env) ?_ | refine WG.ap' (E := env) ?_ | refine WD.nil ?_ | refine WD.bs' (E := env) ?_ | refine WD.s' (E := env) (t := .d _) ?_ | refine WD.p' ?_ | refine WD.px' ?_ | refine WD.s' (E := env) (t := .ea _ _) ?_ | refine WD.s' (E := env) (t := .lp _ _) ?_ | refine WD.s' (E := env) (t := .og _ _) ?_ | refine WD.s' (E := env) (t := .agg _) ?_ | refine WD.s' (E := env) (t := .tup _) ?_ | refine WD.s' (E := env) (t := .clo _ _) ?_ | refine WD.ixm' (E := env) ?_ | refine WD.ixo' (E := env) ?_ | refine WD.legm' (E := env) ?_ | refine WD.slS' (E := env) ?_ | refine WD.slD' (E := env) ?_ | refine WG.c (E := env) rfl rfl (h1) rfl rfl ?_ | refine WD.c (E := env) rfl rfl (h1) rfl rfl ?_ | refine WG.co (E := env) rfl rfl (h1) rfl rfl rfl rfl ?_ | refine WG.cx (E := env) rfl (h1) rfl ?_ | refine WG.c (E := env) rfl rfl (h2) rfl rfl ?_ | refine WD.c (E := env) rfl rfl (h2) rfl rfl ?_ | refine WG.co (E := env) rfl rfl (h2) rfl rfl rfl rfl ?_ | refine WG.cx (E := env) rfl (h2) rfl ?_ | ((first | refine WG.sp' (fun h => ?_) fun h => ?_ | refine W.cond' (fun h => ?_) fun h => ?_ | refine WD.sp' (fun h => ?_) fun h => ?_) <;> (try simp only [decide_eq_true_eq, decide_eq_false_iff_not, Bool.not_eq_true', Bool.not_eq_false', Bool.and_eq_true, Bool.or_eq_true, Bool.and_eq_false_iff, Bool.or_eq_false_iff, Bool.not_eq_true, Bool.not_eq_false, Int.not_lt, Int.not_le, List.length_map, beq_self_eq_true, Bool.true_eq_false, Bool.false_eq_true] at h) <;> (try (exfalso; first | contradiction | omega))))
    all_goals first | ((refine W.ret ?_; (first | refine RetQ.b' ?_ | refine RetQ.i' ?_ | refine RetQ.d' ?_ | refine RetQ.t2' ?_ ?_ | refine RetQ.t3' ?_ ?_ ?_)); rfl; done) | exact absurd (by assumption) h0

set_option maxHeartbeats 1000000 in
theorem dropKeyC_fn (v : V) (h : v.fine) (key : ByteArray) (hs : key.size ≤ 1048576) : FunQ env.P 130 [.d (.agg v.rowP), .lp 0 0] [.pv [.d (dS key)]] (just (.d (outD (dropO2 v key).1 (dropO2 v key).2)) [.pv [.d (dS key)]]) := by
  have h1 := dropKeyP_fn v h key hs
  generalize (dropO2 v key).2 = w at h1 ⊢
  generalize (dropO2 v key).1 = c at h1 ⊢
  refine FunQ.intro Try.func130 rfl (by kernel_rfl) rfl ?_
  repeat' (first | refine W.seq ?_ | refine W.rg ?_ | refine W.dra' ?_ | refine W.block ?_ | refine W.skip ?_ | refine W.exit ?_ | refine W.cond_true' ?_ | refine W.cond_false' ?_ | refine WG.nil ?_ | refine WG.run' (E := env) ?_ | refine WG.gt' ?_ | refine WG.gf' ?_ | refine WG.ixm' (E := env) ?_ | refine WG.ixo' (E := env) ?_ | refine WG.legm' (E := env) ?_ | refine WG.slS' (E := env) ?_ | refine WG.slD' (E := env) ?_ | refine WG.ap' (E := env) ?_ | refine WD.nil ?_ | refine WD.bs' (E := env) ?_ | refine WD.s' (E := env) (t := .d _) ?_ | refine WD.p' ?_ | refine WD.px' ?_ | refine WD.s' (E := env) (t := .ea _ _) ?_ | refine WD.s' (E := env) (t := .lp _ _) ?_ | refine WD.s' (E := env) (t := .og _ _) ?_ | refine WD.s' (E := env) (t := .agg _) ?_ | refine WD.s' (E := env) (t := .tup _) ?_ | refine WD.s' (E := env) (t := .clo _ _) ?_ | refine WD.ixm' (E := env) ?_ | refine WD.ixo' (E := env) ?_ | refine WD.legm' (E := env) ?_ | refine WD.slS' (E := env) ?_ | refine WD.slD' (E := env) ?_ | refine WG.c (E := env) rfl rfl (h1) rfl rfl ?_ | refine WD.c (E := env) rfl rfl (h1) rfl rfl ?_ | refine WG.co (E := env) rfl rfl (h1) rfl rfl rfl rfl ?_ | refine WG.cx (E := env) rfl (h1) rfl ?_ | ((first | refine WG.sp' (fun h => ?_) fun h => ?_ | refine W.cond' (fun h => ?_) fun h => ?_ | refine WD.sp' (fun h => ?_) fun h => ?_) <;> (try simp only [decide_eq_true_eq, decide_eq_false_iff_not, Bool.not_eq_true', Bool.not_eq_false', Bool.and_eq_true, Bool.or_eq_true, Bool.and_eq_false_iff, Bool.or_eq_false_iff, Bool.not_eq_true, Bool.not_eq_false, Int.not_lt, Int.not_le, List.length_map, beq_self_eq_true, Bool.true_eq_false, Bool.false_eq_true] at h) <;> (try (exfalso; first | contradiction | omega))))
  refine W.ret ?_
  exact RetR.own (ob' := [.pv [.d (dS key)]]) ⟨[0], [0], 3⟩ (.inl rfl) rfl (by first | trivial | exact resOK_of (E := env) rfl) rfl rfl rfl rfl rfl rfl ⟨rfl, trivial⟩ rfl ⟨rfl, rfl⟩

set_option maxHeartbeats 1000000 in
theorem DropKey_fn (cs : List Cell) (hf : fitsC cs) (key : ByteArray) (hs : key.size ≤ 1048576) : Fun env.P 64 [cellsD cs, dS key] (.agg [vI .i64 (oneCode cs (dropO2 (valOfM cs).1 key).1), .og 0 0]) [.gr 5 75 ((oneCells cs (dropO2 (valOfM cs).1 key).1 (dropO2 (valOfM cs).1 key).2).map Cell.row) 0 false] := by
  have h1 := ofOneC_fn (f := 130) (dS key) cs hf (dropO2 (valOfM cs).1 key).1 (dropO2 (valOfM cs).1 key).2 (fun h0 => dropKeyC_fn _ (valOfM_fine h0).1 key hs) (oneOK fun h0 => dropO2_fine (valOfM_fine h0).1 key)
  generalize oneCode cs (dropO2 (valOfM cs).1 key).1 = code at h1 ⊢
  generalize oneCells cs (dropO2 (valOfM cs).1 key).1 (dropO2 (valOfM cs).1 key).2 = rs at h1 ⊢
  refine Fun.intro Try.func64 rfl (by kernel_rfl) rfl ?_
  repeat' (first | refine W.seq ?_ | refine W.rg ?_ | refine W.dra' ?_ | refine W.block ?_ | refine W.skip ?_ | refine W.exit ?_ | refine W.cond_true' ?_ | refine W.cond_false' ?_ | refine WG.nil ?_ | refine WG.run' (E := env) ?_ | refine WG.gt' ?_ | refine WG.gf' ?_ | refine WG.ixm' (E := env) ?_ | refine WG.ixo' (E := env) ?_ | refine WG.legm' (E := env) ?_ | refine WG.slS' (E := env) ?_ | refine WG.slD' (E := env) ?_ | refine WG.ap' (E := env) ?_ | refine WD.nil ?_ | refine WD.bs' (E := env) ?_ | refine WD.s' (E := env) (t := .d _) ?_ | refine WD.p' ?_ | refine WD.px' ?_ | refine WD.s' (E := env) (t := .ea _ _) ?_ | refine WD.s' (E := env) (t := .lp _ _) ?_ | refine WD.s' (E := env) (t := .og _ _) ?_ | refine WD.s' (E := env) (t := .agg _) ?_ | refine WD.s' (E := env) (t := .tup _) ?_ | refine WD.s' (E := env) (t := .clo _ _) ?_ | refine WD.ixm' (E := env) ?_ | refine WD.ixo' (E := env) ?_ | refine WD.legm' (E := env) ?_ | refine WD.slS' (E := env) ?_ | refine WD.slD' (E := env) ?_ | ((first | refine WG.sp' (fun h => ?_) fun h => ?_ | refine W.cond' (fun h => ?_) fun h => ?_ | refine WD.sp' (fun h => ?_) fun h => ?_) <;> (try simp only [decide_eq_true_eq, decide_eq_false_iff_not, Bool.not_eq_true', Bool.not_eq_false', Bool.and_eq_true, Bool.or_eq_true, Bool.and_eq_false_iff, Bool.or_eq_false_iff, Bool.not_eq_true, Bool.not_eq_false, Int.not_lt, Int.not_le, List.length_map, beq_self_eq_true, Bool.true_eq_false, Bool.false_eq_true] at h) <;> (try (exfalso; first | contradiction | omega))))
  refine WG.cq (E := env) (K := 2) (t' := .agg [vI .i64 code, .og 2 0]) (ob2 := [.pv [.d (dS key)], .pv [.d (dI 0), .d (.nl 5)], .gr 5 75 (rs.map Cell.row) 0 false]) [0] [0] false rfl rfl h1 rfl rfl rfl rfl rfl rfl rfl ⟨rfl, trivial⟩ (.inl rfl) rfl (fun h => nomatch h) rfl rfl ?_
  repeat' (first | refine W.seq ?_ | refine W.rg ?_ | refine W.dra' ?_ | refine W.block ?_ | refine W.skip ?_ | refine W.exit ?_ | refine W.cond_true' ?_ | refine W.cond_false' ?_ | refine WG.nil ?_ | refine WG.run' (E := env) ?_ | refine WG.gt' ?_ | refine WG.gf' ?_ | refine WG.ixm' (E := env) ?_ | refine WG.ixo' (E := env) ?_ | refine WG.legm' (E := env) ?_ | refine WG.slS' (E := env) ?_ | refine WG.slD' (E := env) ?_ | refine WG.ap' (E := env) ?_ | refine WD.nil ?_ | refine WD.bs' (E := env) ?_ | refine WD.s' (E := env) (t := .d _) ?_ | refine WD.p' ?_ | refine WD.px' ?_ | refine WD.s' (E := env) (t := .ea _ _) ?_ | refine WD.s' (E := env) (t := .lp _ _) ?_ | refine WD.s' (E := env) (t := .og _ _) ?_ | refine WD.s' (E := env) (t := .agg _) ?_ | refine WD.s' (E := env) (t := .tup _) ?_ | refine WD.s' (E := env) (t := .clo _ _) ?_ | refine WD.ixm' (E := env) ?_ | refine WD.ixo' (E := env) ?_ | refine WD.legm' (E := env) ?_ | refine WD.slS' (E := env) ?_ | refine WD.slD' (E := env) ?_ | ((first | refine WG.sp' (fun h => ?_) fun h => ?_ | refine W.cond' (fun h => ?_) fun h => ?_ | refine WD.sp' (fun h => ?_) fun h => ?_) <;> (try simp only [decide_eq_true_eq, decide_eq_false_iff_not, Bool.not_eq_true', Bool.not_eq_false', Bool.and_eq_true, Bool.or_eq_true, Bool.and_eq_false_iff, Bool.or_eq_false_iff, Bool.not_eq_true, Bool.not_eq_false, Int.not_lt, Int.not_le, List.length_map, beq_self_eq_true, Bool.true_eq_false, Bool.false_eq_true] at h) <;> (try (exfalso; first | contradiction | omega))))
  (refine W.ret ?_; first | refine RetR.g' ?_ | refine RetR.ag' ?_ ?_ | refine RetR.agn' ?_ | exact RetR.gn' | refine RetR.ag3' ?_ ?_ ?_ | refine RetR.agn3' ?_ ?_)
  all_goals rfl

theorem DropKey_both (cs : List Cell) (key : ByteArray) (hf : fitsC cs) (hs : key.size ≤ 1048576) : ∃ (code : Int) (rs : List Cell), rs.length ≤ 1048576 ∧ Fun env.P 64 [cellsD cs, dS key] (.agg [vI .i64 code, .og 0 0]) [.gr 5 75 (rs.map Cell.row) 0 false] ∧
    Fun env.P 63 [cellsD cs, dS key] (.d (.agg [dI code, .sl 5 (rs.map Cell.row)])) [] :=
  ⟨_, _, oneCells_len cs _ fun h0 => dropO2_fine (valOfM_fine h0).1 key, DropKey_fn cs hf key hs, DropKeyS_fn cs hf key hs⟩

end Go.Proofs.Ythfmgmdabgcceaa
