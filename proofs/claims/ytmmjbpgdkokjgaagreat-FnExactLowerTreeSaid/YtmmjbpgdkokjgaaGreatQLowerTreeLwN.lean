/-
  A node of a tree that becomes one node of a core, by the program. Conditions: at most 5000 nodes.
-/
import Derived.Test.YtmmjbpgdkokjgaaGreatQLowerTreeLwM
import Derived.Test.YtmmjbpgdkokjgaaGreatQLowerTreeTr6
set_option linter.unusedVariables false
set_option linter.unusedSimpArgs false
set_option maxRecDepth 100000
namespace Go.Proofs.YtmmjbpgdkokjgaaGreat
open Go.RowKit

set_option maxHeartbeats 2000000 in
theorem plainM_fn (op : Int) : Fun env.P 37 [dI op] (.d (dI (plainM op))) [] := by
  refine Fun.intro Tryz.func37 rfl (by kernel_rfl) rfl ?_
  repeat' (first | refine W.seq ?_ | refine W.rg ?_ | refine W.block ?_ | refine W.skip ?_ | refine WG.nil ?_ | refine WG.run' (E := env) ?_ | ((refine W.cond' (fun h => ?_) fun h => ?_) <;> (try simp only [atS, List.length_map, beq_self_eq_true] at h) <;> (try (exfalso; first | contradiction | omega))))
  all_goals (refine W.ret ?_; (first | refine RetQ.i' ?_))
  all_goals simp [plainM, *]

theorem textLw_fn (s : ByteArray) : Fun env.P 43 [dS s] (.d (.agg (V.mk 4 0 s [] []).rowP)) [] := by
  refine Fun.intro Tryz.func43 rfl (by kernel_rfl) rfl ?_
  repeat' (first | refine W.seq ?_ | refine W.rg ?_ | refine WG.nil ?_ | refine WG.run' (E := env) ?_)
  (refine W.ret ?_; (first | refine RetQ.d' ?_))
  rfl

theorem sizeNm_fn (names : List ByteArray) : Fun env.P 75 [namesD names] (.d (dI names.length)) [] := by
  have hl : (names.map txtRow).length = names.length := by simp
  refine Fun.intro Tryz.func75 rfl (by kernel_rfl) rfl ?_
  repeat' (first | refine W.seq ?_ | refine W.rg ?_ | refine WG.nil ?_ | refine WG.run' (E := env) ?_)
  (refine W.ret ?_; (first | refine RetQ.i' ?_))
  rw [hl]

theorem cellsTxt_fn (t : ByteArray) (h : okText t = true) : Fun env.P 76 [.agg (V.mk 4 0 t [] []).rowP] (.og 0 0) [.gr 5 93 ((cellT t).map Cell.row) 0 false] :=
  cellsP_fn 1 (V.mk 4 0 t [] []) (by simp [V.count, V.counts]) (by omega) ⟨⟨by decide, by decide⟩, fun h => absurd rfl h, fun _ => rfl, fun h => absurd rfl h, by decide, h, fun h => absurd h (by decide), fun _ => rfl, (fun _ h => by cases h), trivial, trivial⟩
theorem cellsNum_fn (n : Int) (h : 0 ≤ n ∧ n ≤ 1000000000000000) : Fun env.P 76 [.agg (V.mk 3 n noS [] []).rowP] (.og 0 0) [.gr 5 93 ((cellN n).map Cell.row) 0 false] :=
  cellsP_fn 1 (V.mk 3 n noS [] []) (by simp [V.count, V.counts]) (by omega) ⟨⟨by decide, by decide⟩, fun _ => rfl, fun h => absurd rfl h, fun h => absurd rfl h, by omega, rfl, fun h => absurd h (by decide), fun _ => rfl, (fun _ h => by cases h), trivial, trivial⟩

/-- A node with its parts is put. -/
def PutP (ns : List Nd) (L : List Co) (kids : List Pt) (op a b c : Int) (L' : List Co) (w : Nat) : Prop :=
  ∀ (num : Int) (val : List Cell), FunQ env.P 77 (putA op a b c num) (putO ns L' val) (just (.d (dI (plc ((Pt.mk ⟨op, 0, 0, 0, num, val⟩ kids).on L)))) (loI ns ((Pt.mk ⟨op, 0, 0, 0, num, val⟩ kids).on L) 1 ++ [.dead])) ∧ (Pt.mk ⟨op, 0, 0, 0, num, val⟩ kids).count = w + 1

set_option maxHeartbeats 16000000 in
theorem plainI_fn {ns : List Nd} {n : Nd} {names : List ByteArray} {A B C : List ByteArray → Pt} {ca cb cc : Nat} (hA : 1 ≤ arN n.op → GoI ns n.a A ca) (hB : 2 ≤ arN n.op → GoI ns n.b B cb) (hC : 3 ≤ arN n.op → GoI ns n.c C cc) (htx : n.op = 17 → okText n.text = true) (L : List Co)
    (hnl : names.length + ((if 1 ≤ arN n.op then ca else 0) + (if 2 ≤ arN n.op then cb else 0) + (if 3 ≤ arN n.op then cc else 0) + 1) ≤ 10000) (hl : L.length + 5 * ((if 1 ≤ arN n.op then ca else 0) + (if 2 ≤ arN n.op then cb else 0) + (if 3 ≤ arN n.op then cc else 0) + 1) ≤ 5000) :
    FunQ env.P 38 [.lp 0 0, .d (dI (plainM n.op)), .d (.agg n.row), .d (namesD names)] (loI ns L 0)
      (just (.d (dI (plc ((Pt.mk (plainN n names) ([A (inT n 0 names), B (inT n 1 names), C (inT n 2 names)].take (arN n.op))).on L)))) (loI ns ((Pt.mk (plainN n names) ([A (inT n 0 names), B (inT n 1 names), C (inT n 2 names)].take (arN n.op))).on L) (Pt.mk (plainN n names) ([A (inT n 0 names), B (inT n 1 names), C (inT n 2 names)].take (arN n.op))).count)) := by
  have hr3 := arN_le n.op
  have hnm := named_fn n
  have hlen := named_length n
  have hlm : (n.named.map intRow).length = n.named.length := by simp
  have hnd : n.named = [n.a, n.b, n.c].take (arN n.op) := rfl
  have hsz := sizeNm_fn names
  have htp := textLw_fn n.text
  have hcl := cloneNs_fn names (by omega)
  have hi0 : inT n 0 names = names := by unfold inT; rw [if_neg (by omega)]
  have hi1 : n.op = 20 → inT n 1 names = names ++ [n.text] := fun h => by unfold inT; rw [if_pos (.inl ⟨h, rfl⟩)]
  have hj1 : n.op ≠ 20 → inT n 1 names = names := fun h => by unfold inT; rw [if_neg (by omega)]
  have hi2 : n.op = 19 → inT n 2 names = names ++ [n.text] := fun h => by unfold inT; rw [if_pos (.inr ⟨h, rfl⟩)]
  have hj2 : n.op ≠ 19 → inT n 2 names = names := fun h => by unfold inT; rw [if_neg (by omega)]
  have hin : ∀ i, (inT n i names).length ≤ names.length + 1 := fun i => by unfold inT; split <;> simp
  have hN : plainN n names = ⟨plainM n.op, 0, 0, 0, if n.op = 10 then n.num else if n.op = 19 ∨ n.op = 20 then names.length else if n.op = 21 then slotM names n.text else 0, if n.op = 17 then cellT n.text else []⟩ := rfl
  have hbs : (.sl 1 (names.map txtRow ++ [[dS n.text]]) : D) = namesD (names ++ [n.text]) := by simp [namesD]
  rw [hN]
  clear hN
  generalize hnum : (if n.op = 10 then n.num else if n.op = 19 ∨ n.op = 20 then (names.length : Int) else if n.op = 21 then slotM names n.text else 0) = num
  generalize hval : (if n.op = 17 then cellT n.text else []) = val
  replace hnum := hnum.symm
  replace hval := hval.symm
  generalize plainM n.op = p at *
  generalize arN n.op = r at *
  generalize n.named = nl at *
  have q0 : 1 ≤ r → nl.getD (Int.toNat 0) default = n.a := fun h => by
    rw [hnd]; obtain ⟨r', rfl⟩ : ∃ r', r = r' + 1 := ⟨r - 1, by omega⟩; rfl
  have q1 : 2 ≤ r → nl.getD (Int.toNat 1) default = n.b := fun h => by
    rw [hnd]; obtain ⟨r', rfl⟩ : ∃ r', r = r' + 2 := ⟨r - 2, by omega⟩; rfl
  have q2 : 3 ≤ r → nl.getD (Int.toNat 2) default = n.c := fun h => by
    rw [hnd]; obtain ⟨r', rfl⟩ : ∃ r', r = r' + 3 := ⟨r - 3, by omega⟩; rfl
  have b0 : L.length + 5 ≤ 5000 := by omega
  have hnb : names.length ≤ 10000 := by omega
  have b1 : 1 ≤ r → names.length + ca + 1 ≤ 10000 ∧ L.length + 5 * ca + 5 ≤ 5000 := fun h => by
    rw [if_pos h] at hnl hl; omega
  have b2 : 2 ≤ r → names.length + ca + cb + 1 ≤ 10000 ∧ L.length + 5 * ca + 5 * cb + 5 ≤ 5000 := fun h => by
    rw [if_pos (show 1 ≤ r by omega), if_pos h] at hnl hl; omega
  have b3 : 3 ≤ r → names.length + ca + cb + cc + 1 ≤ 10000 ∧ L.length + 5 * ca + 5 * cb + 5 * cc + 5 ≤ 5000 := fun h => by
    rw [if_pos (show 1 ≤ r by omega), if_pos (show 2 ≤ r by omega), if_pos h] at hnl hl; omega
  clear hnl hl hnd
  have k0 := hin 0
  have k1 := hin 1
  have k2 := hin 2
  have gA : 1 ≤ r → FunQ env.P 18 [.lp 0 0, .d (dI (nl.getD (Int.toNat 0) default)), .d (namesD (inT n 0 names))] (loI ns L 0) (just (.d (dI (plc ((A (inT n 0 names)).on L)))) (loI ns ((A (inT n 0 names)).on L) (A (inT n 0 names)).count)) ∧ (A (inT n 0 names)).count ≤ 5 * ca := fun h => by
    have g := hA h
    have := b1 h
    rw [q0 h]
    exact ⟨g.2 _ L (by omega) (by omega), g.1 _⟩
  have gB : 2 ≤ r → FunQ env.P 18 [.lp 0 0, .d (dI (nl.getD (Int.toNat 1) default)), .d (namesD (inT n 1 names))] (loI ns ((A (inT n 0 names)).on L) 0) (just (.d (dI (plc ((B (inT n 1 names)).on ((A (inT n 0 names)).on L))))) (loI ns ((B (inT n 1 names)).on ((A (inT n 0 names)).on L)) (B (inT n 1 names)).count)) ∧ (B (inT n 1 names)).count ≤ 5 * cb := fun h => by
    have g := hB h
    have := b2 h
    have := (gA (by omega)).2
    have := Pt.on_length (A (inT n 0 names)) L
    rw [q1 h]
    exact ⟨g.2 _ _ (by omega) (by omega), g.1 _⟩
  have gC : 3 ≤ r → FunQ env.P 18 [.lp 0 0, .d (dI (nl.getD (Int.toNat 2) default)), .d (namesD (inT n 2 names))] (loI ns ((B (inT n 1 names)).on ((A (inT n 0 names)).on L)) 0) (just (.d (dI (plc ((C (inT n 2 names)).on ((B (inT n 1 names)).on ((A (inT n 0 names)).on L)))))) (loI ns ((C (inT n 2 names)).on ((B (inT n 1 names)).on ((A (inT n 0 names)).on L))) (C (inT n 2 names)).count)) ∧ (C (inT n 2 names)).count ≤ 5 * cc := fun h => by
    have g := hC h
    have := b3 h
    have := (gA (by omega)).2
    have := (gB (by omega)).2
    have := Pt.on_length (A (inT n 0 names)) L
    have := Pt.on_length (B (inT n 1 names)) ((A (inT n 0 names)).on L)
    rw [q2 h]
    exact ⟨g.2 _ _ (by omega) (by omega), g.1 _⟩
  clear hA hB hC k0 k1 k2 hin
  rw [hi0] at *
  generalize A names = P0 at *
  generalize B (inT n 1 names) = P1 at *
  generalize C (inT n 2 names) = P2 at *
  have l1 := Pt.on_length P0 L
  have l2 := Pt.on_length P1 (P0.on L)
  have l3 := Pt.on_length P2 (P1.on (P0.on L))
  refine FunQ.intro Tryz.func38 rfl (by kernel_rfl) rfl ?_
  unfold Go.Proofs.YtmmjbpgdkokjgaaGreat.loI
  repeat' (first | refine W.stopAt 1 ?_ | refine W.seq ?_ | refine W.rg ?_ | refine W.block ?_ | refine W.skip ?_ | refine W.exit ?_ | refine W.cond_true' ?_ | refine W.cond_false' ?_ | refine WG.nil ?_ | refine WG.run' (E := env) ?_ | refine WG.gt' ?_ | refine WG.gf' ?_ | refine WG.ixm' (E := env) ?_ | fail | ((first | refine WG.sp' (fun h => ?_) fun h => ?_ | refine W.cond' (fun h => ?_) fun h => ?_) <;> (try simp only [atS, List.length_map, beq_self_eq_true] at h) <;> (try (exfalso; first | contradiction | omega))))
  refine ⟨?_⟩
  refine W.rg ?_
  refine WG.runN (E := env) 2 ?_
  repeat' (first | refine W.stopAt 3 ?_ | refine WG.bsP (E := env) rfl rfl rfl rfl rfl rfl rfl rfl rfl rfl rfl rfl ?_ | refine WG.ixPs (E := env) rfl rfl rfl rfl rfl rfl rfl ⟨by decide, by decide⟩ ?_ | refine W.seq ?_ | refine W.rg ?_ | refine W.block ?_ | refine W.skip ?_ | refine W.exit ?_ | refine W.cond_true' ?_ | refine W.cond_false' ?_ | refine WG.nil ?_ | refine WG.run' (E := env) ?_ | refine WG.gt' ?_ | refine WG.gf' ?_ | refine WG.ixm' (E := env) ?_ | fail | ((first | refine WG.sp' (fun h => ?_) fun h => ?_ | refine W.cond' (fun h => ?_) fun h => ?_) <;> (try simp only [atS, List.length_map, beq_self_eq_true] at h) <;> (try (exfalso; first | contradiction | omega))))
  refine ⟨?_⟩
  refine W.imp (St.imp.of_le (S' := ⟨ofL [(0, .lp 0 0), (3, .d (namesD names)), (6, .lp 2 0), (9, .lp 4 0), (10, .ps 3 3)], [.pv [.d (nodesD ns), .og 1 (0)], .x (neC (L.map coN) none) (0), .pv (n.row.map .d), .pv [.lp 4 1, .lp 4 2, .lp 4 3], .pv [.d (dI p), .d (dI 0), .d (dI 0), .d (dI 0), .d (dI 0), .d (.nl 5)]]⟩) (by (refine le_ofL rfl ?_ ?_ <;> (repeat (first | exact trivial | refine ⟨⟨rfl, rfl⟩, ?_⟩ | refine ⟨rfl, .inl rfl, ?_⟩ | refine ⟨rfl, .inr rfl, ?_⟩))))) ?_
  repeat' (first | refine W.seq ?_ | refine W.rg ?_ | refine W.block ?_ | refine W.skip ?_ | refine W.exit ?_ | refine W.cond_true' ?_ | refine W.cond_false' ?_ | refine WG.nil ?_ | refine WG.run' (E := env) ?_ | refine WG.gt' ?_ | refine WG.gf' ?_ | refine WG.ixm' (E := env) ?_ | refine WG.c (E := env) rfl rfl (hnm) rfl rfl ?_ | ((first | refine WG.sp' (fun h => ?_) fun h => ?_ | refine W.cond' (fun h => ?_) fun h => ?_) <;> (try simp only [atS, List.length_map, beq_self_eq_true] at h) <;> (try (exfalso; first | contradiction | omega))))
  refine W.loopI (fun m S => ∃ i : Nat, m = r - i ∧ i ≤ r ∧ ((i = 0 ∧ S = ⟨ofL [(0, .lp 0 0), (3, .d (namesD names)), (6, .lp 2 0), (9, .lp 4 0), (10, .ps 3 3), (29, .d (.sl 1 (nl.map intRow))), (30, vI .i64 (nl.map intRow).length), (31, vI .i64 0)], [.pv [.d (nodesD ns), .og 1 (0)], .x (neC (L.map coN) none) (0), .pv (n.row.map .d), .pv [.lp 4 1, .lp 4 2, .lp 4 3], .pv [.d (dI p), .d (dI 0), .d (dI 0), .d (dI 0), .d (dI 0), .d (.nl 5)]]⟩) ∨ (i = 1 ∧ S = ⟨ofL [(0, .lp 0 0), (3, .d (namesD names)), (6, .lp 2 0), (9, .lp 4 0), (10, .ps 3 3), (29, .d (.sl 1 (nl.map intRow))), (30, vI .i64 (nl.map intRow).length), (31, vI .i64 1)], [.pv [.d (nodesD ns), .og 1 (0 + P0.count)], .x (neC ((P0.on L).map coN) none) (0 + P0.count), .pv (n.row.map .d), .pv [.lp 4 1, .lp 4 2, .lp 4 3], .pv [.d (dI p), .d (dI (plc (P0.on L))), .d (dI 0), .d (dI 0), .d (dI 0), .d (.nl 5)]]⟩) ∨ (i = 2 ∧ S = ⟨ofL [(0, .lp 0 0), (3, .d (namesD names)), (6, .lp 2 0), (9, .lp 4 0), (10, .ps 3 3), (29, .d (.sl 1 (nl.map intRow))), (30, vI .i64 (nl.map intRow).length), (31, vI .i64 2)], [.pv [.d (nodesD ns), .og 1 (0 + P0.count + P1.count)], .x (neC ((P1.on (P0.on L)).map coN) none) (0 + P0.count + P1.count), .pv (n.row.map .d), .pv [.lp 4 1, .lp 4 2, .lp 4 3], .pv [.d (dI p), .d (dI (plc (P0.on L))), .d (dI (plc (P1.on (P0.on L)))), .d (dI 0), .d (dI 0), .d (.nl 5)]]⟩) ∨ (i = 3 ∧ S = ⟨ofL [(0, .lp 0 0), (3, .d (namesD names)), (6, .lp 2 0), (9, .lp 4 0), (10, .ps 3 3), (29, .d (.sl 1 (nl.map intRow))), (30, vI .i64 (nl.map intRow).length), (31, vI .i64 3)], [.pv [.d (nodesD ns), .og 1 (0 + P0.count + P1.count + P2.count)], .x (neC ((P2.on (P1.on (P0.on L))).map coN) none) (0 + P0.count + P1.count + P2.count), .pv (n.row.map .d), .pv [.lp 4 1, .lp 4 2, .lp 4 3], .pv [.d (dI p), .d (dI (plc (P0.on L))), .d (dI (plc (P1.on (P0.on L)))), .d (dI (plc (P2.on (P1.on (P0.on L))))), .d (dI 0), .d (.nl 5)]]⟩))) _ _ ⟨0, rfl, by omega, .inl ⟨rfl, rfl⟩⟩ (St.imp.of_le (by (refine le_ofL rfl ?_ ?_ <;> (repeat (first | exact trivial | refine ⟨⟨rfl, rfl⟩, ?_⟩ | refine ⟨rfl, .inl rfl, ?_⟩ | refine ⟨rfl, .inr rfl, ?_⟩))))) ?_
  rintro m S ⟨i, rfl, hi, hS⟩
  by_cases hir : i < r
  · rcases hS with ⟨rfl, rfl⟩ | ⟨rfl, rfl⟩ | ⟨rfl, rfl⟩ | ⟨rfl, rfl⟩
    · have gA := gA (by omega)
      repeat' (first | (refine W.dre' (id := 9) [7, 9] (fun f => bif bt f 2 then [.pv [.d (nodesD ns), .og 1 (0 + P0.count)], .x (neC ((P0.on L).map coN) none) (0 + P0.count), .pv (n.row.map .d), .pv [.lp 4 1, .lp 4 2, .lp 4 3], .pv [.d (dI p), .d (dI (plc (P0.on L))), .d (dI 0), .d (dI 0), .d (dI 0), .d (.nl 5)]] else bif bt f 1 then [.pv [.d (nodesD ns), .og 1 (0 + P0.count)], .x (neC ((P0.on L).map coN) none) (0 + P0.count), .pv (n.row.map .d), .pv [.lp 4 1, .lp 4 2, .lp 4 3], .pv [.d (dI p), .d (dI 0), .d (dI 0), .d (dI 0), .d (dI 0), .d (.nl 5)]] else [.pv [.d (nodesD ns), .og 1 (0)], .x (neC (L.map coN) none) (0), .pv (n.row.map .d), .pv [.lp 4 1, .lp 4 2, .lp 4 3], .pv [.d (dI p), .d (dI 0), .d (dI 0), .d (dI 0), .d (dI 0), .d (.nl 5)]]) [(0, [0, 1]), (0, [0, 1]), (0, [0, 1]), (0, [0, 1]), (0, [0]), (0, [0]), (0, [0]), (1, [0]), (0, [1]), (2, [1])] [.pv [.d (nodesD ns), .og 1 (0 + P0.count)], .x (neC ((P0.on L).map coN) none) (0 + P0.count), .pv (n.row.map .d), .pv [.lp 4 1, .lp 4 2, .lp 4 3], .pv [.d (dI p), .d (dI (plc (P0.on L))), .d (dI 0), .d (dI 0), .d (dI 0), .d (.nl 5)]] ?_) | refine WE.nil ?_ | refine WE.s' (E := env) (t := .d _) ?_ | refine WE.s' (E := env) (t := .lp _ _) ?_ | refine WE.s' (E := env) (t := .og _ _) ?_ | refine WE.s' (E := env) (t := .ea _ _) ?_ | refine WE.s' (E := env) (t := .agg _) ?_ | refine WE.s' (E := env) (t := .tup _) ?_ | refine WE.ap' (E := env) ?_ | refine WE.st' (E := env) ?_ | refine WE.bs' (E := env) ?_ | refine WE.s' (E := env) (t := .ps _ _) ?_ | refine WE.mkd (.lp 3 0) ?_ (.c (OpS1.ixPs (E := env) (i := 0) rfl rfl rfl rfl rfl rfl rfl ⟨by decide, by decide⟩) (.c (OpS1.ixPs (E := env) (i := 0) rfl rfl rfl rfl rfl rfl rfl ⟨by decide, by decide⟩) .n)) | refine WE.mkd (.d (dI (plc (P0.on L)))) ?_ (.c (OpS1.cqM (E := env) [0, 1] [0, 0] rfl rfl (gA.1) rfl rfl rfl rfl rfl rfl rfl ⟨rfl, rfl, trivial⟩ rfl rfl rfl) .n) | refine W.seq ?_ | refine W.rg ?_ | refine W.block ?_ | refine W.skip ?_ | refine W.exit ?_ | refine W.cond_true' ?_ | refine W.cond_false' ?_ | refine WG.nil ?_ | refine WG.run' (E := env) ?_ | refine WG.gt' ?_ | refine WG.gf' ?_ | refine WG.ixm' (E := env) ?_ | fail | ((first | refine WG.sp' (fun h => ?_) fun h => ?_ | refine W.cond' (fun h => ?_) fun h => ?_) <;> (try simp only [atS, List.length_map, beq_self_eq_true] at h) <;> (try (exfalso; first | contradiction | omega))))
      all_goals first | (exfalso; omega) | skip
      all_goals exact ⟨_, _, by omega, ⟨1, rfl, by omega, .inr (.inl ⟨rfl, rfl⟩)⟩, (St.imp.of_le (by (refine le_ofL rfl ?_ ?_ <;> (repeat (first | exact trivial | refine ⟨⟨rfl, rfl⟩, ?_⟩ | refine ⟨rfl, .inl rfl, ?_⟩ | refine ⟨rfl, .inr rfl, ?_⟩)))))⟩
    · have gB := gB (by omega)
      have gA := gA (by omega)
      by_cases hb : n.op = 20
      · have e1 := hi1 hb
        rw [e1, ← hbs] at gB
        repeat' (first | (refine W.dre' (id := 8) [1, 5] (fun f => bif bt f 2 then [.pv [.d (nodesD ns), .og 1 (0 + P0.count)], .x (neC ((P0.on L).map coN) none) (0 + P0.count), .pv (n.row.map .d), .pv [.lp 4 1, .lp 4 2, .lp 4 3], .pv [.d (dI p), .d (dI (plc (P0.on L))), .d (dI 0), .d (dI 0), .d (dI 0), .d (.nl 5)], .gr 1 9 (names.map txtRow ++ [[dS n.text]]) 1 false] else bif bt f 1 then [.pv [.d (nodesD ns), .og 1 (0 + P0.count)], .x (neC ((P0.on L).map coN) none) (0 + P0.count), .pv (n.row.map .d), .pv [.lp 4 1, .lp 4 2, .lp 4 3], .pv [.d (dI p), .d (dI (plc (P0.on L))), .d (dI 0), .d (dI 0), .d (dI 0), .d (.nl 5)], .gr 1 9 (names.map txtRow) 0 false] else [.pv [.d (nodesD ns), .og 1 (0 + P0.count)], .x (neC ((P0.on L).map coN) none) (0 + P0.count), .pv (n.row.map .d), .pv [.lp 4 1, .lp 4 2, .lp 4 3], .pv [.d (dI p), .d (dI (plc (P0.on L))), .d (dI 0), .d (dI 0), .d (dI 0), .d (.nl 5)]]) [(0, [0]), (1, [0]), (0, [0, 1]), (0, [0, 1]), (0, [0, 1]), (2, [1]), (0, [3])] [.pv [.d (nodesD ns), .og 1 (0 + P0.count)], .x (neC ((P0.on L).map coN) none) (0 + P0.count), .pv (n.row.map .d), .pv [.lp 4 1, .lp 4 2, .lp 4 3], .pv [.d (dI p), .d (dI (plc (P0.on L))), .d (dI 0), .d (dI 0), .d (dI 0), .d (.nl 5)], .gr 1 9 (names.map txtRow ++ [[dS n.text]]) 1 false] ?_) | refine W.pubD 5 rfl ?_ | refine WE.mkd (.og 5 0) ?_ (.c (OpS1.coG rfl rfl hcl rfl rfl rfl) .n) | (refine W.dre' (id := 9) [7, 9] (fun f => bif bt f 2 then [.pv [.d (nodesD ns), .og 1 (0 + P0.count + P1.count)], .x (neC ((P1.on (P0.on L)).map coN) none) (0 + P0.count + P1.count), .pv (n.row.map .d), .pv [.lp 4 1, .lp 4 2, .lp 4 3], .pv [.d (dI p), .d (dI (plc (P0.on L))), .d (dI (plc (P1.on (P0.on L)))), .d (dI 0), .d (dI 0), .d (.nl 5)], .gr 1 9 (names.map txtRow ++ [[dS n.text]]) 1 true] else bif bt f 1 then [.pv [.d (nodesD ns), .og 1 (0 + P0.count + P1.count)], .x (neC ((P1.on (P0.on L)).map coN) none) (0 + P0.count + P1.count), .pv (n.row.map .d), .pv [.lp 4 1, .lp 4 2, .lp 4 3], .pv [.d (dI p), .d (dI (plc (P0.on L))), .d (dI 0), .d (dI 0), .d (dI 0), .d (.nl 5)], .gr 1 9 (names.map txtRow ++ [[dS n.text]]) 1 true] else [.pv [.d (nodesD ns), .og 1 (0 + P0.count)], .x (neC ((P0.on L).map coN) none) (0 + P0.count), .pv (n.row.map .d), .pv [.lp 4 1, .lp 4 2, .lp 4 3], .pv [.d (dI p), .d (dI (plc (P0.on L))), .d (dI 0), .d (dI 0), .d (dI 0), .d (.nl 5)], .gr 1 9 (names.map txtRow ++ [[dS n.text]]) 1 true]) [(0, [0, 1]), (0, [0, 1]), (0, [0, 1]), (0, [0, 1]), (0, [0]), (0, [0]), (0, [0]), (1, [0]), (0, [1]), (2, [1])] [.pv [.d (nodesD ns), .og 1 (0 + P0.count + P1.count)], .x (neC ((P1.on (P0.on L)).map coN) none) (0 + P0.count + P1.count), .pv (n.row.map .d), .pv [.lp 4 1, .lp 4 2, .lp 4 3], .pv [.d (dI p), .d (dI (plc (P0.on L))), .d (dI (plc (P1.on (P0.on L)))), .d (dI 0), .d (dI 0), .d (.nl 5)], .gr 1 9 (names.map txtRow ++ [[dS n.text]]) 1 true] ?_) | refine WE.nil ?_ | refine WE.s' (E := env) (t := .d _) ?_ | refine WE.s' (E := env) (t := .lp _ _) ?_ | refine WE.s' (E := env) (t := .og _ _) ?_ | refine WE.s' (E := env) (t := .ea _ _) ?_ | refine WE.s' (E := env) (t := .agg _) ?_ | refine WE.s' (E := env) (t := .tup _) ?_ | refine WE.ap' (E := env) ?_ | refine WE.st' (E := env) ?_ | refine WE.bs' (E := env) ?_ | refine WE.s' (E := env) (t := .ps _ _) ?_ | refine WE.mkd (.lp 3 1) ?_ (.c (OpS1.ixPs (E := env) (i := 1) rfl rfl rfl rfl rfl rfl rfl ⟨by decide, by decide⟩) (.c (OpS1.ixPs (E := env) (i := 1) rfl rfl rfl rfl rfl rfl rfl ⟨by decide, by decide⟩) .n)) | refine WE.mkd (.d (dI (plc (P1.on (P0.on L))))) ?_ (.c (OpS1.cqM (E := env) [0, 1] [0, 0 + P0.count] rfl rfl (gB.1) rfl rfl rfl rfl rfl rfl rfl ⟨rfl, rfl, trivial⟩ rfl rfl rfl) .n) | refine W.seq ?_ | refine W.rg ?_ | refine W.block ?_ | refine W.skip ?_ | refine W.exit ?_ | refine W.cond_true' ?_ | refine W.cond_false' ?_ | refine WG.nil ?_ | refine WG.run' (E := env) ?_ | refine WG.gt' ?_ | refine WG.gf' ?_ | refine WG.ixm' (E := env) ?_ | fail | ((first | refine WG.sp' (fun h => ?_) fun h => ?_ | refine W.cond' (fun h => ?_) fun h => ?_) <;> (try simp only [atS, List.length_map, beq_self_eq_true] at h) <;> (try (exfalso; first | contradiction | omega))))
        all_goals first | (exfalso; omega) | skip
        all_goals exact ⟨_, _, by omega, ⟨2, rfl, by omega, .inr (.inr (.inl ⟨rfl, rfl⟩))⟩, (St.imp.of_le (by (refine le_ofL rfl ?_ ?_ <;> (repeat (first | exact trivial | refine ⟨⟨rfl, rfl⟩, ?_⟩ | refine ⟨rfl, .inl rfl, ?_⟩ | refine ⟨rfl, .inr rfl, ?_⟩)))))⟩
      · have e1 := hj1 hb
        rw [e1] at gB
        repeat' (first | (refine W.dre' (id := 9) [7, 9] (fun f => bif bt f 2 then [.pv [.d (nodesD ns), .og 1 (0 + P0.count + P1.count)], .x (neC ((P1.on (P0.on L)).map coN) none) (0 + P0.count + P1.count), .pv (n.row.map .d), .pv [.lp 4 1, .lp 4 2, .lp 4 3], .pv [.d (dI p), .d (dI (plc (P0.on L))), .d (dI (plc (P1.on (P0.on L)))), .d (dI 0), .d (dI 0), .d (.nl 5)]] else bif bt f 1 then [.pv [.d (nodesD ns), .og 1 (0 + P0.count + P1.count)], .x (neC ((P1.on (P0.on L)).map coN) none) (0 + P0.count + P1.count), .pv (n.row.map .d), .pv [.lp 4 1, .lp 4 2, .lp 4 3], .pv [.d (dI p), .d (dI (plc (P0.on L))), .d (dI 0), .d (dI 0), .d (dI 0), .d (.nl 5)]] else [.pv [.d (nodesD ns), .og 1 (0 + P0.count)], .x (neC ((P0.on L).map coN) none) (0 + P0.count), .pv (n.row.map .d), .pv [.lp 4 1, .lp 4 2, .lp 4 3], .pv [.d (dI p), .d (dI (plc (P0.on L))), .d (dI 0), .d (dI 0), .d (dI 0), .d (.nl 5)]]) [(0, [0, 1]), (0, [0, 1]), (0, [0, 1]), (0, [0, 1]), (0, [0]), (0, [0]), (0, [0]), (1, [0]), (0, [1]), (2, [1])] [.pv [.d (nodesD ns), .og 1 (0 + P0.count + P1.count)], .x (neC ((P1.on (P0.on L)).map coN) none) (0 + P0.count + P1.count), .pv (n.row.map .d), .pv [.lp 4 1, .lp 4 2, .lp 4 3], .pv [.d (dI p), .d (dI (plc (P0.on L))), .d (dI (plc (P1.on (P0.on L)))), .d (dI 0), .d (dI 0), .d (.nl 5)]] ?_) | refine WE.nil ?_ | refine WE.s' (E := env) (t := .d _) ?_ | refine WE.s' (E := env) (t := .lp _ _) ?_ | refine WE.s' (E := env) (t := .og _ _) ?_ | refine WE.s' (E := env) (t := .ea _ _) ?_ | refine WE.s' (E := env) (t := .agg _) ?_ | refine WE.s' (E := env) (t := .tup _) ?_ | refine WE.ap' (E := env) ?_ | refine WE.st' (E := env) ?_ | refine WE.bs' (E := env) ?_ | refine WE.s' (E := env) (t := .ps _ _) ?_ | refine WE.mkd (.lp 3 1) ?_ (.c (OpS1.ixPs (E := env) (i := 1) rfl rfl rfl rfl rfl rfl rfl ⟨by decide, by decide⟩) (.c (OpS1.ixPs (E := env) (i := 1) rfl rfl rfl rfl rfl rfl rfl ⟨by decide, by decide⟩) .n)) | refine WE.mkd (.d (dI (plc (P1.on (P0.on L))))) ?_ (.c (OpS1.cqM (E := env) [0, 1] [0, 0 + P0.count] rfl rfl (gB.1) rfl rfl rfl rfl rfl rfl rfl ⟨rfl, rfl, trivial⟩ rfl rfl rfl) .n) | refine W.seq ?_ | refine W.rg ?_ | refine W.block ?_ | refine W.skip ?_ | refine W.exit ?_ | refine W.cond_true' ?_ | refine W.cond_false' ?_ | refine WG.nil ?_ | refine WG.run' (E := env) ?_ | refine WG.gt' ?_ | refine WG.gf' ?_ | refine WG.ixm' (E := env) ?_ | fail | ((first | refine WG.sp' (fun h => ?_) fun h => ?_ | refine W.cond' (fun h => ?_) fun h => ?_) <;> (try simp only [atS, List.length_map, beq_self_eq_true] at h) <;> (try (exfalso; first | contradiction | omega))))
        all_goals first | (exfalso; omega) | skip
        all_goals exact ⟨_, _, by omega, ⟨2, rfl, by omega, .inr (.inr (.inl ⟨rfl, rfl⟩))⟩, (St.imp.of_le (by (refine le_ofL rfl ?_ ?_ <;> (repeat (first | exact trivial | refine ⟨⟨rfl, rfl⟩, ?_⟩ | refine ⟨rfl, .inl rfl, ?_⟩ | refine ⟨rfl, .inr rfl, ?_⟩)))))⟩
    · have gC := gC (by omega)
      have gB := gB (by omega)
      have gA := gA (by omega)
      by_cases hb : n.op = 19
      · have e2 := hi2 hb
        rw [e2, ← hbs] at gC
        repeat' (first | (refine W.dre' (id := 8) [1, 5] (fun f => bif bt f 2 then [.pv [.d (nodesD ns), .og 1 (0 + P0.count + P1.count)], .x (neC ((P1.on (P0.on L)).map coN) none) (0 + P0.count + P1.count), .pv (n.row.map .d), .pv [.lp 4 1, .lp 4 2, .lp 4 3], .pv [.d (dI p), .d (dI (plc (P0.on L))), .d (dI (plc (P1.on (P0.on L)))), .d (dI 0), .d (dI 0), .d (.nl 5)], .gr 1 9 (names.map txtRow ++ [[dS n.text]]) 1 false] else bif bt f 1 then [.pv [.d (nodesD ns), .og 1 (0 + P0.count + P1.count)], .x (neC ((P1.on (P0.on L)).map coN) none) (0 + P0.count + P1.count), .pv (n.row.map .d), .pv [.lp 4 1, .lp 4 2, .lp 4 3], .pv [.d (dI p), .d (dI (plc (P0.on L))), .d (dI (plc (P1.on (P0.on L)))), .d (dI 0), .d (dI 0), .d (.nl 5)], .gr 1 9 (names.map txtRow) 0 false] else [.pv [.d (nodesD ns), .og 1 (0 + P0.count + P1.count)], .x (neC ((P1.on (P0.on L)).map coN) none) (0 + P0.count + P1.count), .pv (n.row.map .d), .pv [.lp 4 1, .lp 4 2, .lp 4 3], .pv [.d (dI p), .d (dI (plc (P0.on L))), .d (dI (plc (P1.on (P0.on L)))), .d (dI 0), .d (dI 0), .d (.nl 5)]]) [(0, [0]), (1, [0]), (0, [0, 1]), (0, [0, 1]), (0, [0, 1]), (2, [1]), (0, [3])] [.pv [.d (nodesD ns), .og 1 (0 + P0.count + P1.count)], .x (neC ((P1.on (P0.on L)).map coN) none) (0 + P0.count + P1.count), .pv (n.row.map .d), .pv [.lp 4 1, .lp 4 2, .lp 4 3], .pv [.d (dI p), .d (dI (plc (P0.on L))), .d (dI (plc (P1.on (P0.on L)))), .d (dI 0), .d (dI 0), .d (.nl 5)], .gr 1 9 (names.map txtRow ++ [[dS n.text]]) 1 false] ?_) | refine W.pubD 5 rfl ?_ | refine WE.mkd (.og 5 0) ?_ (.c (OpS1.coG rfl rfl hcl rfl rfl rfl) .n) | (refine W.dre' (id := 9) [7, 9] (fun f => bif bt f 2 then [.pv [.d (nodesD ns), .og 1 (0 + P0.count + P1.count + P2.count)], .x (neC ((P2.on (P1.on (P0.on L))).map coN) none) (0 + P0.count + P1.count + P2.count), .pv (n.row.map .d), .pv [.lp 4 1, .lp 4 2, .lp 4 3], .pv [.d (dI p), .d (dI (plc (P0.on L))), .d (dI (plc (P1.on (P0.on L)))), .d (dI (plc (P2.on (P1.on (P0.on L))))), .d (dI 0), .d (.nl 5)], .gr 1 9 (names.map txtRow ++ [[dS n.text]]) 1 true] else bif bt f 1 then [.pv [.d (nodesD ns), .og 1 (0 + P0.count + P1.count + P2.count)], .x (neC ((P2.on (P1.on (P0.on L))).map coN) none) (0 + P0.count + P1.count + P2.count), .pv (n.row.map .d), .pv [.lp 4 1, .lp 4 2, .lp 4 3], .pv [.d (dI p), .d (dI (plc (P0.on L))), .d (dI (plc (P1.on (P0.on L)))), .d (dI 0), .d (dI 0), .d (.nl 5)], .gr 1 9 (names.map txtRow ++ [[dS n.text]]) 1 true] else [.pv [.d (nodesD ns), .og 1 (0 + P0.count + P1.count)], .x (neC ((P1.on (P0.on L)).map coN) none) (0 + P0.count + P1.count), .pv (n.row.map .d), .pv [.lp 4 1, .lp 4 2, .lp 4 3], .pv [.d (dI p), .d (dI (plc (P0.on L))), .d (dI (plc (P1.on (P0.on L)))), .d (dI 0), .d (dI 0), .d (.nl 5)], .gr 1 9 (names.map txtRow ++ [[dS n.text]]) 1 true]) [(0, [0, 1]), (0, [0, 1]), (0, [0, 1]), (0, [0, 1]), (0, [0]), (0, [0]), (0, [0]), (1, [0]), (0, [1]), (2, [1])] [.pv [.d (nodesD ns), .og 1 (0 + P0.count + P1.count + P2.count)], .x (neC ((P2.on (P1.on (P0.on L))).map coN) none) (0 + P0.count + P1.count + P2.count), .pv (n.row.map .d), .pv [.lp 4 1, .lp 4 2, .lp 4 3], .pv [.d (dI p), .d (dI (plc (P0.on L))), .d (dI (plc (P1.on (P0.on L)))), .d (dI (plc (P2.on (P1.on (P0.on L))))), .d (dI 0), .d (.nl 5)], .gr 1 9 (names.map txtRow ++ [[dS n.text]]) 1 true] ?_) | refine WE.nil ?_ | refine WE.s' (E := env) (t := .d _) ?_ | refine WE.s' (E := env) (t := .lp _ _) ?_ | refine WE.s' (E := env) (t := .og _ _) ?_ | refine WE.s' (E := env) (t := .ea _ _) ?_ | refine WE.s' (E := env) (t := .agg _) ?_ | refine WE.s' (E := env) (t := .tup _) ?_ | refine WE.ap' (E := env) ?_ | refine WE.st' (E := env) ?_ | refine WE.bs' (E := env) ?_ | refine WE.s' (E := env) (t := .ps _ _) ?_ | refine WE.mkd (.lp 3 2) ?_ (.c (OpS1.ixPs (E := env) (i := 2) rfl rfl rfl rfl rfl rfl rfl ⟨by decide, by decide⟩) (.c (OpS1.ixPs (E := env) (i := 2) rfl rfl rfl rfl rfl rfl rfl ⟨by decide, by decide⟩) .n)) | refine WE.mkd (.d (dI (plc (P2.on (P1.on (P0.on L)))))) ?_ (.c (OpS1.cqM (E := env) [0, 1] [0, 0 + P0.count + P1.count] rfl rfl (gC.1) rfl rfl rfl rfl rfl rfl rfl ⟨rfl, rfl, trivial⟩ rfl rfl rfl) .n) | refine W.seq ?_ | refine W.rg ?_ | refine W.block ?_ | refine W.skip ?_ | refine W.exit ?_ | refine W.cond_true' ?_ | refine W.cond_false' ?_ | refine WG.nil ?_ | refine WG.run' (E := env) ?_ | refine WG.gt' ?_ | refine WG.gf' ?_ | refine WG.ixm' (E := env) ?_ | fail | ((first | refine WG.sp' (fun h => ?_) fun h => ?_ | refine W.cond' (fun h => ?_) fun h => ?_) <;> (try simp only [atS, List.length_map, beq_self_eq_true] at h) <;> (try (exfalso; first | contradiction | omega))))
        all_goals first | (exfalso; omega) | skip
        all_goals exact ⟨_, _, by omega, ⟨3, rfl, by omega, .inr (.inr (.inr ⟨rfl, rfl⟩))⟩, (St.imp.of_le (by (refine le_ofL rfl ?_ ?_ <;> (repeat (first | exact trivial | refine ⟨⟨rfl, rfl⟩, ?_⟩ | refine ⟨rfl, .inl rfl, ?_⟩ | refine ⟨rfl, .inr rfl, ?_⟩)))))⟩
      · have e2 := hj2 hb
        rw [e2] at gC
        repeat' (first | (refine W.dre' (id := 9) [7, 9] (fun f => bif bt f 2 then [.pv [.d (nodesD ns), .og 1 (0 + P0.count + P1.count + P2.count)], .x (neC ((P2.on (P1.on (P0.on L))).map coN) none) (0 + P0.count + P1.count + P2.count), .pv (n.row.map .d), .pv [.lp 4 1, .lp 4 2, .lp 4 3], .pv [.d (dI p), .d (dI (plc (P0.on L))), .d (dI (plc (P1.on (P0.on L)))), .d (dI (plc (P2.on (P1.on (P0.on L))))), .d (dI 0), .d (.nl 5)]] else bif bt f 1 then [.pv [.d (nodesD ns), .og 1 (0 + P0.count + P1.count + P2.count)], .x (neC ((P2.on (P1.on (P0.on L))).map coN) none) (0 + P0.count + P1.count + P2.count), .pv (n.row.map .d), .pv [.lp 4 1, .lp 4 2, .lp 4 3], .pv [.d (dI p), .d (dI (plc (P0.on L))), .d (dI (plc (P1.on (P0.on L)))), .d (dI 0), .d (dI 0), .d (.nl 5)]] else [.pv [.d (nodesD ns), .og 1 (0 + P0.count + P1.count)], .x (neC ((P1.on (P0.on L)).map coN) none) (0 + P0.count + P1.count), .pv (n.row.map .d), .pv [.lp 4 1, .lp 4 2, .lp 4 3], .pv [.d (dI p), .d (dI (plc (P0.on L))), .d (dI (plc (P1.on (P0.on L)))), .d (dI 0), .d (dI 0), .d (.nl 5)]]) [(0, [0, 1]), (0, [0, 1]), (0, [0, 1]), (0, [0, 1]), (0, [0]), (0, [0]), (0, [0]), (1, [0]), (0, [1]), (2, [1])] [.pv [.d (nodesD ns), .og 1 (0 + P0.count + P1.count + P2.count)], .x (neC ((P2.on (P1.on (P0.on L))).map coN) none) (0 + P0.count + P1.count + P2.count), .pv (n.row.map .d), .pv [.lp 4 1, .lp 4 2, .lp 4 3], .pv [.d (dI p), .d (dI (plc (P0.on L))), .d (dI (plc (P1.on (P0.on L)))), .d (dI (plc (P2.on (P1.on (P0.on L))))), .d (dI 0), .d (.nl 5)]] ?_) | refine WE.nil ?_ | refine WE.s' (E := env) (t := .d _) ?_ | refine WE.s' (E := env) (t := .lp _ _) ?_ | refine WE.s' (E := env) (t := .og _ _) ?_ | refine WE.s' (E := env) (t := .ea _ _) ?_ | refine WE.s' (E := env) (t := .agg _) ?_ | refine WE.s' (E := env) (t := .tup _) ?_ | refine WE.ap' (E := env) ?_ | refine WE.st' (E := env) ?_ | refine WE.bs' (E := env) ?_ | refine WE.s' (E := env) (t := .ps _ _) ?_ | refine WE.mkd (.lp 3 2) ?_ (.c (OpS1.ixPs (E := env) (i := 2) rfl rfl rfl rfl rfl rfl rfl ⟨by decide, by decide⟩) (.c (OpS1.ixPs (E := env) (i := 2) rfl rfl rfl rfl rfl rfl rfl ⟨by decide, by decide⟩) .n)) | refine WE.mkd (.d (dI (plc (P2.on (P1.on (P0.on L)))))) ?_ (.c (OpS1.cqM (E := env) [0, 1] [0, 0 + P0.count + P1.count] rfl rfl (gC.1) rfl rfl rfl rfl rfl rfl rfl ⟨rfl, rfl, trivial⟩ rfl rfl rfl) .n) | refine W.seq ?_ | refine W.rg ?_ | refine W.block ?_ | refine W.skip ?_ | refine W.exit ?_ | refine W.cond_true' ?_ | refine W.cond_false' ?_ | refine WG.nil ?_ | refine WG.run' (E := env) ?_ | refine WG.gt' ?_ | refine WG.gf' ?_ | refine WG.ixm' (E := env) ?_ | fail | ((first | refine WG.sp' (fun h => ?_) fun h => ?_ | refine W.cond' (fun h => ?_) fun h => ?_) <;> (try simp only [atS, List.length_map, beq_self_eq_true] at h) <;> (try (exfalso; first | contradiction | omega))))
        all_goals first | (exfalso; omega) | skip
        all_goals exact ⟨_, _, by omega, ⟨3, rfl, by omega, .inr (.inr (.inr ⟨rfl, rfl⟩))⟩, (St.imp.of_le (by (refine le_ofL rfl ?_ ?_ <;> (repeat (first | exact trivial | refine ⟨⟨rfl, rfl⟩, ?_⟩ | refine ⟨rfl, .inl rfl, ?_⟩ | refine ⟨rfl, .inr rfl, ?_⟩)))))⟩
    · exfalso; omega
  · obtain ⟨a, b, c, x, L', w, hS2, hL2, hput⟩ : ∃ (a b c x : Int) (L' : List Co) (w : Nat), S = ⟨ofL [(0, .lp 0 0), (3, .d (namesD names)), (6, .lp 2 0), (9, .lp 4 0), (10, .ps 3 3), (29, .d (.sl 1 (nl.map intRow))), (30, vI .i64 (nl.map intRow).length), (31, vI .i64 x)], [.pv [.d (nodesD ns), .og 1 w], .x (neC (L'.map coN) none) w, .pv (n.row.map .d), .pv [.lp 4 1, .lp 4 2, .lp 4 3], .pv [.d (dI p), .d (dI a), .d (dI b), .d (dI c), .d (dI (0)), .d (.nl 5)]]⟩ ∧ x = (i : Int) ∧ PutP ns L ([P0, P1, P2].take r) p a b c L' w := by
      obtain rfl : r = i := by omega
      rcases hS with ⟨rfl, rfl⟩ | ⟨rfl, rfl⟩ | ⟨rfl, rfl⟩ | ⟨rfl, rfl⟩
      · exact ⟨0, 0, 0, _, L, 0, rfl, rfl, fun num val => ⟨by have := putI_fn ns L ⟨p, 0, 0, 0, num, val⟩ (by omega); rw [Pt.on_leaf] at this; exact this, rfl⟩⟩
      · have gA := gA (by omega)
        have := b1 (by omega)
        exact ⟨_, 0, 0, _, P0.on L, _, rfl, rfl, fun num val => ⟨put1I ns L ⟨p, 0, 0, 0, num, val⟩ P0 (by omega), by simp [Pt.count, Pt.counts]⟩⟩
      · have gA := gA (by omega)
        have gB := gB (by omega)
        have := b2 (by omega)
        exact ⟨_, _, 0, _, P1.on (P0.on L), _, rfl, rfl, fun num val => ⟨put2I ns L ⟨p, 0, 0, 0, num, val⟩ P0 P1 (by omega), by simp [Pt.count, Pt.counts]⟩⟩
      · have gA := gA (by omega)
        have gB := gB (by omega)
        have gC := gC (by omega)
        have := b3 (by omega)
        exact ⟨_, _, _, _, P2.on (P1.on (P0.on L)), _, rfl, rfl, fun num val => ⟨put3I ns L ⟨p, 0, 0, 0, num, val⟩ P0 P1 P2 (by omega), by simp [Pt.count, Pt.counts]; omega⟩⟩
    subst hS2
    clear hS gA gB gC hcl hbs hi1 hi2 hj1 hj2 q0 q1 q2 b1 b2 b3 l1 l2 l3 hnm
    generalize [P0, P1, P2].take r = kids at *
    by_cases h21 : n.op = 21
    · obtain rfl : num = slotM names n.text := by rw [hnum, if_neg (by omega), if_neg (by omega), if_pos h21]
      obtain rfl : val = [] := by rw [hval, if_neg (by omega)]
      have hp := hput (slotM names n.text) []
      repeat' (first | refine W.seq ?_ | refine W.rg ?_ | refine W.block ?_ | refine W.skip ?_ | refine W.exit ?_ | refine W.cond_true' ?_ | refine W.cond_false' ?_ | refine WG.nil ?_ | refine WG.run' (E := env) ?_ | refine WG.gt' ?_ | refine WG.gf' ?_ | refine WG.ixm' (E := env) ?_ | ((first | refine WG.sp' (fun h => ?_) fun h => ?_ | refine W.cond' (fun h => ?_) fun h => ?_) <;> (try simp only [atS, List.length_map, beq_self_eq_true] at h) <;> (try (exfalso; first | contradiction | omega))))
      all_goals first | (exfalso; omega) | skip
      refine W.loopI (fun m S => ∃ j : Nat, m = names.length - j ∧ j ≤ names.length ∧ S = ⟨ofL [(0, .lp 0 0), (6, .lp 2 0), (9, .lp 4 0), (84, .d (namesD names)), (85, vI .i64 (names.map txtRow).length), (86, vI .i64 j)], [.pv [.d (nodesD ns), .og 1 w], .x (neC (L'.map coN) none) w, .pv (n.row.map .d), .pv [.lp 4 1, .lp 4 2, .lp 4 3], .pv [.d (dI p), .d (dI a), .d (dI b), .d (dI c), .d (dI (slotL n.text names j)), .d (.nl 5)]]⟩) _ _ ⟨0, rfl, by omega, rfl⟩ (St.imp.of_le (by (refine le_ofL rfl ?_ ?_ <;> (repeat (first | exact trivial | refine ⟨⟨rfl, rfl⟩, ?_⟩ | refine ⟨rfl, .inl rfl, ?_⟩ | refine ⟨rfl, .inr rfl, ?_⟩))))) ?_
      rintro m S ⟨j, rfl, hj, rfl⟩
      by_cases hlt : j < names.length
      · have hs : slotL n.text names (j + 1) = if names.getD (Int.toNat (j : Int)) default = n.text then (j : Int) else slotL n.text names j := by rw [Int.toNat_natCast]; rfl
        repeat' (first | refine W.seq ?_ | refine W.rg ?_ | refine W.block ?_ | refine W.skip ?_ | refine W.exit ?_ | refine W.cond_true' ?_ | refine W.cond_false' ?_ | refine WG.nil ?_ | refine WG.run' (E := env) ?_ | refine WG.gt' ?_ | refine WG.gf' ?_ | refine WG.ixm' (E := env) ?_ | ((first | refine WG.sp' (fun h => ?_) fun h => ?_ | refine W.cond' (fun h => ?_) fun h => ?_) <;> (try simp only [atS, List.length_map, beq_self_eq_true] at h) <;> (try (exfalso; first | contradiction | omega))))
        all_goals first | (exfalso; omega) | skip
        · rw [if_pos (by assumption)] at hs
          exact ⟨_, _, by omega, ⟨j + 1, rfl, by omega, by rw [hs]⟩, (St.imp.of_le (by (refine le_ofL rfl ?_ ?_ <;> (repeat (first | exact trivial | refine ⟨⟨rfl, rfl⟩, ?_⟩ | refine ⟨rfl, .inl rfl, ?_⟩ | refine ⟨rfl, .inr rfl, ?_⟩)))))⟩
        · rw [if_neg (by assumption)] at hs
          exact ⟨_, _, by omega, ⟨j + 1, rfl, by omega, by rw [hs]⟩, (St.imp.of_le (by (refine le_ofL rfl ?_ ?_ <;> (repeat (first | exact trivial | refine ⟨⟨rfl, rfl⟩, ?_⟩ | refine ⟨rfl, .inl rfl, ?_⟩ | refine ⟨rfl, .inr rfl, ?_⟩)))))⟩
      · obtain rfl : j = names.length := by omega
        repeat' (first | refine W.seq ?_ | refine W.rg ?_ | refine W.block ?_ | refine W.skip ?_ | refine W.exit ?_ | refine W.cond_true' ?_ | refine W.cond_false' ?_ | refine WG.nil ?_ | refine WG.run' (E := env) ?_ | refine WG.gt' ?_ | refine WG.gf' ?_ | refine WG.ixm' (E := env) ?_ | refine WG.adoptD 106 5 5 93 rfl rfl rfl ?_ | refine WG.loT (R := [_, _, _]) (v := []) rfl rfl (hp.1) rfl rfl ?_ | fail | ((first | refine WG.sp' (fun h => ?_) fun h => ?_ | refine W.cond' (fun h => ?_) fun h => ?_) <;> (try simp only [atS, List.length_map, beq_self_eq_true] at h) <;> (try (exfalso; first | contradiction | omega))))
        all_goals first | (exfalso; omega) | skip
        all_goals (refine W.ret ?_; exact RetR.loI (.inl rfl) rfl (by first | trivial | exact resOK_of (E := env) rfl) rfl rfl rfl hp.2.symm rfl _ (Nat.le_of_ble_eq_true rfl))
    · by_cases h17 : n.op = 17
      · have hct := cellsTxt_fn n.text (htx h17)
        obtain rfl : num = 0 := by rw [hnum, if_neg (by omega), if_neg (by omega), if_neg h21]
        obtain rfl : val = cellT n.text := by rw [hval, if_pos h17]
        have hp := hput 0 (cellT n.text)
        repeat' (first | refine W.seq ?_ | refine W.rg ?_ | refine W.block ?_ | refine W.skip ?_ | refine W.exit ?_ | refine W.cond_true' ?_ | refine W.cond_false' ?_ | refine WG.nil ?_ | refine WG.run' (E := env) ?_ | refine WG.gt' ?_ | refine WG.gf' ?_ | refine WG.ixm' (E := env) ?_ | refine WG.coG' (E := env) rfl rfl hct rfl ?_ | refine WG.loT (R := [_, _, _]) (v := cellT n.text) rfl rfl (hp.1) rfl rfl ?_ | refine WG.c (E := env) rfl rfl (htp) rfl rfl ?_ | ((first | refine WG.sp' (fun h => ?_) fun h => ?_ | refine W.cond' (fun h => ?_) fun h => ?_) <;> (try simp only [atS, List.length_map, beq_self_eq_true] at h) <;> (try (exfalso; first | contradiction | omega))))
        all_goals first | (exfalso; omega) | skip
        all_goals (refine W.ret ?_; exact RetR.loI (.inl rfl) rfl (by first | trivial | exact resOK_of (E := env) rfl) rfl rfl rfl hp.2.symm rfl _ (Nat.le_of_ble_eq_true rfl))
      · obtain rfl : val = [] := by rw [hval, if_neg h17]
        have hp := hput num []
        by_cases h10 : n.op = 10
        · obtain rfl : num = n.num := by rw [hnum, if_pos h10]
          repeat' (first | refine W.seq ?_ | refine W.rg ?_ | refine W.block ?_ | refine W.skip ?_ | refine W.exit ?_ | refine W.cond_true' ?_ | refine W.cond_false' ?_ | refine WG.nil ?_ | refine WG.run' (E := env) ?_ | refine WG.gt' ?_ | refine WG.gf' ?_ | refine WG.ixm' (E := env) ?_ | refine WG.adoptD 106 5 5 93 rfl rfl rfl ?_ | refine WG.loT (R := [_, _, _]) (v := []) rfl rfl (hp.1) rfl rfl ?_ | fail | ((first | refine WG.sp' (fun h => ?_) fun h => ?_ | refine W.cond' (fun h => ?_) fun h => ?_) <;> (try simp only [atS, List.length_map, beq_self_eq_true] at h) <;> (try (exfalso; first | contradiction | omega))))
          all_goals first | (exfalso; omega) | skip
          all_goals (refine W.ret ?_; exact RetR.loI (.inl rfl) rfl (by first | trivial | exact resOK_of (E := env) rfl) rfl rfl rfl hp.2.symm rfl _ (Nat.le_of_ble_eq_true rfl))
        · by_cases h1920 : n.op = 19 ∨ n.op = 20
          · obtain rfl : num = names.length := by rw [hnum, if_neg h10, if_pos h1920]
            repeat' (first | refine W.seq ?_ | refine W.rg ?_ | refine W.block ?_ | refine W.skip ?_ | refine W.exit ?_ | refine W.cond_true' ?_ | refine W.cond_false' ?_ | refine WG.nil ?_ | refine WG.run' (E := env) ?_ | refine WG.gt' ?_ | refine WG.gf' ?_ | refine WG.ixm' (E := env) ?_ | refine WG.adoptD 106 5 5 93 rfl rfl rfl ?_ | refine WG.loT (R := [_, _, _]) (v := []) rfl rfl (hp.1) rfl rfl ?_ | refine WG.c (E := env) rfl rfl (hsz) rfl rfl ?_ | ((first | refine WG.sp' (fun h => ?_) fun h => ?_ | refine W.cond' (fun h => ?_) fun h => ?_) <;> (try simp only [atS, List.length_map, beq_self_eq_true] at h) <;> (try (exfalso; first | contradiction | omega))))
            all_goals first | (exfalso; omega) | skip
            all_goals (refine W.ret ?_; exact RetR.loI (.inl rfl) rfl (by first | trivial | exact resOK_of (E := env) rfl) rfl rfl rfl hp.2.symm rfl _ (Nat.le_of_ble_eq_true rfl))
          · obtain rfl : num = 0 := by rw [hnum, if_neg h10, if_neg h1920, if_neg h21]
            repeat' (first | refine W.seq ?_ | refine W.rg ?_ | refine W.block ?_ | refine W.skip ?_ | refine W.exit ?_ | refine W.cond_true' ?_ | refine W.cond_false' ?_ | refine WG.nil ?_ | refine WG.run' (E := env) ?_ | refine WG.gt' ?_ | refine WG.gf' ?_ | refine WG.ixm' (E := env) ?_ | refine WG.adoptD 106 5 5 93 rfl rfl rfl ?_ | refine WG.loT (R := [_, _, _]) (v := []) rfl rfl (hp.1) rfl rfl ?_ | fail | ((first | refine WG.sp' (fun h => ?_) fun h => ?_ | refine W.cond' (fun h => ?_) fun h => ?_) <;> (try simp only [atS, List.length_map, beq_self_eq_true] at h) <;> (try (exfalso; first | contradiction | omega))))
            all_goals first | (exfalso; omega) | skip
            all_goals (refine W.ret ?_; exact RetR.loI (.inl rfl) rfl (by first | trivial | exact resOK_of (E := env) rfl) rfl rfl rfl hp.2.symm rfl _ (Nat.le_of_ble_eq_true rfl))

end Go.Proofs.YtmmjbpgdkokjgaaGreat
