/-
  SortOf by the reference, and both. Conditions: cells of at most 2^20 bytes.
-/
import Derived.Test.YtlegadpbjccelaaQSortsSuA
import Derived.Test.YtlegadpbjccelaaQSortsPgE
set_option linter.unusedVariables false
set_option linter.unusedSimpArgs false
set_option maxRecDepth 100000
namespace Go.Proofs.Ytlegadpbjccelaa
open Go.RowKit

theorem St.imp.pubD {N : Nm} {S : St} (k : Nat) {z n : Nat} {e : TypeId} {rows : List (List D)} (hk : S.ob[k]? = some (.gr z e rows n false)) :
    St.imp N S ⟨fun i => pubd k n (.sl z rows) (S.tm i), S.ob.set k (.gr z e rows n true)⟩ := fun w0 σ0 a w g r => by
  obtain ⟨g', hle, hlim, I⟩ := r.inv.pub hk
  have hlt : k < S.ob.length := (List.getElem?_eq_some_iff.1 hk).1
  exact ⟨g', I, r.defers, r.size, r.hm, by simpa using r.hl, fun i => ((r.tm i).mono hle).pubd I (List.getElem?_set_self hlt)⟩

set_option maxHeartbeats 8000000 in
theorem l3Sort_fn (v : V) (h : v.fine) : Fun env.P 159 [cellsD v.cells] (.d (resD (sortO v).1 (outC (sortO v).1 (sortO v).2))) [] := by
  have b6 := l3Bad_fn 6
  have p1 := FunQ.pubG (l1Parts_fn v h)
  have hlc := V.length_counts v.kids
  have hce := V.count_eq v
  have hv200 := h.2.1
  have hkf := fun k hk => (V.fine_kids h k hk).1
  have hml : (v.kids.map partR).length = v.kids.length := by simp
  have hfz := arrV_sort_fine h
  have a1 := FunQ.pubG (l1Array_fn (sortV v.kids) (by have := hfz.2.1; rw [arrV_count] at this; omega))
  obtain ⟨r1, e1⟩ := V.cells_cons v
  rw [e1] at p1 ⊢
  unfold sortO
  generalize v.num = vn at *
  generalize v.text = vt at *
  generalize hkids : v.kids = kids at *
  generalize v.kind = vk at *
  generalize arrV (sortV kids) = w at a1 ⊢
  have hl1 : 1 ≤ ((⟨vk, vn, vt, noS, (kids.length : Int)⟩ :: r1 : List Cell)).length := by simp
  have hg : ((⟨vk, vn, vt, noS, (kids.length : Int)⟩ :: r1 : List Cell).getD (Int.toNat 0) default) = ⟨vk, vn, vt, noS, (kids.length : Int)⟩ := rfl
  refine Fun.intro Try.func159 rfl (by kernel_rfl) rfl ?_
  repeat' (first | refine W.seq ?_ | refine W.rg ?_ | refine W.dra' ?_ | refine W.block ?_ | refine W.skip ?_ | refine W.exit ?_ | refine W.cond_true' ?_ | refine W.cond_false' ?_ | refine WG.nil ?_ | refine WG.run' (E := env) ?_ | refine WG.gt' ?_ | refine WG.gf' ?_ | refine WG.ixm' (E := env) ?_ | refine WG.ixo' (E := env) ?_ | refine WG.legm' (E := env) ?_ | refine WG.slS' (E := env) ?_ | refine WG.slD' (E := env) ?_ | refine WG.ap' (E := env) ?_ | refine WD.nil ?_ | refine WD.bs' (E := env) ?_ | refine WD.s' (E := env) (t := .d _) ?_ | refine WD.p' ?_ | refine WD.px' ?_ | refine WD.s' (E := env) (t := .ea _ _) ?_ | refine WD.s' (E := env) (t := .lp _ _) ?_ | refine WD.s' (E := env) (t := .og _ _) ?_ | refine WD.s' (E := env) (t := .agg _) ?_ | refine WD.s' (E := env) (t := .tup _) ?_ | refine WD.s' (E := env) (t := .clo _ _) ?_ | refine WD.ixm' (E := env) ?_ | refine WD.ixo' (E := env) ?_ | refine WD.legm' (E := env) ?_ | refine WD.slS' (E := env) ?_ | refine WD.slD' (E := env) ?_ | refine WG.c (E := env) rfl rfl (b6) rfl rfl ?_ | refine WD.c (E := env) rfl rfl (b6) rfl rfl ?_ | refine WG.co (E := env) rfl rfl (b6) rfl rfl rfl rfl ?_ | refine WG.cx (E := env) rfl (b6) rfl ?_ | refine WG.c (E := env) rfl rfl (p1) rfl rfl ?_ | refine WD.c (E := env) rfl rfl (p1) rfl rfl ?_ | refine WG.co (E := env) rfl rfl (p1) rfl rfl rfl rfl ?_ | refine WG.cx (E := env) rfl (p1) rfl ?_ | ((first | refine WG.sp' (fun h => ?_) fun h => ?_ | refine W.cond' (fun h => ?_) fun h => ?_ | refine WD.sp' (fun h => ?_) fun h => ?_) <;> (try simp only [decide_eq_true_eq, decide_eq_false_iff_not, Bool.not_eq_true', Bool.not_eq_false', Bool.and_eq_true, Bool.or_eq_true, Bool.and_eq_false_iff, Bool.or_eq_false_iff, Bool.not_eq_true, Bool.not_eq_false, Int.not_lt, Int.not_le, List.length_map, beq_self_eq_true, Bool.true_eq_false, Bool.false_eq_true] at h) <;> (try (exfalso; first | contradiction | omega))))
  all_goals (simp only [hg] at *)
  · rw [if_neg (by assumption)]
    (refine W.ret ?_; (first | refine RetQ.b' ?_ | refine RetQ.i' ?_ | refine RetQ.d' ?_ | refine RetQ.t2' ?_ ?_ | refine RetQ.t3' ?_ ?_ ?_))
    rfl
  rw [if_pos (by assumption)]
  refine W.loopI (fun m S => ∃ (i : Nat) (T : List V), m = kids.length - i ∧ (i ≤ kids.length ∧ (kids.take i).Perm T ∧ Srt T) ∧
    S = ⟨ofL [(2, .lp 0 0), (3, .d (.sl 1 (kids.map partR))), (4, .d (.sl 1 (T.map partR))), (5, vI .i64 i)], [.pv [.d (dI 0), .d (.nl 5)]]⟩) _ _
    ⟨0, [], rfl, ⟨by omega, List.Perm.refl _, Srt.nil⟩, rfl⟩ ((St.imp.pubD 1 rfl).trans (St.imp.of_le (by (refine le_ofL rfl ?_ ?_ <;> (repeat (first | exact trivial | refine ⟨⟨rfl, rfl⟩, ?_⟩ | refine ⟨rfl, .inl rfl, ?_⟩ | refine ⟨rfl, .inr rfl, ?_⟩)))))) ?_
  rintro m S ⟨i, T, rfl, ⟨hi, hp, hs⟩, rfl⟩
  have hTl : T.length = i := by have := hp.length_eq; rw [List.length_take] at this; omega
  have hTm : (T.map partR).length = T.length := by simp
  by_cases hlt : i < kids.length
  · have hxf : (kids.getD (Int.toNat (i : Int)) default).fine := hkf _ (getD_mem' (by rw [Int.toNat_natCast]; exact hlt))
    have hxi : kids.getD i default = kids.getD (Int.toNat (i : Int)) default := by rw [Int.toNat_natCast]
    have hTf : ∀ w ∈ T, w.fine := fun w hw => hkf w (List.mem_of_mem_take (hp.mem_iff.2 hw))
    have hstep := take_step (l := kids) hlt
    rw [hxi] at hstep
    generalize hxx : kids.getD (Int.toNat (i : Int)) default = x at hxf hstep
    repeat' (first | refine W.seq ?_ | refine W.rg ?_ | refine W.dra' ?_ | refine W.block ?_ | refine W.skip ?_ | refine W.exit ?_ | refine W.cond_true' ?_ | refine W.cond_false' ?_ | refine WG.nil ?_ | refine WG.run' (E := env) ?_ | refine WG.gt' ?_ | refine WG.gf' ?_ | refine WG.ixm' (E := env) ?_ | refine WG.ixo' (E := env) ?_ | refine WG.legm' (E := env) ?_ | refine WG.slS' (E := env) ?_ | refine WG.slD' (E := env) ?_ | refine WG.ap' (E := env) ?_ | refine WD.nil ?_ | refine WD.bs' (E := env) ?_ | refine WD.s' (E := env) (t := .d _) ?_ | refine WD.p' ?_ | refine WD.px' ?_ | refine WD.s' (E := env) (t := .ea _ _) ?_ | refine WD.s' (E := env) (t := .lp _ _) ?_ | refine WD.s' (E := env) (t := .og _ _) ?_ | refine WD.s' (E := env) (t := .agg _) ?_ | refine WD.s' (E := env) (t := .tup _) ?_ | refine WD.s' (E := env) (t := .clo _ _) ?_ | refine WD.ixm' (E := env) ?_ | refine WD.ixo' (E := env) ?_ | refine WD.legm' (E := env) ?_ | refine WD.slS' (E := env) ?_ | refine WD.slD' (E := env) ?_ | ((first | refine WG.sp' (fun h => ?_) fun h => ?_ | refine W.cond' (fun h => ?_) fun h => ?_ | refine WD.sp' (fun h => ?_) fun h => ?_) <;> (try simp only [decide_eq_true_eq, decide_eq_false_iff_not, Bool.not_eq_true', Bool.not_eq_false', Bool.and_eq_true, Bool.or_eq_true, Bool.and_eq_false_iff, Bool.or_eq_false_iff, Bool.not_eq_true, Bool.not_eq_false, Int.not_lt, Int.not_le, List.length_map, beq_self_eq_true, Bool.true_eq_false, Bool.false_eq_true] at h) <;> (try (exfalso; first | contradiction | omega))))
    all_goals first | (exfalso; omega) | skip
    refine W.loopI (fun m S => ∃ (at_ : Nat) (ai : Int), m = at_ + 1 ∧ (at_ ≤ T.length ∧ ai = at_ ∧ ∀ b ∈ T.drop at_, V.le x b) ∧
      S = ⟨ofL [(2, .lp 0 0), (3, .d (.sl 1 (kids.map partR))), (4, .d (.sl 1 (T.map partR))), (5, vI .i64 i), (6, vI .i64 ai)], [.pv [.d (dI 0), .d (.nl 5)]]⟩) _ _
      ⟨T.length, (T.map partR).length, rfl, ⟨by omega, by simp, by simp⟩, rfl⟩ (St.imp.of_le (by (refine le_ofL rfl ?_ ?_ <;> (repeat (first | exact trivial | refine ⟨⟨rfl, rfl⟩, ?_⟩ | refine ⟨rfl, .inl rfl, ?_⟩ | refine ⟨rfl, .inr rfl, ?_⟩))))) ?_
    rintro m S ⟨at_, ai, rfl, ⟨hat, hai, hQ⟩, rfl⟩
    have i0 : Int.toNat ai = at_ := by omega
    have leave : (at_ = 0 ∨ V.le (T.getD (at_ - 1) default) x) → (kids.take (i + 1)).Perm (T.take at_ ++ x :: T.drop at_) ∧ Srt (T.take at_ ++ x :: T.drop at_) := fun hle => by
      constructor
      · rw [hstep]
        exact (List.perm_append_singleton x _).trans ((hp.cons x).trans (ins_perm x T at_))
      · refine ins_cut hs at_ hat ?_ ?_
        · rcases Nat.eq_zero_or_pos at_ with h0 | h0
          · exact .inl h0
          · exact .inr ⟨h0, hle.resolve_left (by omega)⟩
        · rcases Nat.lt_or_ge at_ T.length with h0 | h0
          · refine .inr (hQ _ ?_)
            rw [List.mem_iff_getElem?]
            exact ⟨0, by rw [List.getElem?_drop, Nat.add_zero]; exact getD_some h0⟩
          · exact .inl (by omega)
    have eA1 : ((T.map partR).drop (Int.toNat 0)).take (Int.toNat ai - Int.toNat 0) = (T.take at_).map partR := by rw [show Int.toNat 0 = 0 from rfl, List.drop_zero, Nat.sub_zero, i0, List.map_take]
    have eA2 : ((T.map partR).drop (Int.toNat ai)).take (Int.toNat ((T.map partR).length : Int) - Int.toNat ai) = (T.drop at_).map partR := by
      rw [i0, Int.toNat_natCast, List.take_of_length_le (by simp), List.map_drop]
    have eX : ((T.map partR).drop (Int.toNat 0)).take (Int.toNat ai - Int.toNat 0) ++ [[cellsD (kids.getD (Int.toNat (i : Int)) default).cells]] ++ ((T.map partR).drop (Int.toNat ai)).take (Int.toNat ((T.map partR).length : Int) - Int.toNat ai) = (T.take at_ ++ x :: T.drop at_).map partR := by
      rw [eA1, eA2, hxx]
      simp [partR, List.map_append]
    by_cases h0 : at_ = 0
    · obtain ⟨q1, q2⟩ := leave (.inl h0)
      repeat' (first | (refine W.dre' (id := 11) [0, 4, 10, 14] (fun f => bif bt f 8 then [.pv [.d (dI 0), .d (.nl 5)], .gr 1 24 ((((T.map partR).drop (Int.toNat 0)).take (Int.toNat ai - Int.toNat 0)) ++ [[cellsD (kids.getD (Int.toNat (i : Int)) default).cells]] ++ (((T.map partR).drop (Int.toNat ai)).take (Int.toNat ((T.map partR).length : Int) - Int.toNat ai))) 3 false] else bif bt f 4 then [.pv [.d (dI 0), .d (.nl 5)], .gr 1 24 ((((T.map partR).drop (Int.toNat 0)).take (Int.toNat ai - Int.toNat 0)) ++ [[cellsD (kids.getD (Int.toNat (i : Int)) default).cells]]) 2 false] else bif bt f 2 then [.pv [.d (dI 0), .d (.nl 5)], .gr 1 24 (((T.map partR).drop (Int.toNat 0)).take (Int.toNat ai - Int.toNat 0)) 1 false] else bif bt f 1 then [.pv [.d (dI 0), .d (.nl 5)], .gr 1 24 [] 0 false] else [.pv [.d (dI 0), .d (.nl 5)]]) [(1, [0]), (0, [0, 1]), (0, [0, 1]), (0, [0, 1]), (2, [1]), (0, [0, 1, 3]), (0, [0, 1, 3]), (0, [0, 1, 3]),  (0, [0, 1, 3]), (0, [0, 1, 3]), (4, [3]), (0, [0, 1, 3, 7]), (0, [0, 1, 3, 7]), (0, [0, 1, 3, 7]), (8, [7]),  (0, [15])] [.pv [.d (dI 0), .d (.nl 5)], .gr 1 24 ((((T.map partR).drop (Int.toNat 0)).take (Int.toNat ai - Int.toNat 0)) ++ [[cellsD (kids.getD (Int.toNat (i : Int)) default).cells]] ++ (((T.map partR).drop (Int.toNat ai)).take (Int.toNat ((T.map partR).length : Int) - Int.toNat ai))) 3 false] ?_) | refine WE.mkd (.og 1 0) ?_ (.c (OpS1.bsO (E := env) rfl rfl rfl rfl rfl rfl rfl rfl rfl rfl rfl rfl) .n) | refine WE.nil ?_ | refine WE.ixP' ?_ | refine WE.s' (E := env) (t := .d _) ?_ | refine WE.p' ?_ | refine WE.px' ?_ | refine WE.s' (E := env) (t := .lp _ _) ?_ | refine WE.s' (E := env) (t := .og _ _) ?_ | refine WE.s' (E := env) (t := .ea _ _) ?_ | refine WE.s' (E := env) (t := .agg _) ?_ | refine WE.s' (E := env) (t := .tup _) ?_ | refine WE.ixm' (E := env) ?_ | refine WE.ixo' (E := env) ?_ | refine WE.leg' (E := env) ?_ | refine WE.slS' (E := env) ?_ | refine WE.slD' (E := env) ?_ | refine WE.ap' (E := env) ?_ | refine WE.st' (E := env) ?_ | refine WE.seg' (E := env) ?_ | refine WE.bs' (E := env) ?_ | refine W.seq ?_ | refine W.rg ?_ | refine W.dra' ?_ | refine W.block ?_ | refine W.skip ?_ | refine W.exit ?_ | refine W.cond_true' ?_ | refine W.cond_false' ?_ | refine WG.nil ?_ | refine WG.run' (E := env) ?_ | refine WG.gt' ?_ | refine WG.gf' ?_ | refine WG.ixm' (E := env) ?_ | refine WG.ixo' (E := env) ?_ | refine WG.legm' (E := env) ?_ | refine WG.slS' (E := env) ?_ | refine WG.slD' (E := env) ?_ | refine WG.ap' (E := env) ?_ | refine WD.nil ?_ | refine WD.bs' (E := env) ?_ | refine WD.s' (E := env) (t := .d _) ?_ | refine WD.p' ?_ | refine WD.px' ?_ | refine WD.s' (E := env) (t := .ea _ _) ?_ | refine WD.s' (E := env) (t := .lp _ _) ?_ | refine WD.s' (E := env) (t := .og _ _) ?_ | refine WD.s' (E := env) (t := .agg _) ?_ | refine WD.s' (E := env) (t := .tup _) ?_ | refine WD.s' (E := env) (t := .clo _ _) ?_ | refine WD.ixm' (E := env) ?_ | refine WD.ixo' (E := env) ?_ | refine WD.legm' (E := env) ?_ | refine WD.slS' (E := env) ?_ | refine WD.slD' (E := env) ?_ | fail | ((first | refine WG.sp' (fun h => ?_) fun h => ?_ | refine W.cond' (fun h => ?_) fun h => ?_ | refine WD.sp' (fun h => ?_) fun h => ?_) <;> (try simp only [decide_eq_true_eq, decide_eq_false_iff_not, Bool.not_eq_true', Bool.not_eq_false', Bool.and_eq_true, Bool.or_eq_true, Bool.and_eq_false_iff, Bool.or_eq_false_iff, Bool.not_eq_true, Bool.not_eq_false, Int.not_lt, Int.not_le, List.length_map, beq_self_eq_true, Bool.true_eq_false, Bool.false_eq_true] at h) <;> (try (exfalso; first | contradiction | omega))))
      all_goals first | (exfalso; omega) | skip
      refine ⟨_, _, ?_, ⟨i + 1, T.take at_ ++ x :: T.drop at_, rfl, ⟨by omega, q1, q2⟩, rfl⟩, (St.imp.pubD 1 rfl).trans ?_⟩
      · omega
      · rw [eX]
        exact (St.imp.of_le (by (refine le_ofL rfl ?_ ?_ <;> (repeat (first | exact trivial | refine ⟨⟨rfl, rfl⟩, ?_⟩ | refine ⟨rfl, .inl rfl, ?_⟩ | refine ⟨rfl, .inr rfl, ?_⟩)))))
    · have i1 : Int.toNat (ai - 1) = at_ - 1 := by omega
      have hc := l1Compare_fn _ (T.getD (Int.toNat (ai - 1)) default) x (Nat.le_refl _) (hTf _ (getD_mem' (by omega))) hxf
      rw [← hxx] at hc
      generalize hc2 : V.cmp (T.getD (Int.toNat (ai - 1)) default) (kids.getD (Int.toNat (i : Int)) default) = c at hc
      rw [hxx, i1] at hc2
      repeat' (first | (refine W.dre' (id := 11) [0, 4, 10, 14] (fun f => bif bt f 8 then [.pv [.d (dI 0), .d (.nl 5)], .gr 1 24 ((((T.map partR).drop (Int.toNat 0)).take (Int.toNat ai - Int.toNat 0)) ++ [[cellsD (kids.getD (Int.toNat (i : Int)) default).cells]] ++ (((T.map partR).drop (Int.toNat ai)).take (Int.toNat ((T.map partR).length : Int) - Int.toNat ai))) 3 false] else bif bt f 4 then [.pv [.d (dI 0), .d (.nl 5)], .gr 1 24 ((((T.map partR).drop (Int.toNat 0)).take (Int.toNat ai - Int.toNat 0)) ++ [[cellsD (kids.getD (Int.toNat (i : Int)) default).cells]]) 2 false] else bif bt f 2 then [.pv [.d (dI 0), .d (.nl 5)], .gr 1 24 (((T.map partR).drop (Int.toNat 0)).take (Int.toNat ai - Int.toNat 0)) 1 false] else bif bt f 1 then [.pv [.d (dI 0), .d (.nl 5)], .gr 1 24 [] 0 false] else [.pv [.d (dI 0), .d (.nl 5)]]) [(1, [0]), (0, [0, 1]), (0, [0, 1]), (0, [0, 1]), (2, [1]), (0, [0, 1, 3]), (0, [0, 1, 3]), (0, [0, 1, 3]),  (0, [0, 1, 3]), (0, [0, 1, 3]), (4, [3]), (0, [0, 1, 3, 7]), (0, [0, 1, 3, 7]), (0, [0, 1, 3, 7]), (8, [7]),  (0, [15])] [.pv [.d (dI 0), .d (.nl 5)], .gr 1 24 ((((T.map partR).drop (Int.toNat 0)).take (Int.toNat ai - Int.toNat 0)) ++ [[cellsD (kids.getD (Int.toNat (i : Int)) default).cells]] ++ (((T.map partR).drop (Int.toNat ai)).take (Int.toNat ((T.map partR).length : Int) - Int.toNat ai))) 3 false] ?_) | refine WE.mkd (.og 1 0) ?_ (.c (OpS1.bsO (E := env) rfl rfl rfl rfl rfl rfl rfl rfl rfl rfl rfl rfl) .n) | refine WE.nil ?_ | refine WE.ixP' ?_ | refine WE.s' (E := env) (t := .d _) ?_ | refine WE.p' ?_ | refine WE.px' ?_ | refine WE.s' (E := env) (t := .lp _ _) ?_ | refine WE.s' (E := env) (t := .og _ _) ?_ | refine WE.s' (E := env) (t := .ea _ _) ?_ | refine WE.s' (E := env) (t := .agg _) ?_ | refine WE.s' (E := env) (t := .tup _) ?_ | refine WE.ixm' (E := env) ?_ | refine WE.ixo' (E := env) ?_ | refine WE.leg' (E := env) ?_ | refine WE.slS' (E := env) ?_ | refine WE.slD' (E := env) ?_ | refine WE.ap' (E := env) ?_ | refine WE.st' (E := env) ?_ | refine WE.seg' (E := env) ?_ | refine WE.bs' (E := env) ?_ | refine W.seq ?_ | refine W.rg ?_ | refine W.dra' ?_ | refine W.block ?_ | refine W.skip ?_ | refine W.exit ?_ | refine W.cond_true' ?_ | refine W.cond_false' ?_ | refine WG.nil ?_ | refine WG.run' (E := env) ?_ | refine WG.gt' ?_ | refine WG.gf' ?_ | refine WG.ixm' (E := env) ?_ | refine WG.ixo' (E := env) ?_ | refine WG.legm' (E := env) ?_ | refine WG.slS' (E := env) ?_ | refine WG.slD' (E := env) ?_ | refine WG.ap' (E := env) ?_ | refine WD.nil ?_ | refine WD.bs' (E := env) ?_ | refine WD.s' (E := env) (t := .d _) ?_ | refine WD.p' ?_ | refine WD.px' ?_ | refine WD.s' (E := env) (t := .ea _ _) ?_ | refine WD.s' (E := env) (t := .lp _ _) ?_ | refine WD.s' (E := env) (t := .og _ _) ?_ | refine WD.s' (E := env) (t := .agg _) ?_ | refine WD.s' (E := env) (t := .tup _) ?_ | refine WD.s' (E := env) (t := .clo _ _) ?_ | refine WD.ixm' (E := env) ?_ | refine WD.ixo' (E := env) ?_ | refine WD.legm' (E := env) ?_ | refine WD.slS' (E := env) ?_ | refine WD.slD' (E := env) ?_ | refine WG.c (E := env) rfl rfl (hc) rfl rfl ?_ | refine WD.c (E := env) rfl rfl (hc) rfl rfl ?_ | refine WG.co (E := env) rfl rfl (hc) rfl rfl rfl rfl ?_ | refine WG.cx (E := env) rfl (hc) rfl ?_ | ((first | refine WG.sp' (fun h => ?_) fun h => ?_ | refine W.cond' (fun h => ?_) fun h => ?_ | refine WD.sp' (fun h => ?_) fun h => ?_) <;> (try simp only [decide_eq_true_eq, decide_eq_false_iff_not, Bool.not_eq_true', Bool.not_eq_false', Bool.and_eq_true, Bool.or_eq_true, Bool.and_eq_false_iff, Bool.or_eq_false_iff, Bool.not_eq_true, Bool.not_eq_false, Int.not_lt, Int.not_le, List.length_map, beq_self_eq_true, Bool.true_eq_false, Bool.false_eq_true] at h) <;> (try (exfalso; first | contradiction | omega))))
      all_goals first | (exfalso; omega) | skip
      · have hcx : V.cmp (T.getD (at_ - 1) default) x > 0 := by omega
        have hlx : V.le x (T.getD (at_ - 1) default) := by
          unfold V.le
          rw [V.cmp_neg (T.getD (at_ - 1) default) x]
          omega
        have edr : T.drop (at_ - 1) = T.getD (at_ - 1) default :: T.drop at_ := by
          have h1 : at_ - 1 < T.length := by omega
          have h2 := List.drop_eq_getElem_cons h1
          rw [h2, show at_ - 1 + 1 = at_ by omega]
          simp [h1]
        refine ⟨_, _, ?_, ⟨at_ - 1, ai - 1, rfl, ⟨by omega, by omega, fun b hb => ?_⟩, rfl⟩, (St.imp.of_le (by (refine le_ofL rfl ?_ ?_ <;> (repeat (first | exact trivial | refine ⟨⟨rfl, rfl⟩, ?_⟩ | refine ⟨rfl, .inl rfl, ?_⟩ | refine ⟨rfl, .inr rfl, ?_⟩)))))⟩
        · omega
        · rw [edr] at hb
          rcases List.mem_cons.1 hb with rfl | hb
          · exact hlx
          · exact hQ b hb
      · have hcx : ¬ V.cmp (T.getD (at_ - 1) default) x > 0 := by omega
        obtain ⟨q1, q2⟩ := leave (.inr (by unfold V.le; omega))
        refine ⟨_, _, ?_, ⟨i + 1, T.take at_ ++ x :: T.drop at_, rfl, ⟨by omega, q1, q2⟩, rfl⟩, (St.imp.pubD 1 rfl).trans ?_⟩
        · omega
        · rw [eX]
          exact (St.imp.of_le (by (refine le_ofL rfl ?_ ?_ <;> (repeat (first | exact trivial | refine ⟨⟨rfl, rfl⟩, ?_⟩ | refine ⟨rfl, .inl rfl, ?_⟩ | refine ⟨rfl, .inr rfl, ?_⟩)))))
  · obtain rfl : i = kids.length := by omega
    rw [List.take_length] at hp
    obtain rfl := sortV_eq hp hs
    repeat' (first | refine W.seq ?_ | refine W.rg ?_ | refine W.dra' ?_ | refine W.block ?_ | refine W.skip ?_ | refine W.exit ?_ | refine W.cond_true' ?_ | refine W.cond_false' ?_ | refine WG.nil ?_ | refine WG.run' (E := env) ?_ | refine WG.gt' ?_ | refine WG.gf' ?_ | refine WG.ixm' (E := env) ?_ | refine WG.ixo' (E := env) ?_ | refine WG.legm' (E := env) ?_ | refine WG.slS' (E := env) ?_ | refine WG.slD' (E := env) ?_ | refine WG.ap' (E := env) ?_ | refine WD.nil ?_ | refine WD.bs' (E := env) ?_ | refine WD.s' (E := env) (t := .d _) ?_ | refine WD.p' ?_ | refine WD.px' ?_ | refine WD.s' (E := env) (t := .ea _ _) ?_ | refine WD.s' (E := env) (t := .lp _ _) ?_ | refine WD.s' (E := env) (t := .og _ _) ?_ | refine WD.s' (E := env) (t := .agg _) ?_ | refine WD.s' (E := env) (t := .tup _) ?_ | refine WD.s' (E := env) (t := .clo _ _) ?_ | refine WD.ixm' (E := env) ?_ | refine WD.ixo' (E := env) ?_ | refine WD.legm' (E := env) ?_ | refine WD.slS' (E := env) ?_ | refine WD.slD' (E := env) ?_ | refine WG.c (E := env) rfl rfl (a1) rfl rfl ?_ | refine WD.c (E := env) rfl rfl (a1) rfl rfl ?_ | refine WG.co (E := env) rfl rfl (a1) rfl rfl rfl rfl ?_ | refine WG.cx (E := env) rfl (a1) rfl ?_ | ((first | refine WG.sp' (fun h => ?_) fun h => ?_ | refine W.cond' (fun h => ?_) fun h => ?_ | refine WD.sp' (fun h => ?_) fun h => ?_) <;> (try simp only [decide_eq_true_eq, decide_eq_false_iff_not, Bool.not_eq_true', Bool.not_eq_false', Bool.and_eq_true, Bool.or_eq_true, Bool.and_eq_false_iff, Bool.or_eq_false_iff, Bool.not_eq_true, Bool.not_eq_false, Int.not_lt, Int.not_le, List.length_map, beq_self_eq_true, Bool.true_eq_false, Bool.false_eq_true] at h) <;> (try (exfalso; first | contradiction | omega))))
    all_goals first | (exfalso; omega) | skip
    (refine W.ret ?_; (first | refine RetQ.b' ?_ | refine RetQ.i' ?_ | refine RetQ.d' ?_ | refine RetQ.t2' ?_ ?_ | refine RetQ.t3' ?_ ?_ ?_))
    rfl

set_option maxHeartbeats 1000000 in
theorem SortOfS_fn (cs : List Cell) (hf : fitsC cs) : Fun env.P 84 [cellsD cs] (.d (resD (oneCode cs (sortO (valOfM cs).1).1) (oneCells cs (sortO (valOfM cs).1).1 (sortO (valOfM cs).1).2))) [] := by
  have h1 := ValueFaultS_fn cs hf.1 hf.2
  unfold oneCode oneCells
  by_cases h0 : (valOfM cs).2 = 0
  · obtain ⟨f1, e1⟩ := valOfM_fine h0
    have h2 := l3Sort_fn _ f1
    rw [← e1] at h2
    rw [h0] at h1
    rw [if_pos h0, if_pos h0]
    generalize outC (sortO (valOfM cs).1).1 (sortO (valOfM cs).1).2 = rs at h2 ⊢
    generalize (sortO (valOfM cs).1).1 = c at h2 ⊢
    refine Fun.intro Try.func84 rfl (by kernel_rfl) rfl ?_
    repeat' (first | refine W.seq ?_ | refine W.rg ?_ | refine W.dra' ?_ | refine W.block ?_ | refine W.skip ?_ | refine W.exit ?_ | refine W.cond_true' ?_ | refine W.cond_false' ?_ | refine WG.nil ?_ | refine WG.run' (E := env) ?_ | refine WG.gt' ?_ | refine WG.gf' ?_ | refine WG.ixm' (E := env) ?_ | refine WG.ixo' (E := env) ?_ | refine WG.legm' (E := env) ?_ | refine WG.slS' (E := env) ?_ | refine WG.slD' (E := env) ?_ | refine WG.ap' (E := env) ?_ | refine WD.nil ?_ | refine WD.bs' (E := env) ?_ | refine WD.s' (E := env) (t := .d _) ?_ | refine WD.p' ?_ | refine WD.px' ?_ | refine WD.s' (E := env) (t := .ea _ _) ?_ | refine WD.s' (E := env) (t := .lp _ _) ?_ | refine WD.s' (E := env) (t := .og _ _) ?_ | refine WD.s' (E := env) (t := .agg _) ?_ | refine WD.s' (E := env) (t := .tup _) ?_ | refine WD.s' (E := env) (t := .clo _ _) ?_ | refine WD.ixm' (E := env) ?_ | refine WD.ixo' (E := env) ?_ | refine WD.legm' (E := env) ?_ | refine WD.slS' (E := env) ?_ | refine WD.slD' (E := env) ?_ | refine WG.c (E := env) rfl rfl (h1) rfl rfl ?_ | refine WD.c (E := env) rfl rfl (h1) rfl rfl ?_ | refine WG.co (E := env) rfl rfl (h1) rfl rfl rfl rfl ?_ | refine WG.cx (E := env) rfl (h1) rfl ?_ | refine WG.c (E := env) rfl rfl (h2) rfl rfl ?_ | refine WD.c (E := env) rfl rfl (h2) rfl rfl ?_ | refine WG.co (E := env) rfl rfl (h2) rfl rfl rfl rfl ?_ | refine WG.cx (E := env) rfl (h2) rfl ?_ | ((first | refine WG.sp' (fun h => ?_) fun h => ?_ | refine W.cond' (fun h => ?_) fun h => ?_ | refine WD.sp' (fun h => ?_) fun h => ?_) <;> (try simp only [decide_eq_true_eq, decide_eq_false_iff_not, Bool.not_eq_true', Bool.not_eq_false', Bool.and_eq_true, Bool.or_eq_true, Bool.and_eq_false_iff, Bool.or_eq_false_iff, Bool.not_eq_true, Bool.not_eq_false, Int.not_lt, Int.not_le, List.length_map, beq_self_eq_true, Bool.true_eq_false, Bool.false_eq_true] at h) <;> (try (exfalso; first | contradiction | omega))))
    (refine W.ret ?_; (first | refine RetQ.b' ?_ | refine RetQ.i' ?_ | refine RetQ.d' ?_ | refine RetQ.t2' ?_ ?_ | refine RetQ.t3' ?_ ?_ ?_))
    rfl
  · rw [if_neg h0, if_neg h0]
    have h2 := l3Bad_fn (valOfM cs).2
    generalize (valOfM cs).2 = c at h0 h1 h2 ⊢
    refine Fun.intro Try.func84 rfl (by kernel_rfl) rfl ?_
    repeat' (first | refine W.seq ?_ | refine W.rg ?_ | refine W.dra' ?_ | refine W.block ?_ | refine W.skip ?_ | refine W.exit ?_ | refine W.cond_true' ?_ | refine W.cond_false' ?_ | refine WG.nil ?_ | refine WG.run' (E := env) ?_ | refine WG.gt' ?_ | refine WG.gf' ?_ | refine WG.ixm' (E := env) ?_ | refine WG.ixo' (E := env) ?_ | refine WG.legm' (E := env) ?_ | refine WG.slS' (E := env) ?_ | refine WG.slD' (E := env) ?_ | refine WG.ap' (E := env) ?_ | refine WD.nil ?_ | refine WD.bs' (E := env) ?_ | refine WD.s' (E := env) (t := .d _) ?_ | refine WD.p' ?_ | refine WD.px' ?_ | refine WD.s' (E := env) (t := .ea _ _) ?_ | refine WD.s' (E := env) (t := .lp _ _) ?_ | refine WD.s' (E := env) (t := .og _ _) ?_ | refine WD.s' (E := env) (t := .agg _) ?_ | refine WD.s' (E := env) (t := .tup _) ?_ | refine WD.s' (E := env) (t := .clo _ _) ?_ | refine WD.ixm' (E := env) ?_ | refine WD.ixo' (E := env) ?_ | refine WD.legm' (E := env) ?_ | refine WD.slS' (E := env) ?_ | refine WD.slD' (E := env) ?_ | refine WG.c (E := env) rfl rfl (h1) rfl rfl ?_ | refine WD.c (E := env) rfl rfl (h1) rfl rfl ?_ | refine WG.co (E := env) rfl rfl (h1) rfl rfl rfl rfl ?_ | refine WG.cx (E := env) rfl (h1) rfl ?_ | refine WG.c (E := env) rfl rfl (h2) rfl rfl ?_ | refine WD.c (E := env) rfl rfl (h2) rfl rfl ?_ | refine WG.co (E := env) rfl rfl (h2) rfl rfl rfl rfl ?_ | refine WG.cx (E := env) rfl (h2) rfl ?_ | ((first | refine WG.sp' (fun h => ?_) fun h => ?_ | refine W.cond' (fun h => ?_) fun h => ?_ | refine WD.sp' (fun h => ?_) fun h => ?_) <;> (try simp only [decide_eq_true_eq, decide_eq_false_iff_not, Bool.not_eq_true', Bool.not_eq_false', Bool.and_eq_true, Bool.or_eq_true, Bool.and_eq_false_iff, Bool.or_eq_false_iff, Bool.not_eq_true, Bool.not_eq_false, Int.not_lt, Int.not_le, List.length_map, beq_self_eq_true, Bool.true_eq_false, Bool.false_eq_true] at h) <;> (try (exfalso; first | contradiction | omega))))
    all_goals first | ((refine W.ret ?_; (first | refine RetQ.b' ?_ | refine RetQ.i' ?_ | refine RetQ.d' ?_ | refine RetQ.t2' ?_ ?_ | refine RetQ.t3' ?_ ?_ ?_)); rfl; done) | exact absurd (by assumption) h0

end Go.Proofs.Ytlegadpbjccelaa
