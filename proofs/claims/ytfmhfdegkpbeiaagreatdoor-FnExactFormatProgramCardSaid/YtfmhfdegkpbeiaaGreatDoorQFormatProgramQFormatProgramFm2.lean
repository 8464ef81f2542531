/-
  The texts of an object's members, by the program. Conditions: a right tree; the table of powers of ten is lent.
-/
import Derived.Test.YtfmhfdegkpbeiaaGreatDoorQFormatProgramQFormatProgramFm1
import Derived.Test.YtfmhfdegkpbeiaaGreatDoorQFormatProgramQFormatProgramWq1
import Derived.Test.YtfmhfdegkpbeiaaGreatDoorQFormatProgramQFormatProgramTb2
set_option linter.unusedVariables false
set_option linter.unusedSimpArgs false
set_option maxRecDepth 100000
namespace Go.Proofs.YtfmhfdegkpbeiaaGreatDoor
open Go.RowKit

/-- Nothing, as a slice of the call's own, beside a table that it is lent. -/
theorem RetR.gnT {P : Program} {fn : Func} {X : ObX} {rest : List Ob} {z : Nat} {e' : TypeId} {e : Exit} {S : St} {ts : List T} (he : e = .ret ∨ e = .normal) (hts : resL S fn.results.toList = some ts) (hok : resOK P S fn.results.toList)
    (hn : nilT (resT ts) = true) (hob : S.ob = .x X 0 :: rest) : RetR P fn 1 (just (.og 1 0) [.x X 0, .gr z e' [] 0 false]) e S := by
  refine ⟨he, ts, hts, hok, fun w0 σ0 w g v hm0 I hv => ?_⟩
  have h2 := RT.nil hn hv
  subst h2
  rw [hob] at I
  have I0 := I.trim (ob' := [.x X 0]) ⟨rfl, .inl rfl, trivial⟩
  obtain ⟨g1, hle, I1, ht⟩ := I0.adopt (by rw [hm0]; exact Nat.le_refl _) z e'
  exact ⟨_, _, g1, ⟨rfl, rfl⟩, I1, ht⟩

theorem len_sum : ∀ l : List ByteArray, l.length ≤ (l.map fun x => x.size + 1).sum
  | [] => Nat.le_refl _
  | x :: r => by
    have := len_sum r
    simp only [List.length_cons, List.map_cons, List.sum_cons]
    omega

abbrev FmtC (q : TypeId × (Nat × Nat)) (ns : List Nd) (f j : Nat) : Prop := FunQ env.P 62 [.d (nodesD ns), .d (dI (j : Int))] [tabO q] (just (.d (dS (fmtF ns f j))) [tabO q])
abbrev MemC (q : TypeId × (Nat × Nat)) (ns : List Nd) (f j : Nat) : Prop := FunQ env.P 108 [.d (nodesD ns), .d (dI (j : Int))] [tabO q] (just (.og 1 0) [tabO q, .gr 1 9 ((memF ns f j).map keyRow) 0 false])

set_option maxHeartbeats 4000000 in
theorem mem_step (q : TypeId × (Nat × Nat)) (ns : List Nd) (f : Nat) (hok : ∀ j, j < ns.length → NodeOK ns j) (hl : ns.length ≤ 1048576) (hcn : ∀ j, j < ns.length → cntF ns j ≤ 1000)
    (ihF : ∀ j, j < f → j < ns.length → FmtC q ns f j) (ihM : ∀ j, j < f → j < ns.length → (ns.getD j default).op = 16 ∨ (ns.getD j default).op = 17 → MemC q ns f j) (k : Nat) (hkf : k < f + 1) (hk : k < ns.length) (h67 : (ns.getD k default).op = 16 ∨ (ns.getD k default).op = 17) : MemC q ns (f + 1) k := by
  have hn := hok k hk
  have he : memF ns (f + 1) k = if (ns.getD k default).op = 16 then [] else memF ns f (ns.getD k default).a.toNat ++ [itemF (ns.getD k default) (fmtF ns f (ns.getD k default).b.toNat)] := by rw [memF]
  unfold MemC
  rw [he]
  have ha := hn.a
  have hb := hn.b
  have hm := hn.mem
  have hq := hn.quo
  have hN : ns.getD (Int.toNat (k : Int)) default = ns.getD k default := by rw [Int.toNat_natCast]
  generalize ns.getD k default = n at *
  refine FunQ.intro Tryz.func108 rfl (by kernel_rfl) rfl ?_
  repeat (first | refine W.seq ?_ | refine W.rg ?_ | refine W.dra' ?_ | refine W.block ?_ | refine W.skip ?_ | refine W.exit ?_ | refine W.cond_true' ?_ | refine W.cond_false' ?_ | refine WG.nil ?_ | refine WG.run' (E := env) ?_ | refine WG.gt' ?_ | refine WG.gf' ?_ | refine WG.ixm' (E := env) ?_ | refine WG.ixo' (E := env) ?_ | refine WG.legm' (E := env) ?_ | refine WG.slS' (E := env) ?_ | refine WG.slD' (E := env) ?_ | refine WG.ap' (E := env) ?_ | refine WD.nil ?_ | refine WD.bs' (E := env) ?_ | refine WD.s' (E := env) (t := .d _) ?_ | refine WD.p' ?_ | refine WD.px' ?_ | refine WD.s' (E := env) (t := .ea _ _) ?_ | refine WD.s' (E := env) (t := .lp _ _) ?_ | refine WD.s' (E := env) (t := .og _ _) ?_ | refine WD.s' (E := env) (t := .agg _) ?_ | refine WD.s' (E := env) (t := .tup _) ?_ | refine WD.s' (E := env) (t := .clo _ _) ?_ | refine WD.ixm' (E := env) ?_ | refine WD.ixo' (E := env) ?_ | refine WD.legm' (E := env) ?_ | refine WD.slS' (E := env) ?_ | refine WD.slD' (E := env) ?_)
  rw [hN]
  by_cases h6 : n.op = 16
  · rw [if_pos h6]
    repeat' (first | refine W.seq ?_ | refine W.rg ?_ | refine W.dra' ?_ | refine W.block ?_ | refine W.skip ?_ | refine W.exit ?_ | refine W.cond_true' ?_ | refine W.cond_false' ?_ | refine WG.nil ?_ | refine WG.run' (E := env) ?_ | refine WG.gt' ?_ | refine WG.gf' ?_ | refine WG.ixm' (E := env) ?_ | refine WG.ixo' (E := env) ?_ | refine WG.legm' (E := env) ?_ | refine WG.slS' (E := env) ?_ | refine WG.slD' (E := env) ?_ | refine WG.ap' (E := env) ?_ | refine WD.nil ?_ | refine WD.bs' (E := env) ?_ | refine WD.s' (E := env) (t := .d _) ?_ | refine WD.p' ?_ | refine WD.px' ?_ | refine WD.s' (E := env) (t := .ea _ _) ?_ | refine WD.s' (E := env) (t := .lp _ _) ?_ | refine WD.s' (E := env) (t := .og _ _) ?_ | refine WD.s' (E := env) (t := .agg _) ?_ | refine WD.s' (E := env) (t := .tup _) ?_ | refine WD.s' (E := env) (t := .clo _ _) ?_ | refine WD.ixm' (E := env) ?_ | refine WD.ixo' (E := env) ?_ | refine WD.legm' (E := env) ?_ | refine WD.slS' (E := env) ?_ | refine WD.slD' (E := env) ?_ | ((first | refine WG.sp' (fun h => ?_) fun h => ?_ | refine W.cond' (fun h => ?_) fun h => ?_ | refine WD.sp' (fun h => ?_) fun h => ?_) <;> (try simp only [decide_eq_true_eq, decide_eq_false_iff_not, Bool.not_eq_true', Bool.not_eq_false', Bool.and_eq_true, Bool.or_eq_true, Bool.and_eq_false_iff, Bool.or_eq_false_iff, Bool.not_eq_true, Bool.not_eq_false, Int.not_lt, Int.not_le, List.length_map, beq_self_eq_true, Bool.true_eq_false, Bool.false_eq_true] at h) <;> (try (exfalso; first | contradiction | omega))))
    all_goals first | (exfalso; omega) | skip
    all_goals (refine W.ret ?_; exact RetR.gnT (.inl rfl) rfl (by first | trivial | exact resOK_of (E := env) rfl) rfl rfl)
  · rw [if_neg h6]
    have h7 : n.op = 17 := by omega
    have ar : arN n.op = 2 := by rw [h7]; rfl
    obtain ⟨a0, a1⟩ := ha (by omega)
    obtain ⟨b0, b1⟩ := hb (by omega)
    have hA := ihM n.a.toNat (by omega) (by omega) (hm h7)
    have hB := ihF n.b.toNat (by omega) (by omega)
    have hBz := (fmt_sizes hok f).1 n.b.toNat (by omega) (by omega)
    have hBc := hcn n.b.toNat (by omega)
    have hqt := hq (.inr h7)
    have hqs := quoted_small hqt
    have hqe := encodeString_fn n.text (by have := okText_size hqt; omega)
    unfold MemC at hA
    unfold FmtC at hB
    rw [show ((n.a.toNat : Nat) : Int) = n.a by omega] at hA
    rw [show ((n.b.toNat : Nat) : Int) = n.b by omega] at hB
    unfold itemF
    rw [List.map_append]
    have hRl : ((memF ns f n.a.toNat).map keyRow).length ≤ 200000 := by
      have h1 := (fmt_sizes hok f).2 n.a.toNat (by omega) (by omega) (hm h7)
      have h2 := len_sum (memF ns f n.a.toNat)
      have h3 := hcn n.a.toNat (by omega)
      rw [List.length_map]
      omega
    generalize (memF ns f n.a.toNat).map keyRow = R at *
    generalize fmtF ns f n.b.toNat = B at *
    generalize quoted n.text = qk at *
    have z1 : (qk ++ ⟨#[58]⟩).size = qk.size + 1 := by rw [ByteArray.size_append]; rfl
    have z2 : (⟨#[58]⟩ : ByteArray).size = 1 := rfl
    repeat' (first | (refine W.dre' (id := 4) [3, 14] (fun f => bif bt f 2 then [tabO q, .pv (n.row.map .d), .gr 1 9 (R ++ [keyRow ((qk ++ ⟨#[58]⟩) ++ B)]) 1 false] else bif bt f 1 then [tabO q, .pv (n.row.map .d), .gr 1 9 R 0 false] else [tabO q, .pv (n.row.map .d)]) [(0, [0]), (0, [0]), (0, [0]), (1, [0]), (0, [0, 1]), (0, [0, 1]), (0, [1]), (0, [1]), (0, [0, 1]), (0, [0, 1]), (0, [0, 1]), (0, [1]), (0, [1]), (0, [1]), (2, [1]), (0, [3])] [tabO q, .pv (n.row.map .d), .gr 1 9 (R ++ [keyRow ((qk ++ ⟨#[58]⟩) ++ B)]) 1 false] ?_) | refine WE.nil ?_ | refine WE.ixP' ?_ | refine WE.s' (E := env) (t := .d _) ?_ | refine WE.p' ?_ | refine WE.px' ?_ | refine WE.s' (E := env) (t := .lp _ _) ?_ | refine WE.s' (E := env) (t := .og _ _) ?_ | refine WE.s' (E := env) (t := .ea _ _) ?_ | refine WE.s' (E := env) (t := .agg _) ?_ | refine WE.s' (E := env) (t := .tup _) ?_ | refine WE.ixm' (E := env) ?_ | refine WE.ixo' (E := env) ?_ | refine WE.leg' (E := env) ?_ | refine WE.slS' (E := env) ?_ | refine WE.slD' (E := env) ?_ | refine WE.ap' (E := env) ?_ | refine WE.st' (E := env) ?_ | refine WE.seg' (E := env) ?_ | refine WE.bs' (E := env) ?_ | (refine WE.mkd (.og 2 0) ?_ ?_; rotate_left; exact .c (OpS1.cq (E := env) [0] [0] false rfl rfl hA rfl rfl rfl rfl rfl rfl rfl ⟨rfl, trivial⟩ (.inl rfl) rfl (fun h => nomatch h) rfl rfl) .n) | (refine WE.mkd (.d (dS B)) ?_ ?_; rotate_left; exact .c (OpS1.cq (E := env) [0] [0] false rfl rfl hB rfl rfl rfl rfl rfl rfl rfl ⟨rfl, trivial⟩ (.inl rfl) rfl (fun h => nomatch h) rfl rfl) .n) | (refine WE.mkd (.d (dS qk)) ?_ ?_; rotate_left; exact .c (OpS1.c (E := env) rfl rfl hqe rfl rfl) .n) | refine W.seq ?_ | refine W.rg ?_ | refine W.dra' ?_ | refine W.block ?_ | refine W.skip ?_ | refine W.exit ?_ | refine W.cond_true' ?_ | refine W.cond_false' ?_ | refine WG.nil ?_ | refine WG.run' (E := env) ?_ | refine WG.gt' ?_ | refine WG.gf' ?_ | refine WG.ixm' (E := env) ?_ | refine WG.ixo' (E := env) ?_ | refine WG.legm' (E := env) ?_ | refine WG.slS' (E := env) ?_ | refine WG.slD' (E := env) ?_ | refine WG.ap' (E := env) ?_ | refine WD.nil ?_ | refine WD.bs' (E := env) ?_ | refine WD.s' (E := env) (t := .d _) ?_ | refine WD.p' ?_ | refine WD.px' ?_ | refine WD.s' (E := env) (t := .ea _ _) ?_ | refine WD.s' (E := env) (t := .lp _ _) ?_ | refine WD.s' (E := env) (t := .og _ _) ?_ | refine WD.s' (E := env) (t := .agg _) ?_ | refine WD.s' (E := env) (t := .tup _) ?_ | refine WD.s' (E := env) (t := .clo _ _) ?_ | refine WD.ixm' (E := env) ?_ | refine WD.ixo' (E := env) ?_ | refine WD.legm' (E := env) ?_ | refine WD.slS' (E := env) ?_ | refine WD.slD' (E := env) ?_ | fail | ((first | refine WG.sp' (fun h => ?_) fun h => ?_ | refine W.cond' (fun h => ?_) fun h => ?_ | refine WD.sp' (fun h => ?_) fun h => ?_) <;> (try simp only [decide_eq_true_eq, decide_eq_false_iff_not, Bool.not_eq_true', Bool.not_eq_false', Bool.and_eq_true, Bool.or_eq_true, Bool.and_eq_false_iff, Bool.or_eq_false_iff, Bool.not_eq_true, Bool.not_eq_false, Int.not_lt, Int.not_le, List.length_map, beq_self_eq_true, Bool.true_eq_false, Bool.false_eq_true] at h) <;> (try (exfalso; first | contradiction | omega))))
    all_goals first | (exfalso; omega) | skip
    refine W.ret ?_
    exact RetR.own (ob' := [tabO q, .gr 1 9 (R ++ [keyRow ((qk ++ ⟨#[58]⟩) ++ B)]) 0 false]) ⟨[0, 2], [0, 1], 3⟩ (.inl rfl) rfl (by first | trivial | exact resOK_of (E := env) rfl) rfl rfl rfl rfl rfl rfl ⟨rfl, rfl, trivial⟩ rfl ⟨rfl, rfl⟩

end Go.Proofs.YtfmhfdegkpbeiaaGreatDoor
