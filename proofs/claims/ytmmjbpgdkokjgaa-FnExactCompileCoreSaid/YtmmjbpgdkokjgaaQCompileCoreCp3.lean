/-
  Small steps of making instructions, by the program and by the reference. Conditions: at most 100000 instructions, values of at most 2^20 cells.
-/
import Derived.Test.YtmmjbpgdkokjgaaQCompileCoreCp2
import Derived.Test.YtmmjbpgdkokjgaaQCompileCoreNg1
import Derived.Test.YtmmjbpgdkokjgaaQCompileCoreIm1
import Derived.Test.YtmmjbpgdkokjgaaQCompileCorePp2
set_option linter.unusedVariables false
set_option linter.unusedSimpArgs false
set_option maxRecDepth 100000
namespace Go.Proofs.Ytmmjbpgdkokjgaa
open Go.RowKit

abbrev neI (rows : List NR) (dd : Option (List (List D))) : ObX := nestX 73 3 2 81 5 rows none dd
def insN (x : Ins) : NR := ⟨[dI x.op, dI x.arg, .v undef], some (x.val.map Cell.row)⟩
theorem insN_dat (xs : List Ins) : datN 2 5 (xs.map insN) = some (xs.map Ins.row) := datN_map 2 5 _ _ xs
def rwI (s : Cst) : List NR := s.L.map insN
theorem rwI_len (s : Cst) : (rwI s).length = s.L.length := by simp [rwI]
theorem rwI_put (s : Cst) (op arg : Int) : rwI s ++ [⟨[dI op, dI arg, .v undef], some []⟩] = rwI (s.put op arg) := by simp [rwI, Cst.put, insN]
theorem rwI_val (s : Cst) (op : Int) (v : List Cell) : rwI s ++ [⟨[dI op, dI 0, .v undef], some (v.map Cell.row)⟩] = rwI (s.val op v) := by simp [rwI, Cst.val, insN]
theorem rwI_at (s : Cst) {i : Nat} (h : i < s.L.length) : (rwI s)[i]? = some (insN (s.L.getD i default)) := by simp [rwI, h]
theorem rwI_here (s : Cst) (i : Nat) : (rwI s).set i ⟨[dI (s.L.getD i default).op, dI s.L.length, .v undef], some ((s.L.getD i default).val.map Cell.row)⟩ = rwI (s.here i) := by
  unfold rwI Cst.here
  rw [List.map_set]
  rfl

/-- What the reference's maker is. -/
abbrev mkO (cs : List Co) (s : Cst) (w : Nat) : List Ob := [.pv [.d (coresD cs), .og 1 w, .d (dI s.many)], .x (neI (rwI s) none) w]

/-- What the program's maker is. -/
abbrev miO (cs : List Co) (s : Cst) (b w : Nat) : List Ob := [.pv [.d (coresD cs), .og 1 w, .d (dI s.many), imT b], .x (neI (rwI s) none) w]

theorem RetR.mk2 {P : Program} {fn : Func} {e : Exit} {S : St} {ts : List T} {t : T} {c1 : List T} {X : ObX} {w : Nat} {rest : List Ob} (he : e = .ret ∨ e = .normal) (hts : resL S fn.results.toList = some ts) (hok : resOK P S fn.results.toList)
    (hn : norm S.ob (resT ts) = T.ren ⟨[0, 1], [0, 0], S.ob.length⟩ t) (hlp : T.lpOK ⟨[0, 1], [0, 0], S.ob.length⟩ t = true) (hob : S.ob = .pv c1 :: .x X w :: rest) (hc : T.renL ⟨[0, 1], [0, 0], S.ob.length⟩ c1 = c1) (hl : T.lpOKL ⟨[0, 1], [0, 0], S.ob.length⟩ c1 = true) :
    RetR P fn 2 (just t [.pv c1, .x X w]) e S := by
  refine RetR.own (ob' := [.pv c1, .x X w]) ⟨[0, 1], [0, 0], S.ob.length⟩ he hts hok hn hlp rfl rfl rfl (by simp [renOKL, Ob.renOK, Rn.of, hl]) ⟨?_, ?_, trivial⟩ rfl ⟨rfl, rfl⟩
  · have hc' := hc
    rw [hob] at hc' ⊢
    show some (Ob.pv c1) = some (.pv (T.renL _ c1))
    rw [hc']
  · rw [hob]; simp [Ob.ren, Rn.of, Rn.ix]

set_option maxHeartbeats 2000000 in
theorem l8Put_fn (cs : List Co) (s : Cst) (op arg : Int) (hl : s.L.length ≤ 100000) : FunQ env.P 16 [.lp 0 0, .d (dI op), .d (dI arg)] (mkO cs s 0) (just (.d (dI s.L.length)) (mkO cs (s.put op arg) 1)) := by
  have hr := rwI_put s op arg
  have hlen := rwI_len s
  have hlen2 := rwI_len (s.put op arg)
  rw [Cst.put_len] at hlen2
  have hres : (((rwI (s.put op arg)).length : Nat) : Int) - 1 = s.L.length := by omega
  rw [← hres]
  clear hres
  refine FunQ.intro Try.func16 rfl (by kernel_rfl) rfl ?_
  unfold mkO
  generalize rwI (s.put op arg) = R' at *
  generalize rwI s = R at *
  refine W.seq ?_
  refine W.rg ?_
  refine WG.run' (E := env) ?_
  first | refine WG.nil ?_ | skip
  refine W.seq ?_
  refine W.rg ?_
  refine WG.runN (E := env) 8 ?_
  refine WG.adoptD 14 2 5 81 rfl rfl rfl ?_
  repeat' (first | refine WG.bsN (E := env) (j0 := 2) (K := 2) rfl rfl rfl rfl rfl rfl rfl rfl rfl rfl rfl rfl rfl ?_ | (refine WG.apNest (E := env) rfl rfl rfl rfl rfl rfl rfl rfl rfl rfl rfl rfl (by refine Nat.le_trans (Nat.mul_le_mul_right _ (m := 2097152) ?_) (Nat.le_of_ble_eq_true rfl); simp only [List.length_cons, List.length_nil]; omega) ?_; rw [hr]) | refine WG.lenN' (E := env) ?_ | refine W.seq ?_ | refine W.rg ?_ | refine W.dra' ?_ | refine W.block ?_ | refine W.skip ?_ | refine W.exit ?_ | refine W.cond_true' ?_ | refine W.cond_false' ?_ | refine WG.nil ?_ | refine WG.run' (E := env) ?_ | refine WG.gt' ?_ | refine WG.gf' ?_ | refine WG.ixm' (E := env) ?_ | refine WG.ixo' (E := env) ?_ | refine WG.legm' (E := env) ?_ | refine WG.slS' (E := env) ?_ | refine WG.slD' (E := env) ?_ | refine WG.ap' (E := env) ?_ | refine WD.nil ?_ | refine WD.bs' (E := env) ?_ | refine WD.s' (E := env) (t := .d _) ?_ | refine WD.p' ?_ | refine WD.px' ?_ | refine WD.s' (E := env) (t := .ea _ _) ?_ | refine WD.s' (E := env) (t := .lp _ _) ?_ | refine WD.s' (E := env) (t := .og _ _) ?_ | refine WD.s' (E := env) (t := .agg _) ?_ | refine WD.s' (E := env) (t := .tup _) ?_ | refine WD.s' (E := env) (t := .clo _ _) ?_ | refine WD.ixm' (E := env) ?_ | refine WD.ixo' (E := env) ?_ | refine WD.legm' (E := env) ?_ | refine WD.slS' (E := env) ?_ | refine WD.slD' (E := env) ?_ | fail | ((first | refine WG.sp' (fun h => ?_) fun h => ?_ | refine W.cond' (fun h => ?_) fun h => ?_ | refine WD.sp' (fun h => ?_) fun h => ?_) <;> (try simp only [atS, List.length_map, beq_self_eq_true] at h) <;> (try (exfalso; first | contradiction | omega))))
  refine W.ret ?_
  exact RetR.mk2 (.inl rfl) rfl (by first | trivial | exact resOK_of (E := env) rfl) rfl rfl rfl rfl rfl

theorem sizeI_fn (R : List NR) : FunQ env.P 57 [.og 0 0] [.x (neI R none) 0] (just (.d (dI R.length)) [.x (neI R none) 0]) := by
  refine FunQ.intro Try.func57 rfl (by kernel_rfl) rfl ?_
  repeat' (first | refine WG.lenN' (E := env) ?_ | refine W.seq ?_ | refine W.rg ?_ | refine W.dra' ?_ | refine W.block ?_ | refine W.skip ?_ | refine W.exit ?_ | refine W.cond_true' ?_ | refine W.cond_false' ?_ | refine WG.nil ?_ | refine WG.run' (E := env) ?_ | refine WG.gt' ?_ | refine WG.gf' ?_ | refine WG.ixm' (E := env) ?_ | refine WG.ixo' (E := env) ?_ | refine WG.legm' (E := env) ?_ | refine WG.slS' (E := env) ?_ | refine WG.slD' (E := env) ?_ | refine WG.ap' (E := env) ?_ | refine WD.nil ?_ | refine WD.bs' (E := env) ?_ | refine WD.s' (E := env) (t := .d _) ?_ | refine WD.p' ?_ | refine WD.px' ?_ | refine WD.s' (E := env) (t := .ea _ _) ?_ | refine WD.s' (E := env) (t := .lp _ _) ?_ | refine WD.s' (E := env) (t := .og _ _) ?_ | refine WD.s' (E := env) (t := .agg _) ?_ | refine WD.s' (E := env) (t := .tup _) ?_ | refine WD.s' (E := env) (t := .clo _ _) ?_ | refine WD.ixm' (E := env) ?_ | refine WD.ixo' (E := env) ?_ | refine WD.legm' (E := env) ?_ | refine WD.slS' (E := env) ?_ | refine WD.slD' (E := env) ?_ | fail | ((first | refine WG.sp' (fun h => ?_) fun h => ?_ | refine W.cond' (fun h => ?_) fun h => ?_ | refine WD.sp' (fun h => ?_) fun h => ?_) <;> (try simp only [atS, List.length_map, beq_self_eq_true] at h) <;> (try (exfalso; first | contradiction | omega))))
  refine W.ret ?_
  exact RetR.own (ob' := [.x (neI R none) 0]) ⟨[0], [0], 1⟩ (.inl rfl) rfl (by first | trivial | exact resOK_of (E := env) rfl) rfl rfl rfl rfl rfl rfl ⟨rfl, trivial⟩ rfl ⟨rfl, rfl⟩

set_option maxHeartbeats 2000000 in
theorem cPut_fn (b : Nat) (cs : List Co) (s : Cst) (op arg : Int) (hl : s.L.length ≤ 100000) : FunQ env.P 21 [.lp 0 0, .d (dI op), .d (dI arg)] (miO cs s b 0) (just (.d (dI s.L.length)) (miO cs (s.put op arg) b 1)) := by
  have hr := rwI_put s op arg
  have hlen := rwI_len s
  have hlen2 := rwI_len (s.put op arg)
  rw [Cst.put_len] at hlen2
  have hres : (((rwI (s.put op arg)).length : Nat) : Int) - 1 = s.L.length := by omega
  rw [← hres]
  clear hres
  have hsz := sizeI_fn (rwI (s.put op arg))
  refine FunQ.intro Try.func21 rfl (by kernel_rfl) rfl ?_
  unfold miO
  generalize rwI (s.put op arg) = R' at *
  generalize rwI s = R at *
  refine W.seq ?_
  refine W.rg ?_
  refine WG.run' (E := env) ?_
  first | refine WG.nil ?_ | skip
  refine W.seq ?_
  refine W.rg ?_
  refine WG.runN (E := env) 8 ?_
  refine WG.adoptD 14 2 5 81 rfl rfl rfl ?_
  repeat' (first | refine WG.bsN (E := env) (j0 := 2) (K := 2) rfl rfl rfl rfl rfl rfl rfl rfl rfl rfl rfl rfl rfl ?_ | (refine WG.apNest (E := env) rfl rfl rfl rfl rfl rfl rfl rfl rfl rfl rfl rfl (by refine Nat.le_trans (Nat.mul_le_mul_right _ (m := 2097152) ?_) (Nat.le_of_ble_eq_true rfl); simp only [List.length_cons, List.length_nil]; omega) ?_; rw [hr]) | refine WG.lenN' (E := env) ?_ | refine W.seq ?_ | refine W.rg ?_ | refine W.dra' ?_ | refine W.block ?_ | refine W.skip ?_ | refine W.exit ?_ | refine W.cond_true' ?_ | refine W.cond_false' ?_ | refine WG.nil ?_ | refine WG.run' (E := env) ?_ | refine WG.gt' ?_ | refine WG.gf' ?_ | refine WG.ixm' (E := env) ?_ | refine WG.ixo' (E := env) ?_ | refine WG.legm' (E := env) ?_ | refine WG.slS' (E := env) ?_ | refine WG.slD' (E := env) ?_ | refine WG.ap' (E := env) ?_ | refine WD.nil ?_ | refine WD.bs' (E := env) ?_ | refine WD.s' (E := env) (t := .d _) ?_ | refine WD.p' ?_ | refine WD.px' ?_ | refine WD.s' (E := env) (t := .ea _ _) ?_ | refine WD.s' (E := env) (t := .lp _ _) ?_ | refine WD.s' (E := env) (t := .og _ _) ?_ | refine WD.s' (E := env) (t := .agg _) ?_ | refine WD.s' (E := env) (t := .tup _) ?_ | refine WD.s' (E := env) (t := .clo _ _) ?_ | refine WD.ixm' (E := env) ?_ | refine WD.ixo' (E := env) ?_ | refine WD.legm' (E := env) ?_ | refine WD.slS' (E := env) ?_ | refine WD.slD' (E := env) ?_ | refine WG.cq (E := env) [1] [1] false rfl rfl (hsz) rfl rfl rfl rfl rfl rfl rfl (by first | exact trivial | exact ⟨rfl, trivial⟩ | exact ⟨rfl, rfl, trivial⟩) (.inl rfl) rfl (fun h => nomatch h) rfl rfl ?_ | refine WG.cqx (E := env) [1] [1] false rfl (hsz) rfl rfl rfl rfl rfl rfl rfl (by first | exact trivial | exact ⟨rfl, trivial⟩ | exact ⟨rfl, rfl, trivial⟩) (.inl rfl) rfl (fun h => nomatch h) rfl ?_ | ((first | refine WG.sp' (fun h => ?_) fun h => ?_ | refine W.cond' (fun h => ?_) fun h => ?_ | refine WD.sp' (fun h => ?_) fun h => ?_) <;> (try simp only [atS, List.length_map, beq_self_eq_true] at h) <;> (try (exfalso; first | contradiction | omega))))
  refine W.ret ?_
  exact RetR.mk2 (.inl rfl) rfl (by first | trivial | exact resOK_of (E := env) rfl) rfl rfl rfl rfl rfl

set_option maxHeartbeats 2000000 in
theorem l8Here_fn (cs : List Co) (s : Cst) (i : Nat) (hi : i < s.L.length) (hl : s.L.length ≤ 100000) : FunQ env.P 37 [.lp 0 0, .d (dI (i : Int))] (mkO cs s 0) (just (.tup []) (mkO cs (s.here i) 0)) := by
  have hr := rwI_here s i
  have hlen := rwI_len s
  have hat := rwI_at s hi
  have hin : Int.toNat (i : Int) = i := Int.toNat_natCast i
  rw [← hin] at hat hr
  refine FunQ.intro Try.func37 rfl (by kernel_rfl) rfl ?_
  unfold mkO
  have hm : (s.here i).many = s.many := rfl
  rw [hm]
  clear hm
  rw [show s.here i = s.here (Int.toNat (i : Int)) by rw [hin], ← hr]
  generalize s.L.getD (Int.toNat (i : Int)) default = x at *
  clear hr
  rw [← hlen]
  generalize s.many = mn at *
  generalize rwI s = R at *
  repeat' (first | refine W.dre' (id := 0) [12] (fun f => bif bt f 1 then [.pv [.d (coresD cs), .og 1 0, .d (dI mn)], .x (neI (R.set (Int.toNat (i : Int)) ⟨[dI x.op, dI R.length, .v undef], some (x.val.map Cell.row)⟩) none) 0] else [.pv [.d (coresD cs), .og 1 0, .d (dI mn)], .x (neI R none) 0]) [(0, [0]), (0, [0]), (0, [0]), (0, [0]), (0, [0]), (0, [0]), (0, [0]), (0, [0]), (0, [0]), (0, [0]), (0, [0]), (0, [0]), (1, [0])] [.pv [.d (coresD cs), .og 1 0, .d (dI mn)], .x (neI (R.set (Int.toNat (i : Int)) ⟨[dI x.op, dI R.length, .v undef], some (x.val.map Cell.row)⟩) none) 0] ?_ | refine WE.mkd (vI .i64 R.length) ?_ (.c (OpS1.lenN (E := env) rfl rfl rfl rfl rfl) .n) | refine WE.mkd (.eg 1 0 3 (Int.toNat (i : Int)) 0) ?_ (.c (OpS1.ixN (E := env) (i := (i : Int)) rfl rfl rfl rfl rfl rfl rfl rfl ⟨by omega, by omega⟩) .n) | refine WE.s' (E := env) (t := .eg 1 0 3 (Int.toNat (i : Int)) 1) ?_ | refine WE.mkx .any ?_ (.c (OpS1.stND (E := env) rfl rfl rfl rfl hat rfl rfl rfl rfl rfl rfl) .n) | refine WE.nil ?_ | refine WE.ixP' ?_ | refine WE.s' (E := env) (t := .d _) ?_ | refine WE.p' ?_ | refine WE.px' ?_ | refine WE.s' (E := env) (t := .lp _ _) ?_ | refine WE.s' (E := env) (t := .og _ _) ?_ | refine WE.s' (E := env) (t := .ea _ _) ?_ | refine WE.s' (E := env) (t := .agg _) ?_ | refine WE.s' (E := env) (t := .tup _) ?_ | refine WE.ixm' (E := env) ?_ | refine WE.ixo' (E := env) ?_ | refine WE.leg' (E := env) ?_ | refine WE.slS' (E := env) ?_ | refine WE.slD' (E := env) ?_ | refine WE.ap' (E := env) ?_ | refine WE.st' (E := env) ?_ | refine WE.seg' (E := env) ?_ | refine WE.bs' (E := env) ?_ | refine W.seq ?_ | refine W.rg ?_ | refine W.dra' ?_ | refine W.block ?_ | refine W.skip ?_ | refine W.exit ?_ | refine W.cond_true' ?_ | refine W.cond_false' ?_ | refine WG.nil ?_ | refine WG.run' (E := env) ?_ | refine WG.gt' ?_ | refine WG.gf' ?_ | refine WG.ixm' (E := env) ?_ | refine WG.ixo' (E := env) ?_ | refine WG.legm' (E := env) ?_ | refine WG.slS' (E := env) ?_ | refine WG.slD' (E := env) ?_ | refine WG.ap' (E := env) ?_ | refine WD.nil ?_ | refine WD.bs' (E := env) ?_ | refine WD.s' (E := env) (t := .d _) ?_ | refine WD.p' ?_ | refine WD.px' ?_ | refine WD.s' (E := env) (t := .ea _ _) ?_ | refine WD.s' (E := env) (t := .lp _ _) ?_ | refine WD.s' (E := env) (t := .og _ _) ?_ | refine WD.s' (E := env) (t := .agg _) ?_ | refine WD.s' (E := env) (t := .tup _) ?_ | refine WD.s' (E := env) (t := .clo _ _) ?_ | refine WD.ixm' (E := env) ?_ | refine WD.ixo' (E := env) ?_ | refine WD.legm' (E := env) ?_ | refine WD.slS' (E := env) ?_ | refine WD.slD' (E := env) ?_ | fail | ((first | refine WG.sp' (fun h => ?_) fun h => ?_ | refine W.cond' (fun h => ?_) fun h => ?_ | refine WD.sp' (fun h => ?_) fun h => ?_) <;> (try simp only [atS, List.length_map, beq_self_eq_true] at h) <;> (try (exfalso; first | contradiction | omega))))
  exact RetR.mk2 (.inr rfl) rfl (by first | trivial | exact resOK_of (E := env) rfl) rfl rfl rfl rfl rfl

set_option maxHeartbeats 2000000 in
theorem cHere_fn (b : Nat) (cs : List Co) (s : Cst) (i : Nat) (hi : i < s.L.length) (hl : s.L.length ≤ 100000) : FunQ env.P 49 [.lp 0 0, .d (dI (i : Int))] (miO cs s b 0) (just (.tup []) (miO cs (s.here i) b 0)) := by
  have hr := rwI_here s i
  have hlen := rwI_len s
  have hat := rwI_at s hi
  have hin : Int.toNat (i : Int) = i := Int.toNat_natCast i
  rw [← hin] at hat hr
  refine FunQ.intro Try.func49 rfl (by kernel_rfl) rfl ?_
  unfold miO
  have hm : (s.here i).many = s.many := rfl
  rw [hm]
  clear hm
  rw [show s.here i = s.here (Int.toNat (i : Int)) by rw [hin], ← hr]
  generalize s.L.getD (Int.toNat (i : Int)) default = x at *
  clear hr
  have hsz := sizeI_fn (rwI s)
  rw [hlen] at hsz
  generalize s.many = mn at *
  generalize rwI s = R at *
  repeat' (first | refine W.dre' (id := 0) [12] (fun f => bif bt f 1 then [.pv [.d (coresD cs), .og 1 0, .d (dI mn), imT b], .x (neI (R.set (Int.toNat (i : Int)) ⟨[dI x.op, dI s.L.length, .v undef], some (x.val.map Cell.row)⟩) none) 0] else [.pv [.d (coresD cs), .og 1 0, .d (dI mn), imT b], .x (neI R none) 0]) [(0, [0]), (0, [0]), (0, [0]), (0, [0]), (0, [0]), (0, [0]), (0, [0]), (0, [0]), (0, [0]), (0, [0]), (0, [0]), (0, [0]), (1, [0])] [.pv [.d (coresD cs), .og 1 0, .d (dI mn), imT b], .x (neI (R.set (Int.toNat (i : Int)) ⟨[dI x.op, dI s.L.length, .v undef], some (x.val.map Cell.row)⟩) none) 0] ?_ | refine WE.mkd (.d (dI s.L.length)) ?_ (.c (OpS1.cqM (E := env) (cap := []) [1] [0] rfl rfl hsz rfl rfl rfl rfl rfl rfl rfl ⟨rfl, trivial⟩ rfl rfl rfl) .n) | refine WE.mkd (.eg 1 0 3 (Int.toNat (i : Int)) 0) ?_ (.c (OpS1.ixN (E := env) (i := (i : Int)) rfl rfl rfl rfl rfl rfl rfl rfl ⟨by omega, by omega⟩) .n) | refine WE.s' (E := env) (t := .eg 1 0 3 (Int.toNat (i : Int)) 1) ?_ | refine WE.mkx .any ?_ (.c (OpS1.stND (E := env) rfl rfl rfl rfl hat rfl rfl rfl rfl rfl rfl) .n) | refine WE.nil ?_ | refine WE.ixP' ?_ | refine WE.s' (E := env) (t := .d _) ?_ | refine WE.p' ?_ | refine WE.px' ?_ | refine WE.s' (E := env) (t := .lp _ _) ?_ | refine WE.s' (E := env) (t := .og _ _) ?_ | refine WE.s' (E := env) (t := .ea _ _) ?_ | refine WE.s' (E := env) (t := .agg _) ?_ | refine WE.s' (E := env) (t := .tup _) ?_ | refine WE.ixm' (E := env) ?_ | refine WE.ixo' (E := env) ?_ | refine WE.leg' (E := env) ?_ | refine WE.slS' (E := env) ?_ | refine WE.slD' (E := env) ?_ | refine WE.ap' (E := env) ?_ | refine WE.st' (E := env) ?_ | refine WE.seg' (E := env) ?_ | refine WE.bs' (E := env) ?_ | refine W.seq ?_ | refine W.rg ?_ | refine W.dra' ?_ | refine W.block ?_ | refine W.skip ?_ | refine W.exit ?_ | refine W.cond_true' ?_ | refine W.cond_false' ?_ | refine WG.nil ?_ | refine WG.run' (E := env) ?_ | refine WG.gt' ?_ | refine WG.gf' ?_ | refine WG.ixm' (E := env) ?_ | refine WG.ixo' (E := env) ?_ | refine WG.legm' (E := env) ?_ | refine WG.slS' (E := env) ?_ | refine WG.slD' (E := env) ?_ | refine WG.ap' (E := env) ?_ | refine WD.nil ?_ | refine WD.bs' (E := env) ?_ | refine WD.s' (E := env) (t := .d _) ?_ | refine WD.p' ?_ | refine WD.px' ?_ | refine WD.s' (E := env) (t := .ea _ _) ?_ | refine WD.s' (E := env) (t := .lp _ _) ?_ | refine WD.s' (E := env) (t := .og _ _) ?_ | refine WD.s' (E := env) (t := .agg _) ?_ | refine WD.s' (E := env) (t := .tup _) ?_ | refine WD.s' (E := env) (t := .clo _ _) ?_ | refine WD.ixm' (E := env) ?_ | refine WD.ixo' (E := env) ?_ | refine WD.legm' (E := env) ?_ | refine WD.slS' (E := env) ?_ | refine WD.slD' (E := env) ?_ | fail | ((first | refine WG.sp' (fun h => ?_) fun h => ?_ | refine W.cond' (fun h => ?_) fun h => ?_ | refine WD.sp' (fun h => ?_) fun h => ?_) <;> (try simp only [atS, List.length_map, beq_self_eq_true] at h) <;> (try (exfalso; first | contradiction | omega))))
  exact RetR.mk2 (.inr rfl) rfl (by first | trivial | exact resOK_of (E := env) rfl) rfl rfl rfl rfl rfl

theorem l8Reg_fn (cs : List Co) (s : Cst) (h0 : 0 ≤ s.many ∧ s.many ≤ 100000) : FunQ env.P 41 [.lp 0 0] (mkO cs s 0) (just (.d (dI s.many)) (mkO cs s.reg 0)) := by
  have hres : s.many + 1 - 1 = s.many := by omega
  rw [show dI s.many = dI (s.many + 1 - 1) by rw [hres]]
  refine FunQ.intro Try.func41 rfl (by kernel_rfl) rfl ?_
  repeat' (first | refine W.seq ?_ | refine W.rg ?_ | refine W.dra' ?_ | refine W.block ?_ | refine W.skip ?_ | refine W.exit ?_ | refine W.cond_true' ?_ | refine W.cond_false' ?_ | refine WG.nil ?_ | refine WG.run' (E := env) ?_ | refine WG.gt' ?_ | refine WG.gf' ?_ | refine WG.ixm' (E := env) ?_ | refine WG.ixo' (E := env) ?_ | refine WG.legm' (E := env) ?_ | refine WG.slS' (E := env) ?_ | refine WG.slD' (E := env) ?_ | refine WG.ap' (E := env) ?_ | refine WD.nil ?_ | refine WD.bs' (E := env) ?_ | refine WD.s' (E := env) (t := .d _) ?_ | refine WD.p' ?_ | refine WD.px' ?_ | refine WD.s' (E := env) (t := .ea _ _) ?_ | refine WD.s' (E := env) (t := .lp _ _) ?_ | refine WD.s' (E := env) (t := .og _ _) ?_ | refine WD.s' (E := env) (t := .agg _) ?_ | refine WD.s' (E := env) (t := .tup _) ?_ | refine WD.s' (E := env) (t := .clo _ _) ?_ | refine WD.ixm' (E := env) ?_ | refine WD.ixo' (E := env) ?_ | refine WD.legm' (E := env) ?_ | refine WD.slS' (E := env) ?_ | refine WD.slD' (E := env) ?_ | ((first | refine WG.sp' (fun h => ?_) fun h => ?_ | refine W.cond' (fun h => ?_) fun h => ?_ | refine WD.sp' (fun h => ?_) fun h => ?_) <;> (try simp only [atS, List.length_map, beq_self_eq_true] at h) <;> (try (exfalso; first | contradiction | omega))))
  refine W.ret ?_
  exact RetR.mk2 (.inl rfl) rfl (by first | trivial | exact resOK_of (E := env) rfl) rfl rfl rfl rfl rfl

theorem cReg_fn (b : Nat) (cs : List Co) (s : Cst) (h0 : 0 ≤ s.many ∧ s.many ≤ 100000) : FunQ env.P 53 [.lp 0 0] (miO cs s b 0) (just (.d (dI s.many)) (miO cs s.reg b 0)) := by
  have hres : s.many + 1 - 1 = s.many := by omega
  rw [show dI s.many = dI (s.many + 1 - 1) by rw [hres]]
  refine FunQ.intro Try.func53 rfl (by kernel_rfl) rfl ?_
  repeat' (first | refine W.seq ?_ | refine W.rg ?_ | refine W.dra' ?_ | refine W.block ?_ | refine W.skip ?_ | refine W.exit ?_ | refine W.cond_true' ?_ | refine W.cond_false' ?_ | refine WG.nil ?_ | refine WG.run' (E := env) ?_ | refine WG.gt' ?_ | refine WG.gf' ?_ | refine WG.ixm' (E := env) ?_ | refine WG.ixo' (E := env) ?_ | refine WG.legm' (E := env) ?_ | refine WG.slS' (E := env) ?_ | refine WG.slD' (E := env) ?_ | refine WG.ap' (E := env) ?_ | refine WD.nil ?_ | refine WD.bs' (E := env) ?_ | refine WD.s' (E := env) (t := .d _) ?_ | refine WD.p' ?_ | refine WD.px' ?_ | refine WD.s' (E := env) (t := .ea _ _) ?_ | refine WD.s' (E := env) (t := .lp _ _) ?_ | refine WD.s' (E := env) (t := .og _ _) ?_ | refine WD.s' (E := env) (t := .agg _) ?_ | refine WD.s' (E := env) (t := .tup _) ?_ | refine WD.s' (E := env) (t := .clo _ _) ?_ | refine WD.ixm' (E := env) ?_ | refine WD.ixo' (E := env) ?_ | refine WD.legm' (E := env) ?_ | refine WD.slS' (E := env) ?_ | refine WD.slD' (E := env) ?_ | ((first | refine WG.sp' (fun h => ?_) fun h => ?_ | refine W.cond' (fun h => ?_) fun h => ?_ | refine WD.sp' (fun h => ?_) fun h => ?_) <;> (try simp only [atS, List.length_map, beq_self_eq_true] at h) <;> (try (exfalso; first | contradiction | omega))))
  refine W.ret ?_
  exact RetR.mk2 (.inl rfl) rfl (by first | trivial | exact resOK_of (E := env) rfl) rfl rfl rfl rfl rfl

set_option maxHeartbeats 4000000 in
theorem l8Val_fn (cs : List Co) (s : Cst) (op : Int) (v : List Cell) (hl : s.L.length ≤ 100000) (hv : v.length ≤ 1048576) : FunQ env.P 34 [.lp 0 0, .d (dI op), .d (cellsD v)] (mkO cs s 0) (just (.tup []) (mkO cs (s.val op v) 1)) := by
  have hr := rwI_val s op v
  have hlen := rwI_len s
  refine FunQ.intro Try.func34 rfl (by kernel_rfl) rfl ?_
  unfold mkO
  rw [← hr]
  clear hr
  have hm : (s.val op v).many = s.many := rfl
  rw [hm]
  clear hm
  generalize s.many = mn at *
  generalize rwI s = R at *
  repeat' (first | refine W.dre' (id := 0) [6, 8, 10, 11, 14] (fun f => bif bt f 16 then [.pv [.d (coresD cs), .og 1 1, .d (dI mn)], .x (neI (R ++ [⟨[dI op, dI 0, .v undef], some (v.map Cell.row)⟩]) none) 1, .dead] else bif bt f 8 then [.pv [.d (coresD cs), .og 1 0, .d (dI mn)], .x (neI (R ++ [⟨[dI op, dI 0, .v undef], some (v.map Cell.row)⟩]) none) 1, .dead] else bif bt f 4 then [.pv [.d (coresD cs), .og 1 0, .d (dI mn)], .x (neI R none) 0, .x (neI [⟨[dI op, dI 0, .v undef], some (v.map Cell.row)⟩] none) 2] else bif bt f 2 then [.pv [.d (coresD cs), .og 1 0, .d (dI mn)], .x (neI R none) 0, .gr 5 81 (v.map Cell.row) 1 false] else bif bt f 1 then [.pv [.d (coresD cs), .og 1 0, .d (dI mn)], .x (neI R none) 0, .gr 5 81 [] 0 false] else [.pv [.d (coresD cs), .og 1 0, .d (dI mn)], .x (neI R none) 0]) [(0, [0, 1, 3, 7, 15]), (0, [0, 1, 3, 7]), (0, [0, 1, 3, 7]), (0, [0, 1, 3, 7]), (0, [0, 1, 3, 7]), (0, [0, 1, 3]), (1, [0]), (0, [0, 1]), (2, [1]), (0, [3]), (4, [3]), (8, [7]), (0, [15]), (0, [15]), (16, [15])] [.pv [.d (coresD cs), .og 1 1, .d (dI mn)], .x (neI (R ++ [⟨[dI op, dI 0, .v undef], some (v.map Cell.row)⟩]) none) 1, .dead] ?_ | refine WE.mkd (.og 2 0) ?_ (.c (OpS1.bsO (E := env) rfl rfl rfl rfl rfl rfl rfl rfl rfl rfl rfl rfl) .n) | refine WE.mkd (.og 2 2) ?_ (.c (OpS1.bsN (E := env) (j0 := 2) (K := 2) rfl rfl rfl rfl rfl rfl rfl rfl rfl rfl rfl rfl rfl rfl) .n) | refine WE.mkd (.og 1 1) ?_ (.c (OpS1.apN (E := env) rfl rfl rfl rfl rfl rfl rfl rfl rfl rfl rfl rfl (by refine Nat.le_trans (Nat.mul_le_mul_right _ (m := 2097152) ?_) (Nat.le_of_ble_eq_true rfl); simp only [List.length_cons, List.length_nil]; omega) rfl) .n) | refine WE.bd' ?_ | refine WE.nil ?_ | refine WE.ixP' ?_ | refine WE.s' (E := env) (t := .d _) ?_ | refine WE.p' ?_ | refine WE.px' ?_ | refine WE.s' (E := env) (t := .lp _ _) ?_ | refine WE.s' (E := env) (t := .og _ _) ?_ | refine WE.s' (E := env) (t := .ea _ _) ?_ | refine WE.s' (E := env) (t := .agg _) ?_ | refine WE.s' (E := env) (t := .tup _) ?_ | refine WE.ixm' (E := env) ?_ | refine WE.ixo' (E := env) ?_ | refine WE.leg' (E := env) ?_ | refine WE.slS' (E := env) ?_ | refine WE.slD' (E := env) ?_ | refine WE.ap' (E := env) ?_ | refine WE.st' (E := env) ?_ | refine WE.seg' (E := env) ?_ | refine WE.bs' (E := env) ?_ | refine W.seq ?_ | refine W.rg ?_ | refine W.dra' ?_ | refine W.block ?_ | refine W.skip ?_ | refine W.exit ?_ | refine W.cond_true' ?_ | refine W.cond_false' ?_ | refine WG.nil ?_ | refine WG.run' (E := env) ?_ | refine WG.gt' ?_ | refine WG.gf' ?_ | refine WG.ixm' (E := env) ?_ | refine WG.ixo' (E := env) ?_ | refine WG.legm' (E := env) ?_ | refine WG.slS' (E := env) ?_ | refine WG.slD' (E := env) ?_ | refine WG.ap' (E := env) ?_ | refine WD.nil ?_ | refine WD.bs' (E := env) ?_ | refine WD.s' (E := env) (t := .d _) ?_ | refine WD.p' ?_ | refine WD.px' ?_ | refine WD.s' (E := env) (t := .ea _ _) ?_ | refine WD.s' (E := env) (t := .lp _ _) ?_ | refine WD.s' (E := env) (t := .og _ _) ?_ | refine WD.s' (E := env) (t := .agg _) ?_ | refine WD.s' (E := env) (t := .tup _) ?_ | refine WD.s' (E := env) (t := .clo _ _) ?_ | refine WD.ixm' (E := env) ?_ | refine WD.ixo' (E := env) ?_ | refine WD.legm' (E := env) ?_ | refine WD.slS' (E := env) ?_ | refine WD.slD' (E := env) ?_ | fail | ((first | refine WG.sp' (fun h => ?_) fun h => ?_ | refine W.cond' (fun h => ?_) fun h => ?_ | refine WD.sp' (fun h => ?_) fun h => ?_) <;> (try simp only [atS, List.length_map, beq_self_eq_true] at h) <;> (try (exfalso; first | contradiction | omega))))
  exact RetR.mk2 (.inr rfl) rfl (by first | trivial | exact resOK_of (E := env) rfl) rfl rfl rfl rfl rfl

set_option maxHeartbeats 4000000 in
theorem cPush_fn (b : Nat) (cs : List Co) (s : Cst) (x : V) (v : List Cell) (hc : Fun env.P 94 [.agg x.rowP] (.og 0 0) [.gr 5 81 (v.map Cell.row) 0 false]) (hl : s.L.length ≤ 100000) : FunQ env.P 79 [.lp 0 0, .d (.agg x.rowP)] (miO cs s b 0) (just (.tup []) (miO cs (s.val 3 v) b 1)) := by
  have hr := rwI_val s 3 v
  have hlen := rwI_len s
  refine FunQ.intro Try.func79 rfl (by kernel_rfl) rfl ?_
  unfold miO
  rw [← hr]
  clear hr
  have hm : (s.val 3 v).many = s.many := rfl
  rw [hm]
  clear hm
  generalize s.many = mn at *
  generalize rwI s = R at *
  repeat' (first | refine W.dre' (id := 1) [6, 8, 9, 12] (fun f => bif bt f 8 then [.pv [.d (coresD cs), .og 1 1, .d (dI mn), imT b], .x (neI (R ++ [⟨[dI 3, dI 0, .v undef], some (v.map Cell.row)⟩]) none) 1, .pv (x.rowP.map .d), .dead] else bif bt f 4 then [.pv [.d (coresD cs), .og 1 0, .d (dI mn), imT b], .x (neI (R ++ [⟨[dI 3, dI 0, .v undef], some (v.map Cell.row)⟩]) none) 1, .pv (x.rowP.map .d), .dead] else bif bt f 2 then [.pv [.d (coresD cs), .og 1 0, .d (dI mn), imT b], .x (neI R none) 0, .pv (x.rowP.map .d), .x (neI [⟨[dI 3, dI 0, .v undef], some (v.map Cell.row)⟩] none) 1] else bif bt f 1 then [.pv [.d (coresD cs), .og 1 0, .d (dI mn), imT b], .x (neI R none) 0, .pv (x.rowP.map .d), .gr 5 81 (v.map Cell.row) 0 false] else [.pv [.d (coresD cs), .og 1 0, .d (dI mn), imT b], .x (neI R none) 0, .pv (x.rowP.map .d)]) [(0, [0, 1, 3, 7]), (0, [0, 1, 3]), (0, [0, 1, 3]), (0, [0, 1, 3]), (0, [0, 1, 3]), (0, [0]), (1, [0]), (0, [1]), (2, [1]), (4, [3]), (0, [7]), (0, [7]), (8, [7])] [.pv [.d (coresD cs), .og 1 1, .d (dI mn), imT b], .x (neI (R ++ [⟨[dI 3, dI 0, .v undef], some (v.map Cell.row)⟩]) none) 1, .pv (x.rowP.map .d), .dead] ?_ | refine WE.mkd (.og 3 0) ?_ (.c (OpS1.coG (E := env) rfl rfl hc rfl rfl rfl) .n) | refine WE.mkd (.og 3 1) ?_ (.c (OpS1.bsN (E := env) (j0 := 2) (K := 3) rfl rfl rfl rfl rfl rfl rfl rfl rfl rfl rfl rfl rfl rfl) .n) | refine WE.mkd (.og 1 1) ?_ (.c (OpS1.apN (E := env) rfl rfl rfl rfl rfl rfl rfl rfl rfl rfl rfl rfl (by refine Nat.le_trans (Nat.mul_le_mul_right _ (m := 2097152) ?_) (Nat.le_of_ble_eq_true rfl); simp only [List.length_cons, List.length_nil]; omega) rfl) .n) | refine WE.bd' ?_ | refine WE.nil ?_ | refine WE.ixP' ?_ | refine WE.s' (E := env) (t := .d _) ?_ | refine WE.p' ?_ | refine WE.px' ?_ | refine WE.s' (E := env) (t := .lp _ _) ?_ | refine WE.s' (E := env) (t := .og _ _) ?_ | refine WE.s' (E := env) (t := .ea _ _) ?_ | refine WE.s' (E := env) (t := .agg _) ?_ | refine WE.s' (E := env) (t := .tup _) ?_ | refine WE.ixm' (E := env) ?_ | refine WE.ixo' (E := env) ?_ | refine WE.leg' (E := env) ?_ | refine WE.slS' (E := env) ?_ | refine WE.slD' (E := env) ?_ | refine WE.ap' (E := env) ?_ | refine WE.st' (E := env) ?_ | refine WE.seg' (E := env) ?_ | refine WE.bs' (E := env) ?_ | refine W.seq ?_ | refine W.rg ?_ | refine W.dra' ?_ | refine W.block ?_ | refine W.skip ?_ | refine W.exit ?_ | refine W.cond_true' ?_ | refine W.cond_false' ?_ | refine WG.nil ?_ | refine WG.run' (E := env) ?_ | refine WG.gt' ?_ | refine WG.gf' ?_ | refine WG.ixm' (E := env) ?_ | refine WG.ixo' (E := env) ?_ | refine WG.legm' (E := env) ?_ | refine WG.slS' (E := env) ?_ | refine WG.slD' (E := env) ?_ | refine WG.ap' (E := env) ?_ | refine WD.nil ?_ | refine WD.bs' (E := env) ?_ | refine WD.s' (E := env) (t := .d _) ?_ | refine WD.p' ?_ | refine WD.px' ?_ | refine WD.s' (E := env) (t := .ea _ _) ?_ | refine WD.s' (E := env) (t := .lp _ _) ?_ | refine WD.s' (E := env) (t := .og _ _) ?_ | refine WD.s' (E := env) (t := .agg _) ?_ | refine WD.s' (E := env) (t := .tup _) ?_ | refine WD.s' (E := env) (t := .clo _ _) ?_ | refine WD.ixm' (E := env) ?_ | refine WD.ixo' (E := env) ?_ | refine WD.legm' (E := env) ?_ | refine WD.slS' (E := env) ?_ | refine WD.slD' (E := env) ?_ | fail | ((first | refine WG.sp' (fun h => ?_) fun h => ?_ | refine W.cond' (fun h => ?_) fun h => ?_ | refine WD.sp' (fun h => ?_) fun h => ?_) <;> (try simp only [atS, List.length_map, beq_self_eq_true] at h) <;> (try (exfalso; first | contradiction | omega))))
  exact RetR.mk2 (.inr rfl) rfl (by first | trivial | exact resOK_of (E := env) rfl) rfl rfl rfl rfl rfl

end Go.Proofs.Ytmmjbpgdkokjgaa
