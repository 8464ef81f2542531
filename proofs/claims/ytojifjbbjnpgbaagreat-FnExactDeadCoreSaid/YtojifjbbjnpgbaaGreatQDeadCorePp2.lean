/-
  The nodes of a part, by the program. Conditions: at most 2^20 nodes, each of at most three parts.
-/
import Derived.Test.YtojifjbbjnpgbaaGreatQDeadCorePp1
import Derived.Test.YtojifjbbjnpgbaaGreatQDeadCoreNf1
import Derived.Test.YtojifjbbjnpgbaaGreatQDeadCorePs1
set_option linter.unusedVariables false
set_option linter.unusedSimpArgs false
set_option maxRecDepth 100000
namespace Go.Proofs.YtojifjbbjnpgbaaGreat
open Go.RowKit

mutual
def Pt.ok : Pt → Prop
  | .mk n kids => n.val.length ≤ 1048576 ∧ kids.length ≤ 3 ∧ Pt.oks kids
def Pt.oks : List Pt → Prop
  | [] => True
  | p :: r => p.ok ∧ Pt.oks r
end
theorem Pt.oks_at {l : List Pt} (h : Pt.oks l) : ∀ p ∈ l, p.ok := by
  induction l with
  | nil => intro p hp; cases hp
  | cons a r ih =>
    intro p hp
    rcases List.mem_cons.1 hp with rfl | hp
    · exact h.1
    · exact ih h.2 p hp
theorem Pt.ok_eq (p : Pt) (h : p.ok) : p.n.val.length ≤ 1048576 ∧ p.kids.length ≤ 3 ∧ Pt.oks p.kids := by cases p; exact h

theorem RetR.ogx {P : Program} {fn : Func} {e : Exit} {S : St} {ts : List T} {n : Nat} {X : ObX} {R : T → List Ob → Prop} (he : e = .ret ∨ e = .normal) (hts : resL S fn.results.toList = some ts) (hok : resOK P S fn.results.toList) (hn : norm S.ob (resT ts) = .og 0 n) (hk : S.ob[0]? = some (.x X n)) (hR : R (.og 0 n) [.x X n]) :
    RetR P fn 1 R e S :=
  RetR.own (ob' := [.x X n]) ⟨[0], [0], S.ob.length⟩ he hts hok (by simp [hn, T.ren, Rn.ix, Rn.of]) rfl rfl rfl rfl rfl ⟨by simpa [Rn.ix, Rn.of, Ob.ren] using hk, trivial⟩ rfl hR

set_option maxHeartbeats 1000000 in
theorem cloneL_fn (sl : List Cell) (hl : sl.length ≤ 1048576) : Fun env.P 103 [cellsD sl] (.og 0 0) [.gr 5 102 (sl.map Cell.row) 0 false] := by
  refine Fun.intro Tryz.func103 rfl (by kernel_rfl) rfl ?_
  repeat (first | refine W.seq ?_ | refine W.rg ?_ | refine W.dra' ?_ | refine W.block ?_ | refine W.skip ?_ | refine W.exit ?_ | refine W.cond_true' ?_ | refine W.cond_false' ?_ | refine WG.nil ?_ | refine WG.run' (E := env) ?_ | refine WG.gt' ?_ | refine WG.gf' ?_ | refine WG.ixm' (E := env) ?_ | refine WG.ixo' (E := env) ?_ | refine WG.legm' (E := env) ?_ | refine WG.slS' (E := env) ?_ | refine WG.slD' (E := env) ?_ | refine WG.ap' (E := env) ?_ | refine WD.nil ?_ | refine WD.bs' (E := env) ?_ | refine WD.s' (E := env) (t := .d _) ?_ | refine WD.p' ?_ | refine WD.px' ?_ | refine WD.s' (E := env) (t := .ea _ _) ?_ | refine WD.s' (E := env) (t := .lp _ _) ?_ | refine WD.s' (E := env) (t := .og _ _) ?_ | refine WD.s' (E := env) (t := .agg _) ?_ | refine WD.s' (E := env) (t := .tup _) ?_ | refine WD.s' (E := env) (t := .clo _ _) ?_ | refine WD.ixm' (E := env) ?_ | refine WD.ixo' (E := env) ?_ | refine WD.legm' (E := env) ?_ | refine WD.slS' (E := env) ?_ | refine WD.slD' (E := env) ?_)
  refine WG.nilB (E := env) rfl rfl rfl rfl ?_
  intro b hb
  cases b with
  | true =>
    have h0 := hb rfl
    rw [h0]
    repeat' (first | refine W.seq ?_ | refine W.rg ?_ | refine W.dra' ?_ | refine W.block ?_ | refine W.skip ?_ | refine W.exit ?_ | refine W.cond_true' ?_ | refine W.cond_false' ?_ | refine WG.nil ?_ | refine WG.run' (E := env) ?_ | refine WG.gt' ?_ | refine WG.gf' ?_ | refine WG.ixm' (E := env) ?_ | refine WG.ixo' (E := env) ?_ | refine WG.legm' (E := env) ?_ | refine WG.slS' (E := env) ?_ | refine WG.slD' (E := env) ?_ | refine WG.ap' (E := env) ?_ | refine WD.nil ?_ | refine WD.bs' (E := env) ?_ | refine WD.s' (E := env) (t := .d _) ?_ | refine WD.p' ?_ | refine WD.px' ?_ | refine WD.s' (E := env) (t := .ea _ _) ?_ | refine WD.s' (E := env) (t := .lp _ _) ?_ | refine WD.s' (E := env) (t := .og _ _) ?_ | refine WD.s' (E := env) (t := .agg _) ?_ | refine WD.s' (E := env) (t := .tup _) ?_ | refine WD.s' (E := env) (t := .clo _ _) ?_ | refine WD.ixm' (E := env) ?_ | refine WD.ixo' (E := env) ?_ | refine WD.legm' (E := env) ?_ | refine WD.slS' (E := env) ?_ | refine WD.slD' (E := env) ?_ | ((first | refine WG.sp' (fun h => ?_) fun h => ?_ | refine W.cond' (fun h => ?_) fun h => ?_ | refine WD.sp' (fun h => ?_) fun h => ?_) <;> (try simp only [decide_eq_true_eq, decide_eq_false_iff_not, Bool.not_eq_true', Bool.not_eq_false', Bool.and_eq_true, Bool.or_eq_true, Bool.and_eq_false_iff, Bool.or_eq_false_iff, Bool.not_eq_true, Bool.not_eq_false, Int.not_lt, Int.not_le, List.length_map, beq_self_eq_true, Bool.true_eq_false, Bool.false_eq_true] at h) <;> (try (exfalso; first | contradiction | omega))))
    refine W.ret ?_
    exact RetR.gn'
  | false =>
    repeat' (first | refine W.seq ?_ | refine W.rg ?_ | refine W.dra' ?_ | refine W.block ?_ | refine W.skip ?_ | refine W.exit ?_ | refine W.cond_true' ?_ | refine W.cond_false' ?_ | refine WG.nil ?_ | refine WG.run' (E := env) ?_ | refine WG.gt' ?_ | refine WG.gf' ?_ | refine WG.ixm' (E := env) ?_ | refine WG.ixo' (E := env) ?_ | refine WG.legm' (E := env) ?_ | refine WG.slS' (E := env) ?_ | refine WG.slD' (E := env) ?_ | refine WG.ap' (E := env) ?_ | refine WD.nil ?_ | refine WD.bs' (E := env) ?_ | refine WD.s' (E := env) (t := .d _) ?_ | refine WD.p' ?_ | refine WD.px' ?_ | refine WD.s' (E := env) (t := .ea _ _) ?_ | refine WD.s' (E := env) (t := .lp _ _) ?_ | refine WD.s' (E := env) (t := .og _ _) ?_ | refine WD.s' (E := env) (t := .agg _) ?_ | refine WD.s' (E := env) (t := .tup _) ?_ | refine WD.s' (E := env) (t := .clo _ _) ?_ | refine WD.ixm' (E := env) ?_ | refine WD.ixo' (E := env) ?_ | refine WD.legm' (E := env) ?_ | refine WD.slS' (E := env) ?_ | refine WD.slD' (E := env) ?_ | ((first | refine WG.sp' (fun h => ?_) fun h => ?_ | refine W.cond' (fun h => ?_) fun h => ?_ | refine WD.sp' (fun h => ?_) fun h => ?_) <;> (try simp only [decide_eq_true_eq, decide_eq_false_iff_not, Bool.not_eq_true', Bool.not_eq_false', Bool.and_eq_true, Bool.or_eq_true, Bool.and_eq_false_iff, Bool.or_eq_false_iff, Bool.not_eq_true, Bool.not_eq_false, Int.not_lt, Int.not_le, List.length_map, beq_self_eq_true, Bool.true_eq_false, Bool.false_eq_true] at h) <;> (try (exfalso; first | contradiction | omega))))
    refine W.ret ?_
    exact RetQ.own (tt := .og 0 1) 0 1 (.inl rfl) rfl (by first | trivial | exact resOK_of (E := env) rfl) rfl rfl rfl rfl rfl

theorem sizeCo_fn (cs : List Co) : Fun env.P 51 [coresD cs] (.d (dI (cs.map Co.row).length)) [] := by
  refine Fun.intro Tryz.func51 rfl (by kernel_rfl) rfl ?_
  repeat' (first | refine W.seq ?_ | refine W.rg ?_ | refine W.dra' ?_ | refine W.block ?_ | refine W.skip ?_ | refine W.exit ?_ | refine W.cond_true' ?_ | refine W.cond_false' ?_ | refine WG.nil ?_ | refine WG.run' (E := env) ?_ | refine WG.gt' ?_ | refine WG.gf' ?_ | refine WG.ixm' (E := env) ?_ | refine WG.ixo' (E := env) ?_ | refine WG.legm' (E := env) ?_ | refine WG.slS' (E := env) ?_ | refine WG.slD' (E := env) ?_ | refine WG.ap' (E := env) ?_ | refine WD.nil ?_ | refine WD.bs' (E := env) ?_ | refine WD.s' (E := env) (t := .d _) ?_ | refine WD.p' ?_ | refine WD.px' ?_ | refine WD.s' (E := env) (t := .ea _ _) ?_ | refine WD.s' (E := env) (t := .lp _ _) ?_ | refine WD.s' (E := env) (t := .og _ _) ?_ | refine WD.s' (E := env) (t := .agg _) ?_ | refine WD.s' (E := env) (t := .tup _) ?_ | refine WD.s' (E := env) (t := .clo _ _) ?_ | refine WD.ixm' (E := env) ?_ | refine WD.ixo' (E := env) ?_ | refine WD.legm' (E := env) ?_ | refine WD.slS' (E := env) ?_ | refine WD.slD' (E := env) ?_ | ((first | refine WG.sp' (fun h => ?_) fun h => ?_ | refine W.cond' (fun h => ?_) fun h => ?_ | refine WD.sp' (fun h => ?_) fun h => ?_) <;> (try simp only [decide_eq_true_eq, decide_eq_false_iff_not, Bool.not_eq_true', Bool.not_eq_false', Bool.and_eq_true, Bool.or_eq_true, Bool.and_eq_false_iff, Bool.or_eq_false_iff, Bool.not_eq_true, Bool.not_eq_false, Int.not_lt, Int.not_le, List.length_map, beq_self_eq_true, Bool.true_eq_false, Bool.false_eq_true] at h) <;> (try (exfalso; first | contradiction | omega))))
  (refine W.ret ?_; (first | refine RetQ.b' ?_ | refine RetQ.i' ?_ | refine RetQ.d' ?_ | refine RetQ.t2' ?_ ?_ | refine RetQ.t3' ?_ ?_ ?_))
  rfl

/-- An object that reads as data, lent. -/
theorem lend_x {ob : List Ob} {k n : Nat} {X : ObX} {d : D} (hk : ob[k]? = some (.x X n)) (hd : X.dat = some d) : lend1 ob (.og k n) = .d d := by
  show lendC ob (.og k n) = .d d
  unfold lendC
  simp only [hk, hd]
  simp

/-- A call that reads one lent object (its version may be any), in a drawn region. -/
theorem OpS1.clX {E : Env} {N : Nm} {ops : List Oper} {d : Nat} {ty ty0 : TypeId} {pos : String} {after : Array Edge} {gd : Option (Nat × Bool)} {tm : Nat → T} {ob : List Ob} {f : FuncId} {fop x : Operand} {t : T} {k n : Nat} {X : ObX} {dt : D}
    (hw : St.want ⟨tm, ob⟩ ops ⟨some d, .call ⟨.value fop, [x].toArray, [ty0].toArray⟩, ty, pos, after, gd⟩ = some true) (hd : Nat.blt d N.n = true)
    (hc : FunQ E.P f [.d dt] [] (just t [])) (hclo : cloOf (norm ob (St.ev ⟨tm, ob⟩ fop)) = some (f, [])) (hx : fixNil E ty0 (St.ev ⟨tm, ob⟩ x) = .og k n) (hk : ob[k]? = some (.x X n)) (hdt : X.dat = some dt) (hfl : t.flat = true) (ht : T.ren ⟨[], [], ob.length⟩ t = t) :
    OpS1 E.P N ops ⟨some d, .call ⟨.value fop, [x].toArray, [ty0].toArray⟩, ty, pos, after, gd⟩ tm t ob ob :=
  OpS1.cl (cap := []) true hw hd hc hclo rfl (by simp only [argsT, List.headD_cons, cond_true, List.append_nil]; rw [hx, lend_x hk hdt]; rfl) rfl (fun _ => hfl) ht

/-- What the nodes of a part are behind those that there are. -/
def nodesR (L : List Co) (p : Pt) (t : T) (ob : List Ob) : Prop := ∃ w, t = .og 0 w ∧ ob = [.x (neC ((L ++ p.flat L.length).map coN) none) w]

set_option maxHeartbeats 8000000 in
theorem nodes_fn : ∀ (m : Nat) (p : Pt) (L : List Co) (dd : Option (List (List D))), p.count ≤ m → p.ok → L.length + p.count ≤ 1048576 →
    FunQ env.P 52 [.d (.agg p.rowP), .og 0 0] [.x (neC (L.map coN) dd) 0] (nodesR L p) := by
  intro m
  induction m with
  | zero => intro p L dd h; have := p.count_eq; omega
  | succ m ih =>
  intro p L dd hm hok hl
  obtain ⟨o1, o2, o3⟩ := p.ok_eq hok
  have hce := p.count_eq
  have hcl := cloneL_fn p.n.val o1
  refine FunQ.intro Tryz.func52 rfl (by kernel_rfl) rfl ?_
  repeat' (first | refine WG.coG (E := env) (K := 3) rfl rfl hcl rfl rfl ?_ | refine W.seq ?_ | refine W.rg ?_ | refine W.dra' ?_ | refine W.block ?_ | refine W.skip ?_ | refine W.exit ?_ | refine W.cond_true' ?_ | refine W.cond_false' ?_ | refine WG.nil ?_ | refine WG.run' (E := env) ?_ | refine WG.gt' ?_ | refine WG.gf' ?_ | refine WG.ixm' (E := env) ?_ | refine WG.ixo' (E := env) ?_ | refine WG.legm' (E := env) ?_ | refine WG.slS' (E := env) ?_ | refine WG.slD' (E := env) ?_ | refine WG.ap' (E := env) ?_ | refine WD.nil ?_ | refine WD.bs' (E := env) ?_ | refine WD.s' (E := env) (t := .d _) ?_ | refine WD.p' ?_ | refine WD.px' ?_ | refine WD.s' (E := env) (t := .ea _ _) ?_ | refine WD.s' (E := env) (t := .lp _ _) ?_ | refine WD.s' (E := env) (t := .og _ _) ?_ | refine WD.s' (E := env) (t := .agg _) ?_ | refine WD.s' (E := env) (t := .tup _) ?_ | refine WD.s' (E := env) (t := .clo _ _) ?_ | refine WD.ixm' (E := env) ?_ | refine WD.ixo' (E := env) ?_ | refine WD.legm' (E := env) ?_ | refine WD.slS' (E := env) ?_ | refine WD.slD' (E := env) ?_ | fail | ((first | refine WG.sp' (fun h => ?_) fun h => ?_ | refine W.cond' (fun h => ?_) fun h => ?_ | refine WD.sp' (fun h => ?_) fun h => ?_) <;> (try simp only [decide_eq_true_eq, decide_eq_false_iff_not, Bool.not_eq_true', Bool.not_eq_false', Bool.and_eq_true, Bool.or_eq_true, Bool.and_eq_false_iff, Bool.or_eq_false_iff, Bool.not_eq_true, Bool.not_eq_false, Int.not_lt, Int.not_le, List.length_map, beq_self_eq_true, Bool.true_eq_false, Bool.false_eq_true] at h) <;> (try (exfalso; first | contradiction | omega))))
  refine W.loopI (fun m S => ∃ (i : Nat) (Lc : List Co) (w : Nat) (d' : Option (List (List D))) (na nb nc : Int), m = p.kids.length - i ∧ (i ≤ p.kids.length ∧ Lc = L ++ Pt.flats (p.kids.take i) L.length ∧ na = (Pt.ends (p.kids.take i) L.length).getD 0 p.n.a ∧ nb = (Pt.ends (p.kids.take i) L.length).getD 1 p.n.b ∧ nc = (Pt.ends (p.kids.take i) L.length).getD 2 p.n.c) ∧
    S = ⟨ofL [(1, .og 0 w), (5, .lp 2 0), (15, .d (.sl 7 (p.kids.map Pt.row))), (16, vI .i64 (p.kids.map Pt.row).length), (17, vI .i64 i)],
      [.x (neC (Lc.map coN) d') w, .pv (p.rowP.map .d), .pv [.d (dI p.n.op), .d (dI na), .d (dI nb), .d (dI nc), .d (dI p.n.num), .og 3 0], .gr 5 102 (p.n.val.map Cell.row) 0 false]⟩) _ _
    ⟨0, L, 0, dd, p.n.a, p.n.b, p.n.c, rfl, ⟨by omega, by simp [Pt.flats], by simp [Pt.ends], by simp [Pt.ends], by simp [Pt.ends]⟩, rfl⟩ (St.imp.of_le (by (refine le_ofL rfl ?_ ?_ <;> (repeat (first | exact trivial | refine ⟨⟨rfl, rfl⟩, ?_⟩ | refine ⟨rfl, .inl rfl, ?_⟩ | refine ⟨rfl, .inr rfl, ?_⟩))))) ?_
  rintro m' S ⟨i, Lc, w, d', na, nb, nc, rfl, ⟨hi, hLc, hna, hnb, hnc⟩, rfl⟩
  have hct := Pt.counts_le p.kids i
  have hLl : Lc.length = L.length + Pt.counts (p.kids.take i) := by rw [hLc, List.length_append, Pt.flats_length]
  by_cases hlt : i < p.kids.length
  · have hmem : p.kids.getD (Int.toNat (i : Int)) default ∈ p.kids := getD_mem' (by rw [Int.toNat_natCast]; exact hlt)
    have hko := Pt.oks_at o3 _ hmem
    have hkc := Pt.counts_ge _ hmem
    have st1 := Pt.flats_step L.length hlt
    have st2 := Pt.ends_step L.length hlt
    have st3 := Pt.counts_step hlt
    have hct2 := Pt.counts_le p.kids (i + 1)
    rw [show p.kids.getD i default = p.kids.getD (Int.toNat (i : Int)) default by rw [Int.toNat_natCast]] at st1 st2 st3
    generalize hkk : p.kids.getD (Int.toNat (i : Int)) default = kid at hko hkc st1 st2 st3
    have hk := ih kid Lc d' (by omega) hko (by omega)
    unfold nodesR at hk
    obtain ⟨Lk, hLkk⟩ : ∃ Lk, Lk = Lc ++ kid.flat Lc.length := ⟨_, rfl⟩
    have hLkl : Lk.length = L.length + Pt.counts (p.kids.take i) + kid.count := by rw [hLkk, List.length_append, Pt.flat_length]; omega
    have hLk : Lk = L ++ Pt.flats (p.kids.take (i + 1)) L.length := by rw [hLkk, st1, hLl]; rw [hLc, List.append_assoc]
    rw [← hLkk] at hk
    have hsz := sizeCo_fn Lk
    have hE := Pt.ends_length (p.kids.take i) L.length
    rw [List.length_take, Nat.min_eq_left hi] at hE
    generalize Pt.ends (p.kids.take i) L.length = E0 at *
    have he : ((Lk.map Co.row).length : Int) - 1 = ((L.length + Pt.counts (p.kids.take i) + kid.count : Nat) : Int) - 1 := by rw [List.length_map, hLkl]
    rw [← he] at st2
    have h012 : i = 0 ∨ i = 1 ∨ i = 2 := by omega
    repeat' (first | rw [Pt.row_eq (p.kids.getD (Int.toNat (i : Int)) default), hkk] | (refine W.imp (St.imp.note 0 rfl (Lk.map Co.row) (coN_dat _)) ?_; (rcases h012 with h012 | h012 | h012 <;> subst h012); all_goals first | (have hq : Pt.counts (p.kids.take 0) = Pt.counts (p.kids.take 0) := rfl; have hq2 := hE; have hq3 : E0.length = 0 := hE; refine W.dre' (id := 7) [3, 11] (fun f => bif bt f 2 then [.x (neC (Lk.map coN) (some (Lk.map Co.row))) (w + w'), .pv (p.rowP.map .d), .pv [.d (dI p.n.op), .d (dI (((Lk.map Co.row).length : Int) - 1)), .d (dI nb), .d (dI nc), .d (dI p.n.num), .og 3 0], .gr 5 102 (p.n.val.map Cell.row) 0 false, .pv (kid.rowP.map .d), .pv [.lp 2 1, .lp 2 2, .lp 2 3]] else bif bt f 1 then [.x (neC (Lk.map coN) (some (Lk.map Co.row))) (w + w'), .pv (p.rowP.map .d), .pv [.d (dI p.n.op), .d (dI na), .d (dI nb), .d (dI nc), .d (dI p.n.num), .og 3 0], .gr 5 102 (p.n.val.map Cell.row) 0 false, .pv (kid.rowP.map .d), .pv [.lp 2 1, .lp 2 2, .lp 2 3]] else [.x (neC (Lk.map coN) (some (Lk.map Co.row))) (w + w'), .pv (p.rowP.map .d), .pv [.d (dI p.n.op), .d (dI na), .d (dI nb), .d (dI nc), .d (dI p.n.num), .og 3 0], .gr 5 102 (p.n.val.map Cell.row) 0 false, .pv (kid.rowP.map .d)]) [(0, [0]), (0, [0]), (0, [0]), (1, [0]), (0, [0, 1]), (0, [1]), (0, [1]), (0, [0, 1]), (0, [0, 1]), (0, [0, 1]), (0, [1]), (2, [1])] ([.x (neC (Lk.map coN) (some (Lk.map Co.row))) (w + w'), .pv (p.rowP.map .d), .pv [.d (dI p.n.op), .d (dI (((Lk.map Co.row).length : Int) - 1)), .d (dI nb), .d (dI nc), .d (dI p.n.num), .og 3 0], .gr 5 102 (p.n.val.map Cell.row) 0 false, .pv (kid.rowP.map .d), .pv [.lp 2 1, .lp 2 2, .lp 2 3]]) ?_) | (have hq : Pt.counts (p.kids.take 1) = Pt.counts (p.kids.take 1) := rfl; have hq2 := hE; have hq3 : E0.length = 1 := hE; refine W.dre' (id := 7) [3, 11] (fun f => bif bt f 2 then [.x (neC (Lk.map coN) (some (Lk.map Co.row))) (w + w'), .pv (p.rowP.map .d), .pv [.d (dI p.n.op), .d (dI na), .d (dI (((Lk.map Co.row).length : Int) - 1)), .d (dI nc), .d (dI p.n.num), .og 3 0], .gr 5 102 (p.n.val.map Cell.row) 0 false, .pv (kid.rowP.map .d), .pv [.lp 2 1, .lp 2 2, .lp 2 3]] else bif bt f 1 then [.x (neC (Lk.map coN) (some (Lk.map Co.row))) (w + w'), .pv (p.rowP.map .d), .pv [.d (dI p.n.op), .d (dI na), .d (dI nb), .d (dI nc), .d (dI p.n.num), .og 3 0], .gr 5 102 (p.n.val.map Cell.row) 0 false, .pv (kid.rowP.map .d), .pv [.lp 2 1, .lp 2 2, .lp 2 3]] else [.x (neC (Lk.map coN) (some (Lk.map Co.row))) (w + w'), .pv (p.rowP.map .d), .pv [.d (dI p.n.op), .d (dI na), .d (dI nb), .d (dI nc), .d (dI p.n.num), .og 3 0], .gr 5 102 (p.n.val.map Cell.row) 0 false, .pv (kid.rowP.map .d)]) [(0, [0]), (0, [0]), (0, [0]), (1, [0]), (0, [0, 1]), (0, [1]), (0, [1]), (0, [0, 1]), (0, [0, 1]), (0, [0, 1]), (0, [1]), (2, [1])] ([.x (neC (Lk.map coN) (some (Lk.map Co.row))) (w + w'), .pv (p.rowP.map .d), .pv [.d (dI p.n.op), .d (dI na), .d (dI (((Lk.map Co.row).length : Int) - 1)), .d (dI nc), .d (dI p.n.num), .og 3 0], .gr 5 102 (p.n.val.map Cell.row) 0 false, .pv (kid.rowP.map .d), .pv [.lp 2 1, .lp 2 2, .lp 2 3]]) ?_) | (have hq : Pt.counts (p.kids.take 2) = Pt.counts (p.kids.take 2) := rfl; have hq2 := hE; have hq3 : E0.length = 2 := hE; refine W.dre' (id := 7) [3, 11] (fun f => bif bt f 2 then [.x (neC (Lk.map coN) (some (Lk.map Co.row))) (w + w'), .pv (p.rowP.map .d), .pv [.d (dI p.n.op), .d (dI na), .d (dI nb), .d (dI (((Lk.map Co.row).length : Int) - 1)), .d (dI p.n.num), .og 3 0], .gr 5 102 (p.n.val.map Cell.row) 0 false, .pv (kid.rowP.map .d), .pv [.lp 2 1, .lp 2 2, .lp 2 3]] else bif bt f 1 then [.x (neC (Lk.map coN) (some (Lk.map Co.row))) (w + w'), .pv (p.rowP.map .d), .pv [.d (dI p.n.op), .d (dI na), .d (dI nb), .d (dI nc), .d (dI p.n.num), .og 3 0], .gr 5 102 (p.n.val.map Cell.row) 0 false, .pv (kid.rowP.map .d), .pv [.lp 2 1, .lp 2 2, .lp 2 3]] else [.x (neC (Lk.map coN) (some (Lk.map Co.row))) (w + w'), .pv (p.rowP.map .d), .pv [.d (dI p.n.op), .d (dI na), .d (dI nb), .d (dI nc), .d (dI p.n.num), .og 3 0], .gr 5 102 (p.n.val.map Cell.row) 0 false, .pv (kid.rowP.map .d)]) [(0, [0]), (0, [0]), (0, [0]), (1, [0]), (0, [0, 1]), (0, [1]), (0, [1]), (0, [0, 1]), (0, [0, 1]), (0, [0, 1]), (0, [1]), (2, [1])] ([.x (neC (Lk.map coN) (some (Lk.map Co.row))) (w + w'), .pv (p.rowP.map .d), .pv [.d (dI p.n.op), .d (dI na), .d (dI nb), .d (dI (((Lk.map Co.row).length : Int) - 1)), .d (dI p.n.num), .og 3 0], .gr 5 102 (p.n.val.map Cell.row) 0 false, .pv (kid.rowP.map .d), .pv [.lp 2 1, .lp 2 2, .lp 2 3]]) ?_)) | refine WE.mkd (.ps 5 3) ?_ (.c (OpS1.bsP (E := env) rfl rfl rfl rfl rfl rfl rfl rfl rfl rfl rfl rfl rfl) .n) | refine WE.mkd (.lp 5 (Int.toNat ((0 : Nat) : Int))) ?_ (.c (OpS1.ixPs (E := env) (i := ((0 : Nat) : Int)) rfl rfl rfl rfl rfl rfl rfl ⟨by decide, by decide⟩) .n) | refine WE.mkd (.lp 5 (Int.toNat ((1 : Nat) : Int))) ?_ (.c (OpS1.ixPs (E := env) (i := ((1 : Nat) : Int)) rfl rfl rfl rfl rfl rfl rfl ⟨by decide, by decide⟩) .n) | refine WE.mkd (.lp 5 (Int.toNat ((2 : Nat) : Int))) ?_ (.c (OpS1.ixPs (E := env) (i := ((2 : Nat) : Int)) rfl rfl rfl rfl rfl rfl rfl ⟨by decide, by decide⟩) .n) | refine WE.mkd (.d (dI (Lk.map Co.row).length)) ?_ (.c (OpS1.clX (E := env) (k := 0) (n := w + w') rfl rfl hsz rfl rfl rfl rfl rfl rfl) (.c (OpS1.clX (E := env) (k := 0) (n := w + w') rfl rfl hsz rfl rfl rfl rfl rfl rfl) .n)) | refine WE.nil ?_ | refine WE.ixP' ?_ | refine WE.s' (E := env) (t := .d _) ?_ | refine WE.p' ?_ | refine WE.px' ?_ | refine WE.s' (E := env) (t := .lp _ _) ?_ | refine WE.s' (E := env) (t := .og _ _) ?_ | refine WE.s' (E := env) (t := .ea _ _) ?_ | refine WE.s' (E := env) (t := .agg _) ?_ | refine WE.s' (E := env) (t := .tup _) ?_ | refine WE.ixm' (E := env) ?_ | refine WE.ixo' (E := env) ?_ | refine WE.leg' (E := env) ?_ | refine WE.slS' (E := env) ?_ | refine WE.slD' (E := env) ?_ | refine WE.ap' (E := env) ?_ | refine WE.st' (E := env) ?_ | refine WE.seg' (E := env) ?_ | refine WE.bs' (E := env) ?_ | refine W.seq ?_ | refine W.rg ?_ | refine W.dra' ?_ | refine W.block ?_ | refine W.skip ?_ | refine W.exit ?_ | refine W.cond_true' ?_ | refine W.cond_false' ?_ | refine WG.nil ?_ | refine WG.run' (E := env) ?_ | refine WG.gt' ?_ | refine WG.gf' ?_ | refine WG.ixm' (E := env) ?_ | refine WG.ixo' (E := env) ?_ | refine WG.legm' (E := env) ?_ | refine WG.slS' (E := env) ?_ | refine WG.slD' (E := env) ?_ | refine WG.ap' (E := env) ?_ | refine WD.nil ?_ | refine WD.bs' (E := env) ?_ | refine WD.s' (E := env) (t := .d _) ?_ | refine WD.p' ?_ | refine WD.px' ?_ | refine WD.s' (E := env) (t := .ea _ _) ?_ | refine WD.s' (E := env) (t := .lp _ _) ?_ | refine WD.s' (E := env) (t := .og _ _) ?_ | refine WD.s' (E := env) (t := .agg _) ?_ | refine WD.s' (E := env) (t := .tup _) ?_ | refine WD.s' (E := env) (t := .clo _ _) ?_ | refine WD.ixm' (E := env) ?_ | refine WD.ixo' (E := env) ?_ | refine WD.legm' (E := env) ?_ | refine WD.slS' (E := env) ?_ | refine WD.slD' (E := env) ?_ | (refine WG.cQ (E := env) [0] [w] false rfl rfl hk rfl rfl rfl rfl rfl rfl rfl ⟨rfl, trivial⟩ (.inl rfl) (fun t ob ⟨w', e1, e2⟩ => ⟨by subst e2; rfl, fun h => nomatch h⟩) ?_; rintro _ _ ⟨w', rfl, rfl⟩; refine (show WG _ _ _ _ _ _ ⟨upd _ _ (.og 0 (w + w')), [.x (neC (Lk.map coN) none) (w + w'), .pv (p.rowP.map .d), .pv [.d (dI p.n.op), .d (dI na), .d (dI nb), .d (dI nc), .d (dI p.n.num), .og 3 0], .gr 5 102 (p.n.val.map Cell.row) 0 false, .pv (kid.rowP.map .d)]⟩ from ?_)) | fail | ((first | refine WG.sp' (fun h => ?_) fun h => ?_ | refine W.cond' (fun h => ?_) fun h => ?_ | refine WD.sp' (fun h => ?_) fun h => ?_) <;> (try simp only [decide_eq_true_eq, decide_eq_false_iff_not, Bool.not_eq_true', Bool.not_eq_false', Bool.and_eq_true, Bool.or_eq_true, Bool.and_eq_false_iff, Bool.or_eq_false_iff, Bool.not_eq_true, Bool.not_eq_false, Int.not_lt, Int.not_le, List.length_map, beq_self_eq_true, Bool.true_eq_false, Bool.false_eq_true] at h) <;> (try (exfalso; first | contradiction | omega))))
    all_goals first | (exfalso; omega) | skip
    · obtain rfl := List.length_eq_zero_iff.1 hE
      refine ⟨_, _, ?_, ⟨1, Lk, w + w', some (Lk.map Co.row), ((Lk.map Co.row).length : Int) - 1, nb, nc, rfl, ⟨by omega, hLk, ?_, ?_, ?_⟩, rfl⟩, (St.imp.of_le (by (refine le_ofL rfl ?_ ?_ <;> (repeat (first | exact trivial | refine ⟨⟨rfl, rfl⟩, ?_⟩ | refine ⟨rfl, .inl rfl, ?_⟩ | refine ⟨rfl, .inr rfl, ?_⟩)))))⟩
      · omega
      · rw [st2]; simp [*]
      · rw [st2]; simp [*]
      · rw [st2]; simp [*]
    · obtain ⟨x, rfl⟩ := List.length_eq_one_iff.1 hE
      refine ⟨_, _, ?_, ⟨2, Lk, w + w', some (Lk.map Co.row), na, ((Lk.map Co.row).length : Int) - 1, nc, rfl, ⟨by omega, hLk, ?_, ?_, ?_⟩, rfl⟩, (St.imp.of_le (by (refine le_ofL rfl ?_ ?_ <;> (repeat (first | exact trivial | refine ⟨⟨rfl, rfl⟩, ?_⟩ | refine ⟨rfl, .inl rfl, ?_⟩ | refine ⟨rfl, .inr rfl, ?_⟩)))))⟩
      · omega
      · rw [st2]; simp [*]
      · rw [st2]; simp [*]
      · rw [st2]; simp [*]
    · obtain ⟨x, y, rfl⟩ : ∃ x y, E0 = [x, y] := by
        match E0, hE with
        | [x, y], _ => exact ⟨x, y, rfl⟩
      refine ⟨_, _, ?_, ⟨3, Lk, w + w', some (Lk.map Co.row), na, nb, ((Lk.map Co.row).length : Int) - 1, rfl, ⟨by omega, hLk, ?_, ?_, ?_⟩, rfl⟩, (St.imp.of_le (by (refine le_ofL rfl ?_ ?_ <;> (repeat (first | exact trivial | refine ⟨⟨rfl, rfl⟩, ?_⟩ | refine ⟨rfl, .inl rfl, ?_⟩ | refine ⟨rfl, .inr rfl, ?_⟩)))))⟩
      · omega
      · rw [st2]; simp [*]
      · rw [st2]; simp [*]
      · rw [st2]; simp [*]
  · obtain rfl : i = p.kids.length := by omega
    rw [List.take_length] at *
    repeat' (first | refine WG.bsN (E := env) (j0 := 5) (K := 3) rfl rfl rfl rfl rfl rfl rfl rfl rfl rfl rfl rfl rfl ?_ | refine WG.apNest (E := env) rfl rfl rfl rfl rfl rfl rfl rfl rfl rfl rfl rfl (by refine Nat.le_trans (Nat.mul_le_mul_right _ (m := 2097152) ?_) (Nat.le_of_ble_eq_true rfl); simp only [List.length_map, List.length_cons, List.length_nil]; omega) ?_ | refine W.seq ?_ | refine W.rg ?_ | refine W.dra' ?_ | refine W.block ?_ | refine W.skip ?_ | refine W.exit ?_ | refine W.cond_true' ?_ | refine W.cond_false' ?_ | refine WG.nil ?_ | refine WG.run' (E := env) ?_ | refine WG.gt' ?_ | refine WG.gf' ?_ | refine WG.ixm' (E := env) ?_ | refine WG.ixo' (E := env) ?_ | refine WG.legm' (E := env) ?_ | refine WG.slS' (E := env) ?_ | refine WG.slD' (E := env) ?_ | refine WG.ap' (E := env) ?_ | refine WD.nil ?_ | refine WD.bs' (E := env) ?_ | refine WD.s' (E := env) (t := .d _) ?_ | refine WD.p' ?_ | refine WD.px' ?_ | refine WD.s' (E := env) (t := .ea _ _) ?_ | refine WD.s' (E := env) (t := .lp _ _) ?_ | refine WD.s' (E := env) (t := .og _ _) ?_ | refine WD.s' (E := env) (t := .agg _) ?_ | refine WD.s' (E := env) (t := .tup _) ?_ | refine WD.s' (E := env) (t := .clo _ _) ?_ | refine WD.ixm' (E := env) ?_ | refine WD.ixo' (E := env) ?_ | refine WD.legm' (E := env) ?_ | refine WD.slS' (E := env) ?_ | refine WD.slD' (E := env) ?_ | fail | ((first | refine WG.sp' (fun h => ?_) fun h => ?_ | refine W.cond' (fun h => ?_) fun h => ?_ | refine WD.sp' (fun h => ?_) fun h => ?_) <;> (try simp only [decide_eq_true_eq, decide_eq_false_iff_not, Bool.not_eq_true', Bool.not_eq_false', Bool.and_eq_true, Bool.or_eq_true, Bool.and_eq_false_iff, Bool.or_eq_false_iff, Bool.not_eq_true, Bool.not_eq_false, Int.not_lt, Int.not_le, List.length_map, beq_self_eq_true, Bool.true_eq_false, Bool.false_eq_true] at h) <;> (try (exfalso; first | contradiction | omega))))
    have hrow : Lc.map coN ++ [coN ⟨p.n.op, na, nb, nc, p.n.num, p.n.val⟩] = (L ++ p.flat L.length).map coN := by
      rw [Pt.flat_eq, hLc, hna, hnb, hnc]
      simp [Co.put]
    refine W.ret ?_
    refine RetR.ogx (X := neC ((L ++ p.flat L.length).map coN) none) (n := w + 1) (.inl rfl) rfl (by first | trivial | exact resOK_of (E := env) rfl) rfl ?_ ⟨w + 1, rfl, rfl⟩
    rw [← hrow]
    rfl

end Go.Proofs.YtojifjbbjnpgbaaGreat
