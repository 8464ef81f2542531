/-
  Texts of this claim in one. Conditions: none.
-/
import Derived.Test.YtmmjbpgdkokjgaaGreatQLowerTreeNf1
import Derived.Test.YtmmjbpgdkokjgaaGreatQLowerTreeLw1
section
set_option linter.unusedVariables false
set_option linter.unusedSimpArgs false
namespace Go.Proofs.YtmmjbpgdkokjgaaGreat
open Go.RowKit

section
variable {E : Env} {N : Nm} {Q : Exit → St → Prop} {tm : Nat → T} {ob ob' : List Ob} {ops l : List Oper} {ty : TypeId} {pos : String} {after : Array Edge} {gd : Option (Nat × Bool)} {d : Nat} {G : List Nat}

/-- A nil slice among the cells of a slot becomes an own slice of nothing. -/
theorem WG.adoptA {P : Program} (i j0 : Nat) (z : Nat) (e : TypeId) {cs : List T} {t0 : T} {K : Nat} (hi : tm i = .agg cs) (hj : cs[j0]? = some t0) (hn : nilT t0 = true) (hK : ob.length = K)
    (k : WG G P N ops l Q ⟨upd tm i (.agg (cs.set j0 (.og K 0))), ob ++ [.gr z e [] 0 false]⟩) : WG G P N ops l Q ⟨tm, ob⟩ := fun w0 σ0 a w g r => by
  subst hK
  obtain ⟨g', hle, I, ht⟩ := r.inv.adopt (by rw [r.hm]; exact r.hl) z e
  refine k w0 σ0 a w g' ⟨I, r.defers, r.size, r.hm, by have := r.hl; simp at this ⊢; omega, fun j => ?_⟩
  have h1 := r.tm j
  show RT g' (upd tm i _ j) _
  by_cases hjj : j = i
  · subst hjj
    have h1 : RT g (tm j) _ := h1
    rw [hi] at h1
    obtain ⟨vs, hv, hl, hat⟩ := h1.inv_agg
    rw [show upd tm j (.agg (cs.set j0 (.og ob.length 0))) j = .agg (cs.set j0 (.og ob.length 0)) by simp [upd]]
    rw [hv]
    refine .agg _ vs (by simpa using hl) fun a x u hx hu => ?_
    by_cases hb : j0 = a
    · subst hb
      have hlo : j0 < cs.length := (List.getElem?_eq_some_iff.1 hj).1
      rw [List.getElem?_set_self hlo] at hx
      simp only [Option.some.injEq] at hx
      subst hx
      have := RT.nil hn (hat j0 _ u hj hu)
      rw [this]
      exact ht
    · rw [List.getElem?_set_ne hb] at hx
      exact (hat a x u hx hu).mono hle
  · rw [show upd tm i (.agg (cs.set j0 (.og ob.length 0))) j = tm j by simp [upd, nbeq hjj]]
    exact h1.mono hle

/-- The same, of a row that is data. -/
theorem WG.adoptD {P : Program} (i j0 : Nat) (z : Nat) (e : TypeId) {ds : List D} {z0 K : Nat} (hi : tm i = .d (.agg ds)) (hj : ds[j0]? = some (.nl z0)) (hK : ob.length = K)
    (k : WG G P N ops l Q ⟨upd tm i (.agg ((ds.map T.d).set j0 (.og K 0))), ob ++ [.gr z e [] 0 false]⟩) : WG G P N ops l Q ⟨tm, ob⟩ := fun w0 σ0 a w g r => by
  subst hK
  obtain ⟨g', hle, I, ht⟩ := r.inv.adopt (by rw [r.hm]; exact r.hl) z e
  refine k w0 σ0 a w g' ⟨I, r.defers, r.size, r.hm, by have := r.hl; simp at this ⊢; omega, fun j => ?_⟩
  have h1 := r.tm j
  show RT g' (upd tm i _ j) _
  by_cases hjj : j = i
  · subst hjj
    have h1 : RT g (tm j) _ := h1
    rw [hi] at h1
    obtain ⟨vs, hv, hl, hat⟩ := h1.inv_d.inv_agg
    rw [show upd tm j (.agg ((ds.map T.d).set j0 (.og ob.length 0))) j = .agg ((ds.map T.d).set j0 (.og ob.length 0)) by simp [upd]]
    rw [hv]
    refine .agg _ vs (by simpa using hl) fun a x u hx hu => ?_
    by_cases hb : j0 = a
    · subst hb
      have hlo : j0 < (ds.map T.d).length := by have := (List.getElem?_eq_some_iff.1 hj).1; simpa using this
      rw [List.getElem?_set_self hlo] at hx
      simp only [Option.some.injEq] at hx
      subst hx
      have := (hat j0 _ u hj hu).inv_nl
      rw [this]
      exact ht
    · rw [List.getElem?_set_ne hb, List.getElem?_map, Option.map_eq_some_iff] at hx
      obtain ⟨y, hy, rfl⟩ := hx
      exact .d _ _ ((hat a y u hy hu).mono hle.σ)
  · rw [show upd tm i (.agg ((ds.map T.d).set j0 (.og ob.length 0))) j = tm j by simp [upd, nbeq hjj]]
    exact h1.mono hle

end

section
variable {E : Env} {N : Nm} {G : List Nat} {Q : Exit → St → Prop} {ops : List Oper}

/-- runOps, at most n operations. -/
def runK (E : Env) (N : Nm) (G : List Nat) (ops : List Oper) : Nat → List Oper → (Nat → T) → List Ob → List Prop → Out
  | 0, l, tm, ob, ps => ⟨ps, l, tm, ob⟩
  | n + 1, [], tm, ob, ps => ⟨ps, [], tm, ob⟩
  | n + 1, o :: l, tm, ob, ps => stepOp E N G ops o tm ob (fun p tm' ob' => runK E N G ops n l tm' ob' (p :: ps)) ⟨ps, o :: l, tm, ob⟩

theorem runK_ok : ∀ (n : Nat) (l : List Oper) (tm : Nat → T) (ob : List Ob) (ps : List Prop), AllP (runK E N G ops n l tm ob ps).conds →
    AllP ps ∧ (WG G E.P N ops (runK E N G ops n l tm ob ps).rest Q ⟨(runK E N G ops n l tm ob ps).tm, (runK E N G ops n l tm ob ps).ob⟩ → WG G E.P N ops l Q ⟨tm, ob⟩)
  | 0, l, tm, ob, ps => fun h => ⟨h, fun k => k⟩
  | n + 1, [], tm, ob, ps => fun h => ⟨h, fun k => k⟩
  | n + 1, o :: l, tm, ob, ps => by
    unfold runK
    refine stepOp_ok (Q := Q) (l := l) (M := fun r => AllP r.conds → AllP ps ∧ (WG G E.P N ops r.rest Q ⟨r.tm, r.ob⟩ → WG G E.P N ops (o :: l) Q ⟨tm, ob⟩)) (fun h => ⟨h, fun k => k⟩) fun p tm' ob' hk h => ?_
    obtain ⟨h1, h2⟩ := runK_ok n l tm' ob' (p :: ps) h
    exact ⟨h1.2, fun k => hk h1.1 (h2 k)⟩

theorem WG.runN (n : Nat) {l l' : List Oper} {tm tm' : Nat → T} {ob ob' : List Ob} {ps : List Prop} (k : WG G E.P N ops l' Q ⟨tm', ob'⟩)
    (h : runK E N G ops n l tm ob [] = ⟨ps, l', tm', ob'⟩ := by exact rfl) (hlen : Nat.blt l'.length l.length = true := by exact rfl) (hp : AllP ps := by repeat (first | exact trivial | refine ⟨trivial, ?_⟩ | refine ⟨by first | exact trivial | (simp only [inRange, List.length_map]; omega) | omega | assumption, ?_⟩)) : WG G E.P N ops l Q ⟨tm, ob⟩ :=
  by
    have := runK_ok (E := E) (N := N) (G := G) (ops := ops) (Q := Q) n l tm ob []
    rw [h] at this
    exact (this hp).2 k
end

section
variable {P : Program} {E : Env} {N : Nm} {tm : Nat → T} {ob ob2 : List Ob} {ops : List Oper} {ty : TypeId} {pos : String} {after : Array Edge} {gd : Option (Nat × Bool)} {d : Nat}
/-- A call that writes to what it is lent, in a drawn region. -/
theorem OpS1.cqM {f : FuncId} {fop : Operand} {xs : List Operand} {tys : List TypeId} {cap args : List T} {obA obB : List Ob} {t t' : T} {KK : Nat} (idx off : List Nat) (hw : St.want ⟨tm, ob⟩ ops ⟨some d, .call ⟨.value fop, xs.toArray, tys.toArray⟩, ty, pos, after, gd⟩ = some true) (hd : Nat.blt d N.n = true)
    (hc : FunQ E.P f args obA (just t obB)) (hclo : cloOf (norm ob (St.ev ⟨tm, ob⟩ fop)) = some (f, cap)) (hK : KK = ob.length) (ha : argsT E ⟨tm, ob⟩ false xs tys ++ cap = T.renL ⟨idx, off, KK⟩ args) (hlp : T.lpOKL ⟨idx, off, KK⟩ args = true) (hnd : nodupB idx = true)
    (hA : Nat.beq obA.length idx.length = true) (hs : startL ⟨idx, off, KK⟩ 0 obA = true) (hmt : matchO ⟨idx, off, KK⟩ ob 0 obA) (hal : aliveN idx.length obB = true) (ht : T.ren ⟨idx, off, KK⟩ t = t') (ho : mergeO ⟨idx, off, KK⟩ 0 ob idx obB = ob2) :
    OpS1 E.P N ops ⟨some d, .call ⟨.value fop, xs.toArray, tys.toArray⟩, ty, pos, after, gd⟩ tm t' ob ob2 := fun tm' hag l Q k' => by
  have hfo : St.ev ⟨tm', ob⟩ fop = St.ev ⟨tm, ob⟩ fop := ev_agree hag (by simp only [Op.operands, Call.operands, Array.toList_append, List.mem_append]; exact .inl (by simp))
  refine WG.cq (G := []) idx off false (by rw [want_agree hag]; exact hw) hd hc (by rw [hfo]; exact hclo) hK ?_ hlp hnd hA hs hmt (.inl rfl) hal (fun h => nomatch h) ht ho k'
  rw [argsT_agree (S := ⟨tm, ob⟩) (S' := ⟨tm', ob⟩) rfl false fun x hx => ev_agree hag (by simp only [Op.operands, Call.operands, Array.toList_append, List.mem_append]; exact .inr (by simpa using hx))]
  exact ha
end

section
variable {E : Env} {N : Nm} {Q : Exit → St → Prop} {tm : Nat → T} {ob : List Ob} {ops l : List Oper} {ty : TypeId} {pos : String} {after : Array Edge} {gd : Option (Nat × Bool)} {d : Nat} {G : List Nat}
end

theorem WG.pubK {P : Program} {N : Nm} {G : List Nat} {ops l : List Oper} {Q : Exit → St → Prop} {tm : Nat → T} {ob : List Ob} (k : Nat) {z n : Nat} {e : TypeId} {rows : List (List D)} (hk : ob[k]? = some (.gr z e rows n false))
    (h : WG G P N ops l Q ⟨fun i => pubd k n (.sl z rows) (tm i), ob.set k (.gr z e rows n true)⟩) : WG G P N ops l Q ⟨tm, ob⟩ := fun w0 σ0 a w g r => by
  obtain ⟨g', hle, hlim, I⟩ := r.inv.pub hk
  have hlt : k < ob.length := (List.getElem?_eq_some_iff.1 hk).1
  exact h w0 σ0 a w g' ⟨I, r.defers, r.size, r.hm, by simpa using r.hl, fun i => ((r.tm i).mono hle).pubd I (List.getElem?_set_self hlt)⟩
end Go.Proofs.YtmmjbpgdkokjgaaGreat
end

section
set_option linter.unusedVariables false
set_option linter.unusedSimpArgs false
set_option maxRecDepth 100000
namespace Go.Proofs.YtmmjbpgdkokjgaaGreat
open Go.RowKit

/-- Where the last node stands. -/
def plc (L : List Co) : Int := (L.length : Int) - 1
/-- What the reference's maker of a core is. -/
abbrev loS (ns : List Nd) (L : List Co) (v : Nat) : List Ob := [.pv [.d (nodesD ns), .og 1 v], .gr 6 66 (L.map Co.row) v false]
/-- The nodes behind those that there are. -/
def Pt.on (p : Pt) (L : List Co) : List Co := L ++ p.flat L.length
theorem Pt.on_length (p : Pt) (L : List Co) : (p.on L).length = L.length + p.count := by rw [Pt.on, List.length_append, Pt.flat_length]
theorem plc_on (p : Pt) (L : List Co) : plc (p.on L) = ((L.length + p.count : Nat) : Int) - 1 := by rw [plc, Pt.on_length]

theorem Pt.on_leaf (n : Co) (L : List Co) : L ++ [n] = (Pt.mk n []).on L := by
  simp [Pt.on, Pt.flat, Pt.flats, Pt.ends, Co.put]
theorem Pt.on_1 (n : Co) (A : Pt) (L : List Co) : A.on L ++ [⟨n.op, plc (A.on L), n.b, n.c, n.num, n.val⟩] = (Pt.mk n [A]).on L := by
  rw [plc_on]
  simp [Pt.on, Pt.flat, Pt.flats, Pt.ends, Co.put]
theorem Pt.on_2 (n : Co) (A B : Pt) (L : List Co) : B.on (A.on L) ++ [⟨n.op, plc (A.on L), plc (B.on (A.on L)), n.c, n.num, n.val⟩] = (Pt.mk n [A, B]).on L := by
  rw [plc_on, plc_on, Pt.on_length]
  simp [Pt.on, Pt.flat, Pt.flats, Pt.ends, Co.put, Pt.flat_length]
theorem Pt.on_3 (n : Co) (A B C : Pt) (L : List Co) : C.on (B.on (A.on L)) ++ [⟨n.op, plc (A.on L), plc (B.on (A.on L)), plc (C.on (B.on (A.on L))), n.num, n.val⟩] = (Pt.mk n [A, B, C]).on L := by
  rw [plc_on, plc_on, plc_on, Pt.on_length, Pt.on_length]
  simp [Nat.add_assoc, Pt.on, Pt.flat, Pt.flats, Pt.ends, Co.put, Pt.flat_length]

section
variable {N : Nm} {Q : Exit → St → Prop} {tm : Nat → T} {R : List Ob} {ops l : List Oper} {ty : TypeId} {pos : String} {after : Array Edge} {gd : Option (Nat × Bool)} {d : Nat} {G : List Nat}
/-- A call that is lent the reference's maker. -/
theorem WG.loS {ns : List Nd} {L L' : List Co} {w c : Nat} {x : Int} {f : FuncId} {xs : List Operand} {tys : List TypeId} {args : List T}
    (hw : St.want ⟨tm, .pv [.d (nodesD ns), .og 1 w] :: .gr 6 66 (L.map Co.row) w false :: R⟩ ops ⟨some d, .call ⟨.value (.func f), xs.toArray, tys.toArray⟩, ty, pos, after, gd⟩ = some true) (hd : Nat.blt d N.n = true)
    (hc : FunQ env.P f args (Go.Proofs.YtmmjbpgdkokjgaaGreat.loS ns L 0) (just (.d (dI x)) (Go.Proofs.YtmmjbpgdkokjgaaGreat.loS ns L' c))) (ha : argsT env ⟨tm, .pv [.d (nodesD ns), .og 1 w] :: .gr 6 66 (L.map Co.row) w false :: R⟩ false xs tys ++ [] = T.renL ⟨[0, 1], [0, w], R.length + 2⟩ args)
    (hlp : T.lpOKL ⟨[0, 1], [0, w], R.length + 2⟩ args = true)
    (k : WG G env.P N ops l Q ⟨upd tm d (.d (dI x)), .pv [.d (nodesD ns), .og 1 (w + c)] :: .gr 6 66 (L'.map Co.row) (w + c) false :: R⟩) :
    WG G env.P N ops (⟨some d, .call ⟨.value (.func f), xs.toArray, tys.toArray⟩, ty, pos, after, gd⟩ :: l) Q ⟨tm, .pv [.d (nodesD ns), .og 1 w] :: .gr 6 66 (L.map Co.row) w false :: R⟩ := by
  refine WG.cq (E := env) (K := R.length + 2) (t' := .d (dI x)) (ob2 := .pv [.d (nodesD ns), .og 1 (w + c)] :: .gr 6 66 (L'.map Co.row) (w + c) false :: R) [0, 1] [0, w] false hw hd hc rfl (by simp) ha hlp rfl rfl (by simp [startL, Ob.start, Ob.renOK, T.lpOKL, T.lpOK, Rn.of]) ⟨rfl, rfl, trivial⟩ (.inl rfl) rfl (fun h => nomatch h) rfl ?_ k
  simp [mergeO, renFrom, Ob.ren, T.renL, T.ren, Rn.ix, Rn.of]
end

theorem RetR.loS {fn : Func} {e : Exit} {S : St} {ts : List T} {ns : List Nd} {L L' : List Co} {w c : Nat} {x x' : Int} {rest : List Ob} (he : e = .ret ∨ e = .normal) (hts : resL S fn.results.toList = some ts) (hok : resOK env.P S fn.results.toList)
    (hn : norm S.ob (resT ts) = .d (dI x)) (hob : S.ob = .pv [.d (nodesD ns), .og 1 w] :: .gr 6 66 (L.map Co.row) w false :: rest) (hL : L = L') (hv : w = c) (hx : x = x') : RetR env.P fn 2 (just (.d (dI x')) (Go.Proofs.YtmmjbpgdkokjgaaGreat.loS ns L' c)) e S := by
  subst hL; subst hv; subst hx
  refine RetR.own (t := .d (dI x)) (ob' := Go.Proofs.YtmmjbpgdkokjgaaGreat.loS ns L w) ⟨[0, 1], [0, 0], S.ob.length⟩ he hts hok hn rfl rfl rfl rfl ?_ ⟨?_, ?_, trivial⟩ rfl ⟨rfl, rfl⟩
  · simp [renOKL, Ob.renOK, Rn.of, T.lpOKL, T.lpOK]
  · rw [hob]; simp [Ob.ren, Rn.of, Rn.ix, T.renL, T.ren]
  · rw [hob]; simp [Ob.ren, Rn.of, Rn.ix]

set_option maxHeartbeats 2000000 in
theorem l6Put_fn (ns : List Nd) (L : List Co) (n : Co) (hl : L.length ≤ 100000) : FunQ env.P 32 [.lp 0 0, .d (.agg n.row)] (Go.Proofs.YtmmjbpgdkokjgaaGreat.loS ns L 0) (just (.d (dI (plc (L ++ [n])))) (Go.Proofs.YtmmjbpgdkokjgaaGreat.loS ns (L ++ [n]) 1)) := by
  have hr : (L ++ [n]).map Co.row = L.map Co.row ++ [n.row] := by simp
  have hl2 : (L.map Co.row ++ [n.row]).length = L.length + 1 := by simp
  have hp : plc (L ++ [n]) = (((L.map Co.row ++ [n.row]).length : Nat) : Int) - 1 := by rw [← hr, List.length_map]; rfl
  rw [hp]
  have hlm : (L.map Co.row).length = L.length := by simp
  refine FunQ.intro Tryz.func32 rfl (by kernel_rfl) rfl ?_
  unfold Go.Proofs.YtmmjbpgdkokjgaaGreat.loS
  rw [hr]
  generalize L.map Co.row = R at *
  repeat' (first | refine W.dre' (id := 1) [7, 10] (fun f => bif bt f 2 then [.pv [.d (nodesD ns), .og 1 1], .gr 6 66 (R ++ [n.row]) 1 false, .pv (n.row.map .d)] else bif bt f 1 then [.pv [.d (nodesD ns), .og 1 0], .gr 6 66 (R ++ [n.row]) 1 false, .pv (n.row.map .d)] else [.pv [.d (nodesD ns), .og 1 0], .gr 6 66 R 0 false, .pv (n.row.map .d)]) [(0, [0, 1]), (0, [0]), (0, [0]), (0, [0]), (0, [0]), (0, [0]), (0, [0]), (1, [0]), (0, [1]), (0, [1]), (2, [1])] [.pv [.d (nodesD ns), .og 1 1], .gr 6 66 (R ++ [n.row]) 1 false, .pv (n.row.map .d)] ?_ | refine WE.nil ?_ | refine WE.s' (E := env) (t := .d _) ?_ | refine WE.s' (E := env) (t := .lp _ _) ?_ | refine WE.s' (E := env) (t := .og _ _) ?_ | refine WE.s' (E := env) (t := .ea _ _) ?_ | refine WE.s' (E := env) (t := .agg _) ?_ | refine WE.s' (E := env) (t := .tup _) ?_ | refine WE.ap' (E := env) ?_ | refine WE.st' (E := env) ?_ | refine WE.bs' (E := env) ?_ | refine W.seq ?_ | refine W.rg ?_ | refine WG.nil ?_ | refine WG.run' (E := env) ?_ | fail)
  refine W.ret ?_
  exact RetR.own (ob' := [.pv [.d (nodesD ns), .og 1 1], .gr 6 66 (R ++ [n.row]) 1 false]) ⟨[0, 1], [0, 0], 3⟩ (.inl rfl) rfl (by first | trivial | exact resOK_of (E := env) rfl) rfl rfl rfl rfl rfl rfl ⟨rfl, rfl, trivial⟩ rfl ⟨rfl, rfl⟩

end Go.Proofs.YtmmjbpgdkokjgaaGreat
end
