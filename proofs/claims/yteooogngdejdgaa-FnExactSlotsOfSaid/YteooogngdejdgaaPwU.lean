/-
  The small logic, twenty-first part: contracts turned (what a call has made is published); calls whose results the callee has made, found without numbers; results of slices of the call's own. Conditions: none.
-/
import Derived.Test.YteooogngdejdgaaPwT
set_option linter.unusedVariables false
set_option linter.unusedSimpArgs false
namespace Go.Proofs.Yteooogngdejdgaa
open Go.RowKit

theorem FunQ.fin {P : Program} {f : FuncId} {args : List T} {ob ob1 ob2 : List Ob} {t t2 : T} (h : FunQ P f args ob (just t ob1)) (k : Fin ob1 t ob2 t2) : FunQ P f args ob (just t2 ob2) :=
  ⟨h.enter, fun w g vals hI hl hr => (h.calls w g vals hI hl hr).mono fun e w' ⟨v, t', ob', g', h1, ⟨h2, h3⟩, h4, h5⟩ => by
    subst h2; subst h3
    obtain ⟨g2, hI2, ht2⟩ := k _ _ _ _ _ h4 h5
    exact ⟨v, t2, ob2, g2, h1, ⟨rfl, rfl⟩, hI2, ht2⟩⟩

/-- A slice that the callee has made, published: data. -/
theorem FunQ.pubG {P : Program} {f : FuncId} {args : List T} {ob : List Ob} {z n : Nat} {e : TypeId} {rows : List (List D)} (h : FunQ P f args ob (just (.og 0 n) [.gr z e rows n false])) : FunQ P f args ob (just (.d (.sl z rows)) []) := by
  refine h.fin (Fin.pub 0 rfl (Fin.norm ?_))
  have : norm ([Ob.gr z e rows n false].set 0 (.gr z e rows n true)) (.og 0 n) = .d (.sl z rows) := by simp [norm, norm1, normC]
  rw [this]
  exact Fin.data

theorem FunQ.pubA {P : Program} {f : FuncId} {args : List T} {ob : List Ob} {z n : Nat} {e : TypeId} {rows : List (List D)} {x : D} (hx : x.fix1 = x) (h : FunQ P f args ob (just (.agg [.d x, .og 0 n]) [.gr z e rows n false])) : FunQ P f args ob (just (.d (.agg [x, .sl z rows])) []) := by
  refine h.fin (Fin.pub 0 rfl (Fin.norm ?_))
  have : norm ([Ob.gr z e rows n false].set 0 (.gr z e rows n true)) (.agg [.d x, .og 0 n]) = .d (.agg [x, .sl z rows]) := by simp [norm, norm1, normC, mkAgg, allD, hx]
  rw [this]
  exact Fin.data

section
variable {E : Env} {N : Nm} {Q : Exit → St → Prop} {ops l : List Oper} {ty : TypeId} {pos : String} {after : Array Edge} {gd : Option (Nat × Bool)} {d : Nat} {tm : Nat → T} {ob : List Ob} {G : List Nat} {f : FuncId} {xs : List Operand} {tys : List TypeId} {args : List D} {K z : Nat} {e : TypeId} {rows : List (List D)}

theorem WG.coG (hw : St.want ⟨tm, ob⟩ ops ⟨some d, .call ⟨.value (.func f), xs.toArray, tys.toArray⟩, ty, pos, after, gd⟩ = some true) (hd : Nat.blt d N.n = true)
    (hc : Fun E.P f args (.og 0 0) [.gr z e rows 0 false]) (ha : argsOf E ⟨tm, ob⟩ xs tys = some args) (hK : ob.length = K)
    (k : WG G E.P N ops l Q ⟨upd tm d (.og K 0), ob ++ [.gr z e rows 0 false]⟩) : WG G E.P N ops (⟨some d, .call ⟨.value (.func f), xs.toArray, tys.toArray⟩, ty, pos, after, gd⟩ :: l) Q ⟨tm, ob⟩ :=
  WG.co hw hd hc ha hK (by simp [pushT, T.ren, Rn.ix, Rn.of]) (by simp [pushO, renFrom, Ob.ren, Rn.of]) k
theorem WG.coG'  (hw : St.want ⟨tm, ob⟩ ops ⟨some d, .call ⟨.value (.func f), xs.toArray, tys.toArray⟩, ty, pos, after, gd⟩ = some true) (hd : Nat.blt d N.n = true) (hc : Fun E.P f args (.og 0 0) [.gr z e rows 0 false]) (ha : argsOf E ⟨tm, ob⟩ xs tys = some args)
    (k : WG G E.P N ops l Q ⟨upd tm d (.og K 0), ob ++ [.gr z e rows 0 false]⟩) (hK : ob.length = K := by first | exact (rfl : _ = (0 : Nat)) | exact (rfl : _ = (1 : Nat)) | exact (rfl : _ = (2 : Nat)) | exact (rfl : _ = (3 : Nat)) | exact (rfl : _ = (4 : Nat)) | exact (rfl : _ = (5 : Nat)) | exact (rfl : _ = (6 : Nat)) | exact (rfl : _ = (7 : Nat)) | exact (rfl : _ = (8 : Nat)) | exact (rfl : _ = (9 : Nat)) | exact (rfl : _ = (10 : Nat)) | exact (rfl : _ = (11 : Nat)) | exact (rfl : _ = (12 : Nat)) | exact (rfl : _ = (13 : Nat)) | exact (rfl : _ = (14 : Nat)) | exact (rfl : _ = (15 : Nat)) | exact (rfl : _ = (16 : Nat)) | exact (rfl : _ = (17 : Nat)) | exact (rfl : _ = (18 : Nat)) | exact (rfl : _ = (19 : Nat)) | exact (rfl : _ = (20 : Nat)) | exact (rfl : _ = (21 : Nat)) | exact (rfl : _ = (22 : Nat)) | exact (rfl : _ = (23 : Nat))) : WG G E.P N ops (⟨some d, .call ⟨.value (.func f), xs.toArray, tys.toArray⟩, ty, pos, after, gd⟩ :: l) Q ⟨tm, ob⟩ :=
  WG.coG hw hd hc ha hK k

theorem WG.coA {x : D} (hw : St.want ⟨tm, ob⟩ ops ⟨some d, .call ⟨.value (.func f), xs.toArray, tys.toArray⟩, ty, pos, after, gd⟩ = some true) (hd : Nat.blt d N.n = true)
    (hc : Fun E.P f args (.agg [.d x, .og 0 0]) [.gr z e rows 0 false]) (ha : argsOf E ⟨tm, ob⟩ xs tys = some args) (hK : ob.length = K)
    (k : WG G E.P N ops l Q ⟨upd tm d (.agg [.d x, .og K 0]), ob ++ [.gr z e rows 0 false]⟩) : WG G E.P N ops (⟨some d, .call ⟨.value (.func f), xs.toArray, tys.toArray⟩, ty, pos, after, gd⟩ :: l) Q ⟨tm, ob⟩ :=
  WG.co hw hd hc ha hK (by simp [pushT, T.ren, T.renL, Rn.ix, Rn.of]) (by simp [pushO, renFrom, Ob.ren, Rn.of]) k
theorem WG.coA' {x : D} (hw : St.want ⟨tm, ob⟩ ops ⟨some d, .call ⟨.value (.func f), xs.toArray, tys.toArray⟩, ty, pos, after, gd⟩ = some true) (hd : Nat.blt d N.n = true) (hc : Fun E.P f args (.agg [.d x, .og 0 0]) [.gr z e rows 0 false]) (ha : argsOf E ⟨tm, ob⟩ xs tys = some args)
    (k : WG G E.P N ops l Q ⟨upd tm d (.agg [.d x, .og K 0]), ob ++ [.gr z e rows 0 false]⟩) (hK : ob.length = K := by first | exact (rfl : _ = (0 : Nat)) | exact (rfl : _ = (1 : Nat)) | exact (rfl : _ = (2 : Nat)) | exact (rfl : _ = (3 : Nat)) | exact (rfl : _ = (4 : Nat)) | exact (rfl : _ = (5 : Nat)) | exact (rfl : _ = (6 : Nat)) | exact (rfl : _ = (7 : Nat)) | exact (rfl : _ = (8 : Nat)) | exact (rfl : _ = (9 : Nat)) | exact (rfl : _ = (10 : Nat)) | exact (rfl : _ = (11 : Nat)) | exact (rfl : _ = (12 : Nat)) | exact (rfl : _ = (13 : Nat)) | exact (rfl : _ = (14 : Nat)) | exact (rfl : _ = (15 : Nat)) | exact (rfl : _ = (16 : Nat)) | exact (rfl : _ = (17 : Nat)) | exact (rfl : _ = (18 : Nat)) | exact (rfl : _ = (19 : Nat)) | exact (rfl : _ = (20 : Nat)) | exact (rfl : _ = (21 : Nat)) | exact (rfl : _ = (22 : Nat)) | exact (rfl : _ = (23 : Nat))) : WG G E.P N ops (⟨some d, .call ⟨.value (.func f), xs.toArray, tys.toArray⟩, ty, pos, after, gd⟩ :: l) Q ⟨tm, ob⟩ :=
  WG.coA hw hd hc ha hK k

theorem WG.coA3 {x y : D} (hw : St.want ⟨tm, ob⟩ ops ⟨some d, .call ⟨.value (.func f), xs.toArray, tys.toArray⟩, ty, pos, after, gd⟩ = some true) (hd : Nat.blt d N.n = true)
    (hc : Fun E.P f args (.agg [.d x, .d y, .og 0 0]) [.gr z e rows 0 false]) (ha : argsOf E ⟨tm, ob⟩ xs tys = some args) (hK : ob.length = K)
    (k : WG G E.P N ops l Q ⟨upd tm d (.agg [.d x, .d y, .og K 0]), ob ++ [.gr z e rows 0 false]⟩) : WG G E.P N ops (⟨some d, .call ⟨.value (.func f), xs.toArray, tys.toArray⟩, ty, pos, after, gd⟩ :: l) Q ⟨tm, ob⟩ :=
  WG.co hw hd hc ha hK (by simp [pushT, T.ren, T.renL, Rn.ix, Rn.of]) (by simp [pushO, renFrom, Ob.ren, Rn.of]) k
theorem WG.coA3' {x y : D} (hw : St.want ⟨tm, ob⟩ ops ⟨some d, .call ⟨.value (.func f), xs.toArray, tys.toArray⟩, ty, pos, after, gd⟩ = some true) (hd : Nat.blt d N.n = true) (hc : Fun E.P f args (.agg [.d x, .d y, .og 0 0]) [.gr z e rows 0 false]) (ha : argsOf E ⟨tm, ob⟩ xs tys = some args)
    (k : WG G E.P N ops l Q ⟨upd tm d (.agg [.d x, .d y, .og K 0]), ob ++ [.gr z e rows 0 false]⟩) (hK : ob.length = K := by first | exact (rfl : _ = (0 : Nat)) | exact (rfl : _ = (1 : Nat)) | exact (rfl : _ = (2 : Nat)) | exact (rfl : _ = (3 : Nat)) | exact (rfl : _ = (4 : Nat)) | exact (rfl : _ = (5 : Nat)) | exact (rfl : _ = (6 : Nat)) | exact (rfl : _ = (7 : Nat)) | exact (rfl : _ = (8 : Nat)) | exact (rfl : _ = (9 : Nat)) | exact (rfl : _ = (10 : Nat)) | exact (rfl : _ = (11 : Nat)) | exact (rfl : _ = (12 : Nat)) | exact (rfl : _ = (13 : Nat)) | exact (rfl : _ = (14 : Nat)) | exact (rfl : _ = (15 : Nat)) | exact (rfl : _ = (16 : Nat)) | exact (rfl : _ = (17 : Nat)) | exact (rfl : _ = (18 : Nat)) | exact (rfl : _ = (19 : Nat)) | exact (rfl : _ = (20 : Nat)) | exact (rfl : _ = (21 : Nat)) | exact (rfl : _ = (22 : Nat)) | exact (rfl : _ = (23 : Nat))) : WG G E.P N ops (⟨some d, .call ⟨.value (.func f), xs.toArray, tys.toArray⟩, ty, pos, after, gd⟩ :: l) Q ⟨tm, ob⟩ :=
  WG.coA3 hw hd hc ha hK k

end

section
variable {P : Program} {fn : Func} {m : Nat} {e : Exit} {S : St} {ts : List T} {k n z : Nat} {e' : TypeId} {rows rows' : List (List D)} {x x' y y' : D}

/-- A result: a slice of the call's own. -/
theorem RetR.g (he : e = .ret ∨ e = .normal) (hts : resL S fn.results.toList = some ts) (hok : resOK P S fn.results.toList) (hn : norm S.ob (resT ts) = .og k n) (hk : S.ob[k]? = some (.gr z e' rows n false)) (hr : rows = rows') :
    RetR P fn 0 (just (.og 0 0) [.gr z e' rows' 0 false]) e S := by
  subst hr
  exact RetQ.own (tt := .og k n) k n he hts hok hn (by simp [T.ren, Rn.ix, Rn.of]) rfl hk rfl
theorem RetR.g'  (hr : rows = rows')
    (he : e = .ret ∨ e = .normal := by exact .inl rfl) (hts : resL S fn.results.toList = some ts := by exact rfl) (hok : resOK P S fn.results.toList := by first | trivial | exact resOK_of (by exact rfl)) (hn : norm S.ob (resT ts) = .og k n := by exact rfl) (hk : S.ob[k]? = some (.gr z e' rows n false) := by exact rfl) : RetR P fn 0 (just (.og 0 0) [.gr z e' rows' 0 false]) e S :=
  RetR.g he hts hok hn hk hr

theorem RetR.ag (he : e = .ret ∨ e = .normal) (hts : resL S fn.results.toList = some ts) (hok : resOK P S fn.results.toList) (hn : norm S.ob (resT ts) = .agg [.d x, .og k n]) (hk : S.ob[k]? = some (.gr z e' rows n false)) (hx : x = x') (hr : rows = rows') :
    RetR P fn 0 (just (.agg [.d x', .og 0 0]) [.gr z e' rows' 0 false]) e S := by
  subst hr; subst hx
  exact RetR.own (ob' := [.gr z e' rows 0 false]) ⟨[k], [n], S.ob.length⟩ he hts hok (by simp [hn, T.ren, T.renL, Rn.ix, Rn.of]) rfl rfl rfl rfl rfl ⟨by simpa [Rn.ix, Rn.of, Ob.ren] using hk, trivial⟩ rfl ⟨rfl, rfl⟩
theorem RetR.ag'  (hx : x = x') (hr : rows = rows')
    (he : e = .ret ∨ e = .normal := by exact .inl rfl) (hts : resL S fn.results.toList = some ts := by exact rfl) (hok : resOK P S fn.results.toList := by first | trivial | exact resOK_of (by exact rfl)) (hn : norm S.ob (resT ts) = .agg [.d x, .og k n] := by exact rfl) (hk : S.ob[k]? = some (.gr z e' rows n false) := by exact rfl) : RetR P fn 0 (just (.agg [.d x', .og 0 0]) [.gr z e' rows' 0 false]) e S :=
  RetR.ag he hts hok hn hk hx hr

theorem RetR.ag3 (he : e = .ret ∨ e = .normal) (hts : resL S fn.results.toList = some ts) (hok : resOK P S fn.results.toList) (hn : norm S.ob (resT ts) = .agg [.d x, .d y, .og k n]) (hk : S.ob[k]? = some (.gr z e' rows n false)) (hx : x = x') (hy : y = y') (hr : rows = rows') :
    RetR P fn 0 (just (.agg [.d x', .d y', .og 0 0]) [.gr z e' rows' 0 false]) e S := by
  subst hr; subst hx; subst hy
  exact RetR.own (ob' := [.gr z e' rows 0 false]) ⟨[k], [n], S.ob.length⟩ he hts hok (by simp [hn, T.ren, T.renL, Rn.ix, Rn.of]) rfl rfl rfl rfl rfl ⟨by simpa [Rn.ix, Rn.of, Ob.ren] using hk, trivial⟩ rfl ⟨rfl, rfl⟩
theorem RetR.ag3'  (hx : x = x') (hy : y = y') (hr : rows = rows')
    (he : e = .ret ∨ e = .normal := by exact .inl rfl) (hts : resL S fn.results.toList = some ts := by exact rfl) (hok : resOK P S fn.results.toList := by first | trivial | exact resOK_of (by exact rfl)) (hn : norm S.ob (resT ts) = .agg [.d x, .d y, .og k n] := by exact rfl) (hk : S.ob[k]? = some (.gr z e' rows n false) := by exact rfl) : RetR P fn 0 (just (.agg [.d x', .d y', .og 0 0]) [.gr z e' rows' 0 false]) e S :=
  RetR.ag3 he hts hok hn hk hx hy hr

theorem RD.agg_at {σ : Sto} {cs : List D} {u : Value} (h : RD σ (.agg cs) u) : ∃ vs : List Value, u = .agg vs.toArray ∧ cs.length = vs.length ∧ ∀ (i : Nat) (x : D) (u : Value), cs[i]? = some x → vs[i]? = some u → RD σ x u := by
  cases h with
  | agg _ vs hl h => exact ⟨vs, rfl, hl, h⟩

/-- A nil slice in a result becomes the call's own. -/
theorem RetR.agn (he : e = .ret ∨ e = .normal) (hts : resL S fn.results.toList = some ts) (hok : resOK P S fn.results.toList) (hn : resT ts = .agg [.d x, .d (.nl z)]) (hx : x = x') :
    RetR P fn 0 (just (.agg [.d x', .og 0 0]) [.gr z e' [] 0 false]) e S := by
  subst hx
  refine ⟨he, ts, hts, hok, fun w0 σ0 w g v hm0 I hv => ?_⟩
  have h := hv
  rw [hn] at h
  obtain ⟨vs, rfl, hl, hat⟩ := h.inv_agg
  match vs, hl with
  | [v1, v2], _ =>
    have h1 := (hat 0 _ v1 rfl rfl).inv_d
    have h2 := (hat 1 _ v2 rfl rfl).inv_d.inv_nl
    subst h2
    have I0 := I.trim (ob' := []) trivial
    obtain ⟨g1, hle, I1, ht⟩ := I0.adopt (by rw [hm0]; exact Nat.le_refl _) z e'
    refine ⟨_, _, g1, ⟨rfl, rfl⟩, I1, .agg _ [v1, .slice none 0 0] rfl fun i y u hy hu => ?_⟩
    match i with
    | 0 =>
      simp only [List.getElem?_cons_zero, Option.some.injEq] at hy hu
      subst hy; subst hu
      exact .d _ _ (h1.mono hle.σ)
    | 1 =>
      simp only [List.getElem?_cons_succ, List.getElem?_cons_zero, Option.some.injEq] at hy hu
      subst hy; subst hu
      exact ht
    | i + 2 => simp at hy
theorem RetR.agn'  (hx : x = x')
    (he : e = .ret ∨ e = .normal := by exact .inl rfl) (hts : resL S fn.results.toList = some ts := by exact rfl) (hok : resOK P S fn.results.toList := by first | trivial | exact resOK_of (by exact rfl)) (hn : resT ts = .agg [.d x, .d (.nl z)] := by exact rfl) : RetR P fn 0 (just (.agg [.d x', .og 0 0]) [.gr z e' [] 0 false]) e S :=
  RetR.agn he hts hok hn hx

theorem RetR.agn3 (he : e = .ret ∨ e = .normal) (hts : resL S fn.results.toList = some ts) (hok : resOK P S fn.results.toList) (hn : resT ts = .agg [.d x, .d y, .d (.nl z)]) (hx : x = x') (hy : y = y') :
    RetR P fn 0 (just (.agg [.d x', .d y', .og 0 0]) [.gr z e' [] 0 false]) e S := by
  subst hx; subst hy
  refine ⟨he, ts, hts, hok, fun w0 σ0 w g v hm0 I hv => ?_⟩
  have h := hv
  rw [hn] at h
  obtain ⟨vs, rfl, hl, hat⟩ := h.inv_agg
  match vs, hl with
  | [v1, v2, v3], _ =>
    have h1 := (hat 0 _ v1 rfl rfl).inv_d
    have h2 := (hat 1 _ v2 rfl rfl).inv_d
    have h3 := (hat 2 _ v3 rfl rfl).inv_d.inv_nl
    subst h3
    have I0 := I.trim (ob' := []) trivial
    obtain ⟨g1, hle, I1, ht⟩ := I0.adopt (by rw [hm0]; exact Nat.le_refl _) z e'
    refine ⟨_, _, g1, ⟨rfl, rfl⟩, I1, .agg _ [v1, v2, .slice none 0 0] rfl fun i y u hy hu => ?_⟩
    match i with
    | 0 =>
      simp only [List.getElem?_cons_zero, Option.some.injEq] at hy hu
      subst hy; subst hu
      exact .d _ _ (h1.mono hle.σ)
    | 1 =>
      simp only [List.getElem?_cons_succ, List.getElem?_cons_zero, Option.some.injEq] at hy hu
      subst hy; subst hu
      exact .d _ _ (h2.mono hle.σ)
    | 2 =>
      simp only [List.getElem?_cons_succ, List.getElem?_cons_zero, Option.some.injEq] at hy hu
      subst hy; subst hu
      exact ht
    | i + 3 => simp at hy
theorem RetR.agn3'  (hx : x = x') (hy : y = y')
    (he : e = .ret ∨ e = .normal := by exact .inl rfl) (hts : resL S fn.results.toList = some ts := by exact rfl) (hok : resOK P S fn.results.toList := by first | trivial | exact resOK_of (by exact rfl)) (hn : resT ts = .agg [.d x, .d y, .d (.nl z)] := by exact rfl) : RetR P fn 0 (just (.agg [.d x', .d y', .og 0 0]) [.gr z e' [] 0 false]) e S :=
  RetR.agn3 he hts hok hn hx hy

/-- A result: a slice of the call's own, published. -/
theorem RetR.gp (he : e = .ret ∨ e = .normal) (hts : resL S fn.results.toList = some ts) (hok : resOK P S fn.results.toList) (hn : norm S.ob (resT ts) = .og k n) (hk : S.ob[k]? = some (.gr z e' rows n false)) (hr : rows = rows') :
    RetR P fn 0 (just (.d (.sl z rows')) []) e S := by
  subst hr
  refine ⟨he, ts, hts, hok, fun w0 σ0 w g v hm0 I hv => ?_⟩
  have h := I.norm hv
  rw [hn] at h
  have hlt : k < S.ob.length := (List.getElem?_eq_some_iff.1 hk).1
  obtain ⟨g1, hle, hlim, I1⟩ := I.pub hk
  have h1 := I1.read (k := k) (rows := rows) (by rw [List.getElem?_set_self hlt])
  obtain ⟨hl, hv'⟩ := h.inv_og
  subst hv'
  rw [(hle.γ k n hl).2] at h1
  exact ⟨_, [], _, ⟨rfl, rfl⟩, I1.trim (ob' := []) trivial, .d _ _ h1⟩
theorem RetR.gp'  (hr : rows = rows')
    (he : e = .ret ∨ e = .normal := by exact .inl rfl) (hts : resL S fn.results.toList = some ts := by exact rfl) (hok : resOK P S fn.results.toList := by first | trivial | exact resOK_of (by exact rfl)) (hn : norm S.ob (resT ts) = .og k n := by exact rfl) (hk : S.ob[k]? = some (.gr z e' rows n false) := by exact rfl) : RetR P fn 0 (just (.d (.sl z rows')) []) e S :=
  RetR.gp he hts hok hn hk hr

theorem RetR.agp (he : e = .ret ∨ e = .normal) (hts : resL S fn.results.toList = some ts) (hok : resOK P S fn.results.toList) (hn : norm S.ob (resT ts) = .agg [.d x, .og k n]) (hk : S.ob[k]? = some (.gr z e' rows n false)) (hx : x = x') (hr : rows = rows') :
    RetR P fn 0 (just (.d (.agg [x', .sl z rows'])) []) e S := by
  subst hr; subst hx
  refine ⟨he, ts, hts, hok, fun w0 σ0 w g v hm0 I hv => ?_⟩
  have h := I.norm hv
  rw [hn] at h
  have hlt : k < S.ob.length := (List.getElem?_eq_some_iff.1 hk).1
  obtain ⟨g1, hle, hlim, I1⟩ := I.pub hk
  have h1 := I1.read (k := k) (rows := rows) (by rw [List.getElem?_set_self hlt])
  obtain ⟨vs, rfl, hl, hat⟩ := h.inv_agg
  match vs, hl with
  | [v1, v2], _ =>
    have q1 := (hat 0 _ v1 rfl rfl).inv_d
    obtain ⟨hl, hv'⟩ := (hat 1 _ v2 rfl rfl).inv_og
    subst hv'
    rw [(hle.γ k n hl).2] at h1
    refine ⟨_, [], _, ⟨rfl, rfl⟩, I1.trim (ob' := []) trivial, .d _ _ (.agg _ [v1, g.γ k n] rfl fun i y u hy hu => ?_)⟩
    match i with
    | 0 =>
      simp only [List.getElem?_cons_zero, Option.some.injEq] at hy hu
      subst hy; subst hu
      exact q1.mono hle.σ
    | 1 =>
      simp only [List.getElem?_cons_succ, List.getElem?_cons_zero, Option.some.injEq] at hy hu
      subst hy; subst hu
      exact h1
    | i + 2 => simp at hy
theorem RetR.agp'  (hx : x = x') (hr : rows = rows')
    (he : e = .ret ∨ e = .normal := by exact .inl rfl) (hts : resL S fn.results.toList = some ts := by exact rfl) (hok : resOK P S fn.results.toList := by first | trivial | exact resOK_of (by exact rfl)) (hn : norm S.ob (resT ts) = .agg [.d x, .og k n] := by exact rfl) (hk : S.ob[k]? = some (.gr z e' rows n false) := by exact rfl) : RetR P fn 0 (just (.d (.agg [x', .sl z rows'])) []) e S :=
  RetR.agp he hts hok hn hk hx hr

/-- A result that is a nil slice. -/
theorem RetR.gn (he : e = .ret ∨ e = .normal) (hts : resL S fn.results.toList = some ts) (hok : resOK P S fn.results.toList) (hn : nilT (resT ts) = true) :
    RetR P fn 0 (just (.og 0 0) [.gr z e' [] 0 false]) e S := by
  refine ⟨he, ts, hts, hok, fun w0 σ0 w g v hm0 I hv => ?_⟩
  have h2 := RT.nil hn hv
  subst h2
  have I0 := I.trim (ob' := []) trivial
  obtain ⟨g1, hle, I1, ht⟩ := I0.adopt (by rw [hm0]; exact Nat.le_refl _) z e'
  exact ⟨_, _, g1, ⟨rfl, rfl⟩, I1, ht⟩
theorem RetR.gn'  
    (he : e = .ret ∨ e = .normal := by exact .inl rfl) (hts : resL S fn.results.toList = some ts := by exact rfl) (hok : resOK P S fn.results.toList := by first | trivial | exact resOK_of (by exact rfl)) (hn : nilT (resT ts) = true := by exact rfl) : RetR P fn 0 (just (.og 0 0) [.gr z e' [] 0 false]) e S :=
  RetR.gn he hts hok hn

end

/-- What a slice written out comes to. -/
theorem Rel.buildRun {E : Env} {N : Nm} {S : St} {w0 : World} {σ0 : Bs} {a : Act} {w : World} {g : Gh} (R : Rel N w0 σ0 S a w g) {d : Option Nat} {ty : TypeId} {pos : String} {after : Array Edge} {gd : Option (Nat × Bool)} {t e : TypeId} {len : Nat} {parts : List (Nat × Operand)} {z : Nat} {rows : List (List D)}
    (ht : (E.ty t).kind = .slice e) (he : (E.ty e).known = true) (hz : (E.ty e).size = z) (hz0 : Nat.blt 0 z = true) (hlen : Nat.beq len parts.length = true) (hmax : Nat.ble (len * z) 16777216 = true)
    (hrows : rowsOf S 0 parts = some rows) (hwd : widths z rows = true) :
    ∃ xs : List Value, (execOp a.eval ⟨d, .buildSlice t len parts.toArray, ty, pos, after, gd⟩).run E.P w = .ok (.value (.slice (some ⟨w.heap.size, 0, none⟩) rows.length rows.length)) (w.alloc (.cells xs.toArray e)) ∧
      (w.alloc (.cells xs.toArray e)).ownsRow w.heap.size e z (.slice (some ⟨w.heap.size, 0, none⟩) rows.length rows.length) rows.length xs ∧ (∀ r ∈ rows, r.length = z) ∧
      (∀ (i j : Nat) (r : List D) (x : D), rows[i]? = some r → r[j]? = some x → ∃ u, xs[i * z + j]? = some u ∧ RD g.σ x u) ∧ ∀ u ∈ xs, u.oneCell' = true := by
  obtain ⟨inf, zz, hinf, hsz, _, hzv, hzs, hzc⟩ := E.info he
  have hlen' := Nat.eq_of_beq_eq_true hlen
  have hmax' := Nat.le_of_ble_eq_true hmax
  have hz0' : 0 < z := by simpa using hz0
  obtain ⟨hrl, hrp⟩ := rowsOf_at hrows
  have hwa := widths_at hwd
  let vals : List (Nat × Value) := parts.map fun p => (p.1, a.eval p.2)
  have hval : ∀ (j : Nat) (p : Nat × Value), vals[j]? = some p → p.1 = 0 + j ∧ p.2.cells.size = z := fun j p hp => by
    simp only [vals, List.getElem?_map, Option.map_eq_some_iff] at hp
    obtain ⟨q, hq, rfl⟩ := hp
    have hj : j < rows.length := by rw [hrl]; exact (List.getElem?_eq_some_iff.1 hq).1
    obtain ⟨h1, h2⟩ := hrp j q _ hq (List.getElem?_eq_getElem hj)
    obtain ⟨h3, h4⟩ := hwa _ (List.getElem_mem hj)
    obtain ⟨c1, _, _⟩ := R.inv.row h2 (R.ev q.2) h4
    exact ⟨h1, by show (a.eval q.2).cells.size = z; rw [← Array.length_toList]; omega⟩
  let L : List (List Value) := vals.map fun p => p.2.cells.toList
  have hL : ∀ r ∈ L, r.length = z := fun r hr => by
    obtain ⟨j, hj⟩ := List.getElem?_of_mem hr
    simp only [L, List.getElem?_map, Option.map_eq_some_iff] at hj
    obtain ⟨p, hp, rfl⟩ := hj
    simpa using (hval j p hp).2
  have hLl : L.length = rows.length := by simp [L, vals, hrl]
  have hfl : (vals.flatMap fun p => p.2.cells.toList) = L.flatten := by simp [L, List.flatMap]
  have hlt : vals.length = len := by simp [vals, hlen']
  let zc : Array Value := if len * z = 0 then #[] else zz.cells
  have hfill := fill_rows (z := z) (len := len) vals 0 [] (((Array.range (len * z)).map fun i => zc[i % zc.size]!).toList) (by simp) hval (by simp [hlt])
  simp only [List.nil_append, Array.toArray_toList] at hfill
  rw [hfl] at hfill
  have hrun : (Instr.buildSlice t len (parts.toArray.map fun (i, x) => (i, a.eval x))).run E.P w =
      .ok (.slice (some ⟨w.heap.size, 0, none⟩) len len) (w.alloc (.cells L.flatten.toArray e)) := by
    have e1 : (parts.toArray.map fun (x : Nat × Operand) => (x.1, a.eval x.2)).toList = vals := by simp [vals]
    have hnot : ¬ len * z > 2 ^ 24 := by omega
    unfold Instr.buildSlice
    simp only [Sem.run_bind, run_underlying (E.slice ht), Result.andThen_ok, sizeOf, typeInfo, run_program, hinf, Sem.run_pure, hsz, hz]
    rw [if_neg hnot]
    simp only [Sem.run_bind, Result.andThen_ok, Sem.run_pure, pure_bind]
    by_cases h0 : len * z = 0
    · simp only [h0, if_true, Sem.run_pure, Result.andThen_ok]
      have hzc0 : zc = #[] := by simp [zc, h0]
      rw [hzc0, h0] at hfill
      rw [e1]
      simp only [hfill]
      simp [newRow]
    · simp only [h0, if_false, zeroValue, typeInfo, Sem.run_bind, run_program, hinf, Result.andThen_ok, Sem.run_pure, hzv]
      have hzc0 : zc = zz.cells := by simp [zc, h0]
      rw [hzc0] at hfill
      rw [e1]
      simp only [hfill]
      simp [newRow]
  have hrowlen : rows.length = len := by omega
  have hown : (w.alloc (.cells L.flatten.toArray e)).ownsRow w.heap.size e z (.slice (some ⟨w.heap.size, 0, none⟩) len len) len L.flatten := by simpa using World.ownsRow_lit (base := w.heap.size) (e := e) (size := z) w L.flatten.toArray len (Nat.le_refl _) (by unfold maxLen; have : len ≤ len * z := Nat.le_mul_of_pos_right _ hz0'; omega) (by simp [← List.length_flatten, flat_len L hL, hLl, hrowlen])
  rw [← hrowlen] at hown hrun ⊢
  exact ⟨L.flatten, by simp only [execOp, Sem.run_bind, hrun, Result.andThen_ok, Sem.run_pure], hown, fun r hr => (hwa r hr).1,
    (fun i j r x hr hx => by
        have hi : i < parts.length := by rw [← hrl]; exact (List.getElem?_eq_some_iff.1 hr).1
        obtain ⟨h1, h2⟩ := hrp i parts[i] r (List.getElem?_eq_getElem hi) hr
        obtain ⟨h3, h4⟩ := hwa r (List.mem_of_getElem? hr)
        obtain ⟨c1, c2, c3⟩ := R.inv.row h2 (R.ev parts[i].2) h4
        have hj : j < r.length := (List.getElem?_eq_some_iff.1 hx).1
        have hLi : L[i]? = some (a.eval parts[i].2).cells.toList := by simp [L, vals, hi]
        have hju : j < (a.eval parts[i].2).cells.toList.length := by omega
        exact ⟨_, by rw [flat_at L hL i j _ hLi (by omega)]; exact List.getElem?_eq_getElem hju, c2 j x _ hx (List.getElem?_eq_getElem hju)⟩),
    (fun u hu => by
        obtain ⟨r, hr, hur⟩ := List.mem_flatten.1 hu
        obtain ⟨i, hi⟩ := List.getElem?_of_mem hr
        simp only [L, vals, List.getElem?_map, Option.map_eq_some_iff] at hi
        obtain ⟨p, ⟨q, hq, rfl⟩, rfl⟩ := hi
        have hir : i < rows.length := by rw [hrl]; exact (List.getElem?_eq_some_iff.1 hq).1
        obtain ⟨h1, h2⟩ := hrp i q _ hq (List.getElem?_eq_getElem hir)
        obtain ⟨h3, h4⟩ := hwa _ (List.getElem_mem hir)
        exact (R.inv.row h2 (R.ev q.2) h4).2.2 u hur)⟩

/-- Blocks that are new, and never written again. -/
theorem Inv.known {w0 : World} {σ0 : Bs} {ob : List Ob} {w : World} {g : Gh} (I : Inv w0 σ0 ob w g) {w' : World} (hb : Below w.heap.size w w') (b : Nat) (xs : List Value) (hbn : w.heap.size ≤ b) (hc : ∀ (o : Nat) (u : Value), xs[o]? = some u → w'.cell? ⟨b, o, none⟩ = some u) :
    ∃ g', g.le g' ∧ (∀ o, g'.σ b o = xs[o]?) ∧ Inv w0 σ0 ob w' g' := by
  have hn := fun o => I.new_none hbn o
  let g' : Gh := { g with σ := fun k o => if k = b then xs[o]? else g.σ k o }
  have hle : g.le g' := ⟨fun k o u hu => by
    by_cases e : k = b
    · subst e; rw [hn o] at hu; cases hu
    · simpa [g', e] using hu, fun k n h => ⟨h, rfl⟩⟩
  have hlt : ∀ (k : Nat) (o : Ob) (b' : Nat), ob[k]? = some o → g.at k o b' → b' < w.heap.size := fun k o b' ho h => ((I.obs k o ho).at_lt h).2
  refine ⟨g', hle, fun o => by simp [g'], I.below.trans hb, fun k o hk hn' => ?_, fun k o u hu => ?_, fun k o ho => ?_, I.lim, fun k k' o o' b' hne ho ho' h => ?_, I.ext⟩
  · have : ¬ k = b := by have := I.below.size; omega
    simpa [g', this] using I.old k o hk hn'
  · by_cases e : k = b
    · subst e
      simp only [g', if_true] at hu
      exact hc o u hu
    · simp only [g', if_neg e] at hu
      rw [hb.cell (p := ⟨k, o, none⟩) (I.lt_of_σ hu)]
      exact I.con k o u hu
  · refine (I.obs k o ho).mono hle rfl rfl (fun b' h => ⟨hb.block b' (hlt k o b' ho h), fun x => ?_⟩) hb.size
    have := hlt k o b' ho h
    have : ¬ b' = b := by omega
    simp [g', this]
  · rw [Gh.at_mono hle (I.obs k o ho) rfl] at h
    rw [Gh.at_mono hle (I.obs k' o' ho') rfl]
    exact I.dis k k' o o' b' hne ho ho' h

section
variable {E : Env} {N : Nm} {Q : Exit → St → Prop} {S : St} {ops l : List Oper} {ty : TypeId} {pos : String} {after : Array Edge} {gd : Option (Nat × Bool)} {d : Nat}

/-- A slice written out that is never written to: data. -/
theorem WL.bsD {t e : TypeId} {len : Nat} {parts : List (Nat × Operand)} {z : Nat} {rows : List (List D)} (hw : S.want ops ⟨some d, .buildSlice t len parts.toArray, ty, pos, after, gd⟩ = some true) (hd : Nat.blt d N.n = true)
    (ht : (E.ty t).kind = .slice e) (he : (E.ty e).known = true) (hz : (E.ty e).size = z) (hz0 : Nat.blt 0 z = true) (hlen : Nat.beq len parts.length = true) (hmax : Nat.ble (len * z) 16777216 = true)
    (hrows : rowsOf S 0 parts = some rows) (hwd : widths z rows = true)
    (k : WL E.P N ops l Q ⟨(S.set d (.d (.sl z rows))).tm, S.ob⟩) : WL E.P N ops (⟨some d, .buildSlice t len parts.toArray, ty, pos, after, gd⟩ :: l) Q S :=
  WL.eff (Nat.le_refl _) hw hd (fun w0 σ0 a w g R => by
    obtain ⟨xs, hrun, hown, h1, h2, h3⟩ := R.buildRun (d := some d) (ty := ty) (pos := pos) (after := after) (gd := gd) ht he hz hz0 hlen hmax hrows hwd
    have hcell : ∀ (o : Nat) (u : Value), xs[o]? = some u → (w.alloc (.cells xs.toArray e)).cell? ⟨w.heap.size, o, none⟩ = some u := fun o u hu => by
      have := hown.cells (by rfl) o u hu
      rwa [Addr.add_lit, Nat.zero_add] at this
    obtain ⟨g', hle, hσ, I'⟩ := R.inv.known (below_alloc w _) w.heap.size xs (Nat.le_refl _) hcell
    refine ⟨_, _, g', hrun, hle, I', .d _ _ ?_⟩
    have hlen := hown.1
    have hin : ∀ i j, i < rows.length → j < z → i * z + j < xs.length := fun i j hi hj => by
      rw [hlen]
      exact row_lt hi hj
    have hmx : rows.length ≤ maxLen := by
      rcases hown.2 with ⟨hv, _⟩ | ⟨b2, cap2, cur2, hv2, hb2, hh2, hc2, hm2, _⟩
      · cases hv
      · exact Nat.le_trans hc2 hm2
    refine .sl z rows w.heap.size 0 rows.length (fun i j => (xs[i * z + j]?).getD undef) (Nat.le_refl _) hmx h1 (fun i j hi hj => ?_) (fun i j r x hr hx => ?_)
    · have hlt := hin i j hi hj
      rw [Nat.zero_add, hσ, List.getElem?_eq_getElem hlt]
      exact ⟨rfl, h3 _ (List.getElem_mem hlt)⟩
    · obtain ⟨u, hu, hd⟩ := h2 i j r x hr hx
      rw [hu]
      exact hd.mono hle.σ) k
end

theorem rowOf_agree {ob : List Ob} {t t' : T} (h : t' = t) : rowOf ob t' = rowOf ob t := by rw [h]
theorem rowsOf_agree {S S' : St} (hob : S'.ob = S.ob) : ∀ (parts : List (Nat × Operand)) (i : Nat), (∀ p ∈ parts, S'.ev p.2 = S.ev p.2) → rowsOf S' i parts = rowsOf S i parts
  | [], i, _ => rfl
  | (j, x) :: r, i, h => by
    simp only [rowsOf]
    rw [h (j, x) (List.mem_cons_self ..), rowsOf_agree hob r (i + 1) fun p hp => h p (List.mem_cons_of_mem _ hp), hob]

section
variable {E : Env} {N : Nm} {K : St → Prop} {ops l : List Oper} {ty : TypeId} {pos : String} {after : Array Edge} {gd : Option (Nat × Bool)} {d : Nat} {tm : Nat → T} {ob : List Ob}
theorem WD.bs {t e : TypeId} {len : Nat} {parts : List (Nat × Operand)} {z : Nat} {rows : List (List D)} (hw : St.want ⟨tm, ob⟩ ops ⟨some d, .buildSlice t len parts.toArray, ty, pos, after, gd⟩ = some true) (hd : Nat.blt d N.n = true)
    (ht : (E.ty t).kind = .slice e) (he : (E.ty e).known = true) (hz : (E.ty e).size = z) (hz0 : Nat.blt 0 z = true) (hlen : Nat.beq len parts.length = true) (hmax : Nat.ble (len * z) 16777216 = true)
    (hrows : rowsOf ⟨tm, ob⟩ 0 parts = some rows) (hwd : widths z rows = true)
    (k : WD E.P N ops ob K l (upd tm d (.d (.sl z rows)))) : WD E.P N ops ob K (⟨some d, .buildSlice t len parts.toArray, ty, pos, after, gd⟩ :: l) tm :=
  .cons (.d (.sl z rows)) (fun tm' hag l Q k' => WL.bsD (S := ⟨tm', ob⟩) (by rw [want_agree hag]; exact hw) hd ht he hz hz0 hlen hmax (by
    rw [rowsOf_agree (S := ⟨tm, ob⟩) (S' := ⟨tm', ob⟩) rfl parts 0 fun p hp => ev_agree hag (by simp [Op.operands]; exact ⟨p.1, hp⟩)]
    exact hrows) hwd k') k
theorem WD.bs' {t e : TypeId} {len : Nat} {parts : List (Nat × Operand)} {z : Nat} {rows : List (List D)} (k : WD E.P N ops ob K l (upd tm d (.d (.sl z rows))))
    (hw : St.want ⟨tm, ob⟩ ops ⟨some d, .buildSlice t len parts.toArray, ty, pos, after, gd⟩ = some true := by exact rfl) (hd : Nat.blt d N.n = true := by exact rfl) (ht : (E.ty t).kind = .slice e := by exact rfl) (he : (E.ty e).known = true := by exact rfl) (hz : (E.ty e).size = z := by exact rfl) (hz0 : Nat.blt 0 z = true := by exact rfl) (hlen : Nat.beq len parts.length = true := by exact rfl) (hmax : Nat.ble (len * z) 16777216 = true := by exact rfl) (hrows : rowsOf ⟨tm, ob⟩ 0 parts = some rows := by exact rfl) (hwd : widths z rows = true := by exact rfl) : WD E.P N ops ob K (⟨some d, .buildSlice t len parts.toArray, ty, pos, after, gd⟩ :: l) tm :=
  WD.bs hw hd ht he hz hz0 hlen hmax hrows hwd k

end

section
variable {E : Env} {N : Nm} {Q : Exit → St → Prop} {S : St} {ops l : List Oper} {ty : TypeId} {pos : String} {after : Array Edge} {gd : Option (Nat × Bool)} {d : Nat} {tm : Nat → T} {ob : List Ob} {G : List Nat}
/-- A shift to the right. -/
theorem WL.shr {P : Program} {t rt : TypeId} {x y : Operand} {k k' : IntKind} {a b c : Int} (hw : S.want ops ⟨some d, .binOp .shr t x y rt, ty, pos, after, gd⟩ = some true) (hd : Nat.blt d N.n = true)
    (hx : S.ev x = .d (.v (.int k a))) (hy : S.ev y = .d (.v (.int k' b))) (hb : 0 ≤ b ∧ b ≤ k.bits) (hc : a / 2 ^ b.toNat = c)
    (kk : WL P N ops l Q (S.set d (vI k c))) : WL P N ops (⟨some d, .binOp .shr t x y rt, ty, pos, after, gd⟩ :: l) Q S :=
  WL.val hw hd (fun w0 σ0 a' w g R => by
    have h1 := R.ev x
    rw [hx] at h1
    have h1 := h1.inv_v
    have h2 := R.ev y
    rw [hy] at h2
    have h2 := h2.inv_v
    subst hc
    refine ⟨.int k (a / 2 ^ b.toNat), ?_, .d _ _ (.v _)⟩
    simp only [execOp, h1, h2, eqGuard_shr, binOp_shr, shift_shr k k' a b hb.1 hb.2]
    simp) kk
theorem WG.shr {P : Program} {t rt : TypeId} {x y : Operand} {k k' : IntKind} {a b c : Int} (hw : St.want ⟨tm, ob⟩ ops ⟨some d, .binOp .shr t x y rt, ty, pos, after, gd⟩ = some true) (hd : Nat.blt d N.n = true)
    (hx : St.ev ⟨tm, ob⟩ x = .d (.v (.int k a))) (hy : St.ev ⟨tm, ob⟩ y = .d (.v (.int k' b))) (hb : 0 ≤ b ∧ b ≤ k.bits) (hc : a / 2 ^ b.toNat = c)
    (kk : WG G P N ops l Q ⟨upd tm d (vI k c), ob⟩) : WG G P N ops (⟨some d, .binOp .shr t x y rt, ty, pos, after, gd⟩ :: l) Q ⟨tm, ob⟩ := WL.shr (S := ⟨tm, ob⟩) hw hd hx hy hb hc kk
end

end Go.Proofs.Yteooogngdejdgaa
