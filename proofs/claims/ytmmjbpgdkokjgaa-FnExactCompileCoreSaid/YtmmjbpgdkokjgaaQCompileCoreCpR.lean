/-
  Small steps of making instructions: what is known behind each. Conditions: at most 100000 instructions, values of at most 2^20 cells.
-/
import Derived.Test.YtmmjbpgdkokjgaaQCompileCoreCp3
set_option linter.unusedVariables false
set_option linter.unusedSimpArgs false
set_option maxRecDepth 100000
namespace Go.Proofs.Ytmmjbpgdkokjgaa
open Go.RowKit

/-- What the reference's maker is, with what is known behind a call. -/
def outS (cs : List Co) (s s' : Cst) (t : T) (F : Prop) : T → List Ob → Prop := fun t' ob' => (t' = t ∧ F) ∧ ∃ v, v + s.L.length = s'.L.length ∧ ob' = mkO cs s' v
def outI (cs : List Co) (b : Nat) (s s' : Cst) (t : T) (F : Prop) : T → List Ob → Prop := fun t' ob' => (t' = t ∧ F) ∧ ∃ v, v + s.L.length = s'.L.length ∧ ob' = miO cs s' b v

theorem FunQ.outS {cs : List Co} {s s' : Cst} {t : T} {v : Nat} {f : FuncId} {args : List T} {ob : List Ob} (h : FunQ env.P f args ob (just t (mkO cs s' v))) {F : Prop} (hF : F) (hv : v + s.L.length = s'.L.length) : FunQ env.P f args ob (outS cs s s' t F) :=
  h.mono fun t' ob' ⟨e1, e2⟩ => ⟨⟨e1, hF⟩, v, hv, e2⟩
theorem FunQ.outI {cs : List Co} {b : Nat} {s s' : Cst} {t : T} {v : Nat} {f : FuncId} {args : List T} {ob : List Ob} (h : FunQ env.P f args ob (just t (miO cs s' b v))) {F : Prop} (hF : F) (hv : v + s.L.length = s'.L.length) : FunQ env.P f args ob (outI cs b s s' t F) :=
  h.mono fun t' ob' ⟨e1, e2⟩ => ⟨⟨e1, hF⟩, v, hv, e2⟩

section
variable {N : Nm} {Q : Exit → St → Prop} {tm : Nat → T} {R : List Ob} {ops l : List Oper} {ty : TypeId} {pos : String} {after : Array Edge} {gd : Option (Nat × Bool)} {d : Nat} {G : List Nat}

/-- The version is how many are new. -/
theorem justS_of {cs : List Co} {s s' : Cst} {t : T} {F : Prop} {f : FuncId} {args : List T} {ob : List Ob} (h : FunQ env.P f args ob (outS cs s s' t F)) : FunQ env.P f args ob (just t (mkO cs s' (s'.L.length - s.L.length))) :=
  h.mono fun t' ob' ⟨⟨e1, _⟩, v, e2, e3⟩ => ⟨e1, by rw [e3, show v = s'.L.length - s.L.length by omega]⟩

/-- A call that is lent the reference's maker. -/
theorem WG.mkS {cs : List Co} {s s' : Cst} {w : Nat} {t : T} {F : Prop} {f : FuncId} {xs : List Operand} {tys : List TypeId} {args : List T}
    (hw : St.want ⟨tm, .pv [.d (coresD cs), .og 1 w, .d (dI s.many)] :: .x (neI (rwI s) none) w :: R⟩ ops ⟨some d, .call ⟨.value (.func f), xs.toArray, tys.toArray⟩, ty, pos, after, gd⟩ = some true) (hd : Nat.blt d N.n = true)
    (hc : FunQ env.P f args (mkO cs s 0) (outS cs s s' t F)) (ha : argsT env ⟨tm, .pv [.d (coresD cs), .og 1 w, .d (dI s.many)] :: .x (neI (rwI s) none) w :: R⟩ false xs tys ++ [] = T.renL ⟨[0, 1], [0, w], R.length + 2⟩ args)
    (hlp : T.lpOKL ⟨[0, 1], [0, w], R.length + 2⟩ args = true) (ht : T.ren ⟨[0, 1], [0, w], R.length + 2⟩ t = t)
    (k : ∀ v, v + s.L.length = w + s'.L.length → F → WG G env.P N ops l Q ⟨upd tm d t, .pv [.d (coresD cs), .og 1 v, .d (dI s'.many)] :: .x (neI (rwI s') none) v :: R⟩) :
    WG G env.P N ops (⟨some d, .call ⟨.value (.func f), xs.toArray, tys.toArray⟩, ty, pos, after, gd⟩ :: l) Q ⟨tm, .pv [.d (coresD cs), .og 1 w, .d (dI s.many)] :: .x (neI (rwI s) none) w :: R⟩ := by
  refine WG.cQ (E := env) (K := R.length + 2) [0, 1] [0, w] false hw hd hc rfl (by simp) ha hlp rfl rfl (by simp [startL, Ob.start, Ob.renOK, T.lpOKL, T.lpOK, Rn.of]) ⟨rfl, rfl, trivial⟩ (.inl rfl) (fun t' ob' ⟨_, v, _, e⟩ => ⟨by subst e; rfl, fun h => nomatch h⟩) ?_
  rintro t' ob' ⟨⟨rfl, hF⟩, v, hv, rfl⟩
  rw [ht]
  have := k (w + v) (by omega) hF
  rw [show mergeO ⟨[0, 1], [0, w], R.length + 2⟩ 0 (.pv [.d (coresD cs), .og 1 w, .d (dI s.many)] :: .x (neI (rwI s) none) w :: R) [0, 1] (mkO cs s' v) = .pv [.d (coresD cs), .og 1 (w + v), .d (dI s'.many)] :: .x (neI (rwI s') none) (w + v) :: R by simp [mergeO, renFrom, Ob.ren, T.renL, T.ren, Rn.ix, Rn.of]]
  exact this

/-- A call that is lent the program's maker. -/
theorem WG.miS {cs : List Co} {s s' : Cst} {b w : Nat} {t : T} {F : Prop} {f : FuncId} {xs : List Operand} {tys : List TypeId} {args : List T}
    (hw : St.want ⟨tm, .pv [.d (coresD cs), .og 1 w, .d (dI s.many), imT b] :: .x (neI (rwI s) none) w :: R⟩ ops ⟨some d, .call ⟨.value (.func f), xs.toArray, tys.toArray⟩, ty, pos, after, gd⟩ = some true) (hd : Nat.blt d N.n = true)
    (hc : FunQ env.P f args (miO cs s b 0) (outI cs b s s' t F)) (ha : argsT env ⟨tm, .pv [.d (coresD cs), .og 1 w, .d (dI s.many), imT b] :: .x (neI (rwI s) none) w :: R⟩ false xs tys ++ [] = T.renL ⟨[0, 1], [0, w], R.length + 2⟩ args)
    (hlp : T.lpOKL ⟨[0, 1], [0, w], R.length + 2⟩ args = true) (ht : T.ren ⟨[0, 1], [0, w], R.length + 2⟩ t = t)
    (k : ∀ v, v + s.L.length = w + s'.L.length → F → WG G env.P N ops l Q ⟨upd tm d t, .pv [.d (coresD cs), .og 1 v, .d (dI s'.many), imT b] :: .x (neI (rwI s') none) v :: R⟩) :
    WG G env.P N ops (⟨some d, .call ⟨.value (.func f), xs.toArray, tys.toArray⟩, ty, pos, after, gd⟩ :: l) Q ⟨tm, .pv [.d (coresD cs), .og 1 w, .d (dI s.many), imT b] :: .x (neI (rwI s) none) w :: R⟩ := by
  refine WG.cQ (E := env) (K := R.length + 2) [0, 1] [0, w] false hw hd hc rfl (by simp) ha hlp rfl rfl (by simp [startL, Ob.start, Ob.renOK, T.lpOKL, T.lpOK, Rn.of]) ⟨rfl, rfl, trivial⟩ (.inl rfl) (fun t' ob' ⟨_, v, _, e⟩ => ⟨by subst e; rfl, fun h => nomatch h⟩) ?_
  rintro t' ob' ⟨⟨rfl, hF⟩, v, hv, rfl⟩
  rw [ht]
  have := k (w + v) (by omega) hF
  rw [show mergeO ⟨[0, 1], [0, w], R.length + 2⟩ 0 (.pv [.d (coresD cs), .og 1 w, .d (dI s.many), imT b] :: .x (neI (rwI s) none) w :: R) [0, 1] (miO cs s' b v) = .pv [.d (coresD cs), .og 1 (w + v), .d (dI s'.many), imT b] :: .x (neI (rwI s') none) (w + v) :: R by simp [mergeO, renFrom, Ob.ren, T.renL, T.ren, Rn.ix, Rn.of]]
  exact this
end

theorem Cst.put_F (s : Cst) (op arg : Int) : (s.put op arg).L.length = s.L.length + 1 ∧ (s.put op arg).many = s.many := ⟨Cst.put_len s op arg, rfl⟩

theorem putS (cs : List Co) (s : Cst) (op arg : Int) (hl : s.L.length ≤ 100000) : FunQ env.P 16 [.lp 0 0, .d (dI op), .d (dI arg)] (mkO cs s 0) (outS cs s (s.put op arg) (.d (dI s.L.length)) ((s.put op arg).L.length = s.L.length + 1 ∧ (s.put op arg).many = s.many)) :=
  (l8Put_fn cs s op arg hl).outS (s.put_F op arg) (by rw [Cst.put_len]; omega)

theorem putI (cs : List Co) (b : Nat) (s : Cst) (op arg : Int) (hl : s.L.length ≤ 100000) : FunQ env.P 21 [.lp 0 0, .d (dI op), .d (dI arg)] (miO cs s b 0) (outI cs b s (s.put op arg) (.d (dI s.L.length)) ((s.put op arg).L.length = s.L.length + 1 ∧ (s.put op arg).many = s.many)) :=
  (cPut_fn b cs s op arg hl).outI (s.put_F op arg) (by rw [Cst.put_len]; omega)

theorem Cst.here_F (s : Cst) (i : Nat) : (s.here i).L.length = s.L.length ∧ (s.here i).many = s.many := ⟨Cst.here_len s i, rfl⟩

theorem hereS (cs : List Co) (s : Cst) (i : Nat) (hi : i < s.L.length) (hl : s.L.length ≤ 100000) : FunQ env.P 37 [.lp 0 0, .d (dI (i : Int))] (mkO cs s 0) (outS cs s (s.here i) (.tup []) ((s.here i).L.length = s.L.length ∧ (s.here i).many = s.many)) :=
  (l8Here_fn cs s i hi hl).outS (s.here_F i) (by rw [Cst.here_len]; omega)

theorem hereI (cs : List Co) (b : Nat) (s : Cst) (i : Nat) (hi : i < s.L.length) (hl : s.L.length ≤ 100000) : FunQ env.P 49 [.lp 0 0, .d (dI (i : Int))] (miO cs s b 0) (outI cs b s (s.here i) (.tup []) ((s.here i).L.length = s.L.length ∧ (s.here i).many = s.many)) :=
  (cHere_fn b cs s i hi hl).outI (s.here_F i) (by rw [Cst.here_len]; omega)

theorem regS (cs : List Co) (s : Cst) (h0 : 0 ≤ s.many ∧ s.many ≤ 100000) : FunQ env.P 41 [.lp 0 0] (mkO cs s 0) (outS cs s s.reg (.d (dI s.many)) (s.reg.L.length = s.L.length ∧ s.reg.many = s.many + 1)) :=
  (l8Reg_fn cs s h0).outS ⟨rfl, rfl⟩ (by rw [Cst.reg_len]; omega)

theorem regI (cs : List Co) (b : Nat) (s : Cst) (h0 : 0 ≤ s.many ∧ s.many ≤ 100000) : FunQ env.P 53 [.lp 0 0] (miO cs s b 0) (outI cs b s s.reg (.d (dI s.many)) (s.reg.L.length = s.L.length ∧ s.reg.many = s.many + 1)) :=
  (cReg_fn b cs s h0).outI ⟨rfl, rfl⟩ (by rw [Cst.reg_len]; omega)

set_option maxHeartbeats 4000000 in

theorem Cst.val_F (s : Cst) (op : Int) (v : List Cell) : (s.val op v).L.length = s.L.length + 1 ∧ (s.val op v).many = s.many := ⟨Cst.val_len s op v, rfl⟩

theorem valS (cs : List Co) (s : Cst) (op : Int) (v : List Cell) (hl : s.L.length ≤ 100000) (hv : v.length ≤ 1048576) : FunQ env.P 34 [.lp 0 0, .d (dI op), .d (cellsD v)] (mkO cs s 0) (outS cs s (s.val op v) (.tup []) ((s.val op v).L.length = s.L.length + 1 ∧ (s.val op v).many = s.many)) :=
  (l8Val_fn cs s op v hl hv).outS (s.val_F op v) (by rw [Cst.val_len]; omega)

set_option maxHeartbeats 4000000 in

theorem pushI (cs : List Co) (b : Nat) (s : Cst) (x : V) (v : List Cell) (hc : Fun env.P 94 [.agg x.rowP] (.og 0 0) [.gr 5 81 (v.map Cell.row) 0 false]) (hl : s.L.length ≤ 100000) : FunQ env.P 79 [.lp 0 0, .d (.agg x.rowP)] (miO cs s b 0) (outI cs b s (s.val 3 v) (.tup []) ((s.val 3 v).L.length = s.L.length + 1 ∧ (s.val 3 v).many = s.many)) :=
  (cPush_fn b cs s x v hc hl).outI (s.val_F 3 v) (by rw [Cst.val_len]; omega)

end Go.Proofs.Ytmmjbpgdkokjgaa
