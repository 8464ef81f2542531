/-
  Nodes of a core put, by the program. Conditions: at most 100000 nodes.
-/
import Derived.Test.YtmmjbpgdkokjgaaGreatQLowerTreeLw1
import Derived.Test.YtmmjbpgdkokjgaaGreatQLowerTreeLw3
import Derived.Test.YtmmjbpgdkokjgaaGreatQLowerTreePp2
set_option linter.unusedVariables false
set_option linter.unusedSimpArgs false
set_option maxRecDepth 100000
namespace Go.Proofs.YtmmjbpgdkokjgaaGreat
open Go.RowKit

/-- What the program's maker of a core is. -/
abbrev loI (ns : List Nd) (L : List Co) (v : Nat) : List Ob := [.pv [.d (nodesD ns), .og 1 v], .x (neC (L.map coN) none) v]

theorem sizeN_core (R : List NR) : FunQ env.P 97 [.og 0 0] [.x (neC R none) 0] (just (.d (dI R.length)) [.x (neC R none) 0]) := by
  refine FunQ.intro Tryz.func97 rfl (by kernel_rfl) rfl ?_
  repeat' (first | refine WG.lenN' (E := env) ?_ | refine W.seq ?_ | refine W.rg ?_ | refine WG.nil ?_ | refine WG.run' (E := env) ?_ | fail)
  refine W.ret ?_
  exact RetR.own (ob' := [.x (neC R none) 0]) ⟨[0], [0], 1⟩ (.inl rfl) rfl (by first | trivial | exact resOK_of (E := env) rfl) rfl rfl rfl rfl rfl rfl ⟨rfl, trivial⟩ rfl ⟨rfl, rfl⟩

set_option maxHeartbeats 4000000 in
theorem putI_fn (ns : List Nd) (L : List Co) (n : Co) (hl : L.length ≤ 100000) : FunQ env.P 77 [.lp 0 0, .agg [.d (dI n.op), .d (dI n.a), .d (dI n.b), .d (dI n.c), .d (dI n.num), .og 2 0]] [.pv [.d (nodesD ns), .og 1 0], .x (neC (L.map coN) none) 0, .gr 5 93 (n.val.map Cell.row) 0 false]
    (just (.d (dI (plc (L ++ [n])))) [.pv [.d (nodesD ns), .og 1 1], .x (neC ((L ++ [n]).map coN) none) 1, .dead]) := by
  have hr : (L ++ [n]).map coN = L.map coN ++ [coN n] := by simp
  have hl2 : (L.map coN ++ [coN n]).length = L.length + 1 := by simp
  have hp : plc (L ++ [n]) = (((L.map coN ++ [coN n]).length : Nat) : Int) - 1 := by rw [← hr, List.length_map]; rfl
  have hsz := sizeN_core (L.map coN ++ [coN n])
  rw [hp, hr]
  have hlm : (L.map coN).length = L.length := by simp
  refine FunQ.intro Tryz.func77 rfl (by kernel_rfl) rfl ?_
  generalize L.map coN = R at *
  repeat' (first | refine W.dre' (id := 1) [6, 7, 10] (fun f => bif bt f 4 then [.pv [.d (nodesD ns), .og 1 1], .x (neC (R ++ [coN n]) none) 1, .dead, .pv [.d (dI n.op), .d (dI n.a), .d (dI n.b), .d (dI n.c), .d (dI n.num), .og 2 0]] else bif bt f 2 then [.pv [.d (nodesD ns), .og 1 0], .x (neC (R ++ [coN n]) none) 1, .dead, .pv [.d (dI n.op), .d (dI n.a), .d (dI n.b), .d (dI n.c), .d (dI n.num), .og 2 0]] else bif bt f 1 then [.pv [.d (nodesD ns), .og 1 0], .x (neC R none) 0, .x (neC [coN n] none) 1, .pv [.d (dI n.op), .d (dI n.a), .d (dI n.b), .d (dI n.c), .d (dI n.num), .og 2 0]] else [.pv [.d (nodesD ns), .og 1 0], .x (neC R none) 0, .gr 5 93 (n.val.map Cell.row) 0 false, .pv [.d (dI n.op), .d (dI n.a), .d (dI n.b), .d (dI n.c), .d (dI n.num), .og 2 0]]) [(0, [0, 1, 3]), (0, [0, 1]), (0, [0, 1]), (0, [0, 1]), (0, [0, 1]), (0, [0]), (1, [0]), (2, [1]), (0, [3]), (0, [3]), (4, [3])] [.pv [.d (nodesD ns), .og 1 1], .x (neC (R ++ [coN n]) none) 1, .dead, .pv [.d (dI n.op), .d (dI n.a), .d (dI n.b), .d (dI n.c), .d (dI n.num), .og 2 0]] ?_ | refine WE.mkd (.og 2 1) ?_ (.c (OpS1.bsN (E := env) (j0 := 5) (K := 2) rfl rfl rfl rfl rfl rfl rfl rfl rfl rfl rfl rfl rfl rfl) .n) | refine WE.mkd (.og 1 1) ?_ (.c (OpS1.apN (E := env) rfl rfl rfl rfl rfl rfl rfl rfl rfl rfl rfl rfl (by refine Nat.le_trans (Nat.mul_le_mul_right _ (m := 2097152) ?_) (Nat.le_of_ble_eq_true rfl); simp only [List.length_cons, List.length_nil]; omega) rfl) .n) | refine WE.nil ?_ | refine WE.s' (E := env) (t := .d _) ?_ | refine WE.s' (E := env) (t := .lp _ _) ?_ | refine WE.s' (E := env) (t := .og _ _) ?_ | refine WE.s' (E := env) (t := .ea _ _) ?_ | refine WE.s' (E := env) (t := .agg _) ?_ | refine WE.s' (E := env) (t := .tup _) ?_ | refine WE.st' (E := env) ?_ | refine W.seq ?_ | refine W.rg ?_ | refine WG.nil ?_ | refine WG.run' (E := env) ?_ | refine WG.cq (E := env) [1] [1] false rfl rfl (hsz) rfl rfl rfl rfl rfl rfl rfl (by first | exact trivial | exact ⟨rfl, trivial⟩ | exact ⟨rfl, rfl, trivial⟩) (.inl rfl) rfl (fun h => nomatch h) rfl rfl ?_)
  refine W.ret ?_
  exact RetQ.r (t := .d (dI ((((R ++ [coN n]).length : Nat) : Int) - 1))) (ob := [.pv [.d (nodesD ns), .og 1 1], .x (neC (R ++ [coN n]) none) 1, .dead]) ⟨rfl, rfl⟩ (RetQ.mk (.inl rfl) rfl (by first | trivial | exact resOK_of (E := env) rfl) rfl rfl ⟨rfl, .inl rfl, rfl, .inl rfl, rfl, .inl rfl, trivial⟩ rfl)

theorem RetR.loI {fn : Func} {e : Exit} {S : St} {ts : List T} {ns : List Nd} {L L' : List Co} {w c : Nat} {x x' : Int} {rest : List Ob} (he : e = .ret ∨ e = .normal) (hts : resL S fn.results.toList = some ts) (hok : resOK env.P S fn.results.toList)
    (hn : norm S.ob (resT ts) = .d (dI x)) (hob : S.ob = .pv [.d (nodesD ns), .og 1 w] :: .x (neC (L.map coN) none) w :: rest) (hL : L = L') (hv : w = c) (hx : x = x') : ∀ m : Nat, 2 ≤ m → RetR env.P fn m (just (.d (dI x')) (Go.Proofs.YtmmjbpgdkokjgaaGreat.loI ns L' c)) e S := fun m hm => by
  subst hL; subst hv; subst hx
  refine RetR.own (t := .d (dI x)) (ob' := Go.Proofs.YtmmjbpgdkokjgaaGreat.loI ns L w) ⟨[0, 1], [0, 0], S.ob.length⟩ he hts hok hn rfl rfl rfl rfl ?_ ⟨?_, ?_, trivial⟩ ?_ ⟨rfl, rfl⟩
  · simp [renOKL, Ob.renOK, Rn.of, T.lpOKL, T.lpOK]
  · rw [hob]; simp [Ob.ren, Rn.of, Rn.ix, T.renL, T.ren]
  · rw [hob]; simp [Ob.ren, Rn.of, Rn.ix]
  · have h2 : ∀ m, idxOK ⟨[0, 1], [0, 0], S.ob.length⟩ m = true := fun m => by
      induction m with
      | zero => rfl
      | succ m ih =>
        rw [idxOK, ih, Bool.true_and]
        rcases m with _ | _ | m
        · rfl
        · rfl
        · rw [Bool.or_eq_true]; left; rw [Nat.ble_eq]; show 2 ≤ m + 1 + 1; omega
    exact h2 m

section
variable (ns : List Nd) (L : List Co)
/-- A node with a slice of its own. -/
abbrev putA (op a b c num : Int) : List T := [.lp 0 0, .agg [.d (dI op), .d (dI a), .d (dI b), .d (dI c), .d (dI num), .og 2 0]]
abbrev putO (v : List Cell) : List Ob := [.pv [.d (nodesD ns), .og 1 0], .x (neC (L.map coN) none) 0, .gr 5 93 (v.map Cell.row) 0 false]
theorem putLeafI (op num : Int) (hl : L.length ≤ 100000) : FunQ env.P 77 (putA op 0 0 0 num) (putO ns L []) (just (.d (dI (plc ((Pt.lf op num).on L)))) (loI ns ((Pt.lf op num).on L) 1 ++ [.dead])) := by
  have := putI_fn ns L ⟨op, 0, 0, 0, num, []⟩ hl
  rw [Pt.on_leaf] at this
  exact this
theorem putCvI (v : List Cell) (hl : L.length ≤ 100000) : FunQ env.P 77 (putA 2 0 0 0 0) (putO ns L v) (just (.d (dI (plc ((Pt.cv v).on L)))) (loI ns ((Pt.cv v).on L) 1 ++ [.dead])) := by
  have := putI_fn ns L ⟨2, 0, 0, 0, 0, v⟩ hl
  rw [Pt.on_leaf] at this
  exact this
theorem put1I (m : Co) (A : Pt) (hl : (A.on L).length ≤ 100000) : FunQ env.P 77 (putA m.op (plc (A.on L)) m.b m.c m.num) (putO ns (A.on L) m.val) (just (.d (dI (plc ((Pt.mk m [A]).on L)))) (loI ns ((Pt.mk m [A]).on L) 1 ++ [.dead])) := by
  have := putI_fn ns (A.on L) ⟨m.op, plc (A.on L), m.b, m.c, m.num, m.val⟩ hl
  rw [Pt.on_1 m] at this
  exact this
theorem put2I (m : Co) (A B : Pt) (hl : (B.on (A.on L)).length ≤ 100000) : FunQ env.P 77 (putA m.op (plc (A.on L)) (plc (B.on (A.on L))) m.c m.num) (putO ns (B.on (A.on L)) m.val) (just (.d (dI (plc ((Pt.mk m [A, B]).on L)))) (loI ns ((Pt.mk m [A, B]).on L) 1 ++ [.dead])) := by
  have := putI_fn ns (B.on (A.on L)) ⟨m.op, plc (A.on L), plc (B.on (A.on L)), m.c, m.num, m.val⟩ hl
  rw [Pt.on_2 m] at this
  exact this
theorem put3I (m : Co) (A B C : Pt) (hl : (C.on (B.on (A.on L))).length ≤ 100000) : FunQ env.P 77 (putA m.op (plc (A.on L)) (plc (B.on (A.on L))) (plc (C.on (B.on (A.on L)))) m.num) (putO ns (C.on (B.on (A.on L))) m.val) (just (.d (dI (plc ((Pt.mk m [A, B, C]).on L)))) (loI ns ((Pt.mk m [A, B, C]).on L) 1 ++ [.dead])) := by
  have := putI_fn ns (C.on (B.on (A.on L))) ⟨m.op, plc (A.on L), plc (B.on (A.on L)), plc (C.on (B.on (A.on L))), m.num, m.val⟩ hl
  rw [Pt.on_3 m] at this
  exact this
end

section
variable {N : Nm} {Q : Exit → St → Prop} {tm : Nat → T} {R : List Ob} {ops l : List Oper} {ty : TypeId} {pos : String} {after : Array Edge} {gd : Option (Nat × Bool)} {d : Nat} {G : List Nat}
/-- A call that is lent the program's maker alone. -/
theorem WG.loI {ns : List Nd} {L L' : List Co} {w c : Nat} {x : Int} {f : FuncId} {xs : List Operand} {tys : List TypeId} {args : List T}
    (hw : St.want ⟨tm, .pv [.d (nodesD ns), .og 1 w] :: .x (neC (L.map coN) none) w :: R⟩ ops ⟨some d, .call ⟨.value (.func f), xs.toArray, tys.toArray⟩, ty, pos, after, gd⟩ = some true) (hd : Nat.blt d N.n = true)
    (hc : FunQ env.P f args (Go.Proofs.YtmmjbpgdkokjgaaGreat.loI ns L 0) (just (.d (dI x)) (Go.Proofs.YtmmjbpgdkokjgaaGreat.loI ns L' c))) (ha : argsT env ⟨tm, .pv [.d (nodesD ns), .og 1 w] :: .x (neC (L.map coN) none) w :: R⟩ false xs tys ++ [] = T.renL ⟨[0, 1], [0, w], R.length + 2⟩ args)
    (hlp : T.lpOKL ⟨[0, 1], [0, w], R.length + 2⟩ args = true)
    (k : WG G env.P N ops l Q ⟨upd tm d (.d (dI x)), .pv [.d (nodesD ns), .og 1 (w + c)] :: .x (neC (L'.map coN) none) (w + c) :: R⟩) :
    WG G env.P N ops (⟨some d, .call ⟨.value (.func f), xs.toArray, tys.toArray⟩, ty, pos, after, gd⟩ :: l) Q ⟨tm, .pv [.d (nodesD ns), .og 1 w] :: .x (neC (L.map coN) none) w :: R⟩ := by
  refine WG.cq (E := env) (K := R.length + 2) (t' := .d (dI x)) (ob2 := .pv [.d (nodesD ns), .og 1 (w + c)] :: .x (neC (L'.map coN) none) (w + c) :: R) [0, 1] [0, w] false hw hd hc rfl (by simp) ha hlp rfl rfl (by simp [startL, Ob.start, Ob.renOK, T.lpOKL, T.lpOK, Rn.of]) ⟨rfl, rfl, trivial⟩ (.inl rfl) rfl (fun h => nomatch h) rfl ?_ k
  simp [mergeO, renFrom, Ob.ren, T.renL, T.ren, Rn.ix, Rn.of]
/-- A call that is lent the program's maker and, at the end, a slice that it takes. -/
theorem WG.loT {ns : List Nd} {L L' : List Co} {w c : Nat} {x : Int} {v : List Cell} {f : FuncId} {xs : List Operand} {tys : List TypeId} {args : List T}
    (hw : St.want ⟨tm, .pv [.d (nodesD ns), .og 1 w] :: .x (neC (L.map coN) none) w :: (R ++ [.gr 5 93 (v.map Cell.row) 0 false])⟩ ops ⟨some d, .call ⟨.value (.func f), xs.toArray, tys.toArray⟩, ty, pos, after, gd⟩ = some true) (hd : Nat.blt d N.n = true)
    (hc : FunQ env.P f args (Go.Proofs.YtmmjbpgdkokjgaaGreat.loI ns L 0 ++ [.gr 5 93 (v.map Cell.row) 0 false]) (just (.d (dI x)) (Go.Proofs.YtmmjbpgdkokjgaaGreat.loI ns L' c ++ [.dead]))) (ha : argsT env ⟨tm, .pv [.d (nodesD ns), .og 1 w] :: .x (neC (L.map coN) none) w :: (R ++ [.gr 5 93 (v.map Cell.row) 0 false])⟩ false xs tys ++ [] = T.renL ⟨[0, 1, R.length + 2], [0, w, 0], R.length + 3⟩ args)
    (hlp : T.lpOKL ⟨[0, 1, R.length + 2], [0, w, 0], R.length + 3⟩ args = true)
    (k : WG G env.P N ops l Q ⟨upd tm d (.d (dI x)), .pv [.d (nodesD ns), .og 1 (w + c)] :: .x (neC (L'.map coN) none) (w + c) :: (R ++ [.dead])⟩) :
    WG G env.P N ops (⟨some d, .call ⟨.value (.func f), xs.toArray, tys.toArray⟩, ty, pos, after, gd⟩ :: l) Q ⟨tm, .pv [.d (nodesD ns), .og 1 w] :: .x (neC (L.map coN) none) w :: (R ++ [.gr 5 93 (v.map Cell.row) 0 false])⟩ := by
  refine WG.cq (E := env) (K := R.length + 3) (t' := .d (dI x)) (ob2 := .pv [.d (nodesD ns), .og 1 (w + c)] :: .x (neC (L'.map coN) none) (w + c) :: (R ++ [.dead])) [0, 1, R.length + 2] [0, w, 0] false hw hd hc rfl (by simp) ha hlp (by simp [nodupB]; exact ⟨⟨rfl, rfl⟩, rfl⟩) rfl (by simp [startL, Ob.start, Ob.renOK, T.lpOKL, T.lpOK, Rn.of]) ⟨rfl, rfl, ?_, trivial⟩ (.inl rfl) rfl (fun h => nomatch h) rfl ?_ k
  · simp [Rn.ix, Rn.of, Ob.ren]
  · simp [mergeO, renFrom, Ob.ren, T.renL, T.ren, Rn.ix, Rn.of]
end

end Go.Proofs.YtmmjbpgdkokjgaaGreat
