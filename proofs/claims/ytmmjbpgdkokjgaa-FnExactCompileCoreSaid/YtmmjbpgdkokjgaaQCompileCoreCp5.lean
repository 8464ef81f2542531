/-
  Making instructions of a core, by the program. Conditions: at most 50000 instructions.
-/
import Derived.Test.YtmmjbpgdkokjgaaQCompileCoreCpR
import Derived.Test.YtmmjbpgdkokjgaaQCompileCorePgF
set_option linter.unusedVariables false
set_option linter.unusedSimpArgs false
set_option maxRecDepth 100000
namespace Go.Proofs.Ytmmjbpgdkokjgaa
open Go.RowKit

theorem ud_imap : env.P.underlying 51 = some (.map 2 2) := by kernel_rfl
theorem ud_i64 : env.P.underlying 2 = some (.int .i64) := by kernel_rfl

def Ex (m m' : Int → Option Int) : Prop := ∀ x u, m x = some u → m' x = some u
theorem Ex.refl (m : Int → Option Int) : Ex m m := fun x u h => h
theorem Ex.trans {a b c : Int → Option Int} (h : Ex a b) (k : Ex b c) : Ex a c := fun x u hx => k x u (h x u hx)
/-- The registers of the slots that something is in are those that the map has. -/
def Kn (sl : List Int) (regs : List Int) (m : Int → Option Int) : Prop := ∀ x ∈ sl, 0 ≤ x ∧ x ≤ 59 ∧ m x = some (regs.getD x.toNat default)
theorem Kn.ext {sl regs : List Int} {m m' : Int → Option Int} (h : Kn sl regs m) (k : Ex m m') : Kn sl regs m' := fun x hx => let ⟨a, b, c⟩ := h x hx; ⟨a, b, k x _ c⟩
theorem Kn.put {sl regs : List Int} {m : Int → Option Int} {slot r : Int} (h : Kn sl regs m) (hs : 0 ≤ slot ∧ slot ≤ 59) (hr : regs.length = 60) : Kn (sl ++ [slot]) (regs.set slot.toNat r) (fun x => if x = slot then some r else m x) := fun x hx => by
  rcases List.mem_append.1 hx with h1 | h1
  · obtain ⟨a, b, c⟩ := h x h1
    refine ⟨a, b, ?_⟩
    show (if x = slot then some r else m x) = _
    by_cases e : x = slot
    · subst e
      rw [if_pos rfl, List.getD_eq_getElem?_getD, List.getElem?_set_self (by omega)]
      rfl
    · rw [if_neg e, c, List.getD_eq_getElem?_getD, List.getD_eq_getElem?_getD, List.getElem?_set_ne (by omega)]
  · rw [List.mem_singleton] at h1
    subst h1
    refine ⟨hs.1, hs.2, ?_⟩
    show (if x = x then some r else m x) = _
    rw [if_pos rfl, List.getD_eq_getElem?_getD, List.getElem?_set_self (by omega)]
    rfl

/-- The program's maker, with its map of registers. -/
noncomputable abbrev mi3 (cs : List Co) (s : Cst) (b w n : Nat) (m : Int → Option Int) : List Ob := [.pv [.d (coresD cs), .og 1 w, .d (dI s.many), imT b], .x (neI (rwI s) none) w, .x (imX env.P 2 b n m) 0]
noncomputable def outN (cs : List Co) (b : Nat) (s s' : Cst) (n k : Nat) (m : Int → Option Int) (F : Prop) : T → List Ob → Prop := fun t' ob' => (t' = .tup [] ∧ F) ∧ ∃ v n' m', v + s.L.length = s'.L.length ∧ n' ≤ n + k ∧ Ex m m' ∧ ob' = mi3 cs s' b v n' m'

/-- What the program makes of the node j. -/
def GoI (cs : List Co) (b : Nat) (go : Int → List Int → Cst → Cst) (j : Int) (c : Nat) (sl : List Int) : Prop := ∀ (regs : List Int) (s : Cst) (n : Nat) (m : Int → Option Int), regs.length = 60 → Kn sl regs m → s.L.length + 20 * c ≤ 50000 → 0 ≤ s.many → s.many + 2 * c ≤ 50000 → n + 2 * c ≤ 100000 →
  FunQ env.P 19 [.lp 0 0, .d (dI j)] (mi3 cs s b 0 n m) (outN cs b s (go j regs s) n (2 * c) m (s.near (go j regs s) (20 * c) (2 * c)))

section
variable {N : Nm} {Q : Exit → St → Prop} {tm : Nat → T} {R : List Ob} {ops l : List Oper} {ty : TypeId} {pos : String} {after : Array Edge} {gd : Option (Nat × Bool)} {d : Nat} {G : List Nat}
/-- A call that is lent the program's maker with its map. -/
theorem WG.miN {cs : List Co} {s s' : Cst} {b w n k0 : Nat} {m : Int → Option Int} {F : Prop} {f : FuncId} {xs : List Operand} {tys : List TypeId} {args : List T}
    (hw : St.want ⟨tm, .pv [.d (coresD cs), .og 1 w, .d (dI s.many), imT b] :: .x (neI (rwI s) none) w :: .x (imX env.P 2 b n m) 0 :: R⟩ ops ⟨some d, .call ⟨.value (.func f), xs.toArray, tys.toArray⟩, ty, pos, after, gd⟩ = some true) (hd : Nat.blt d N.n = true)
    (hc : FunQ env.P f args (mi3 cs s b 0 n m) (outN cs b s s' n k0 m F)) (ha : argsT env ⟨tm, .pv [.d (coresD cs), .og 1 w, .d (dI s.many), imT b] :: .x (neI (rwI s) none) w :: .x (imX env.P 2 b n m) 0 :: R⟩ false xs tys ++ [] = T.renL ⟨[0, 1, 2], [0, w, 0], R.length + 3⟩ args)
    (hlp : T.lpOKL ⟨[0, 1, 2], [0, w, 0], R.length + 3⟩ args = true) (ht : T.ren ⟨[0, 1, 2], [0, w, 0], R.length + 3⟩ (.tup []) = .tup [])
    (k : ∀ v n' m', v + s.L.length = w + s'.L.length → n' ≤ n + k0 → Ex m m' → F → WG G env.P N ops l Q ⟨upd tm d (.tup []), .pv [.d (coresD cs), .og 1 v, .d (dI s'.many), imT b] :: .x (neI (rwI s') none) v :: .x (imX env.P 2 b n' m') 0 :: R⟩) :
    WG G env.P N ops (⟨some d, .call ⟨.value (.func f), xs.toArray, tys.toArray⟩, ty, pos, after, gd⟩ :: l) Q ⟨tm, .pv [.d (coresD cs), .og 1 w, .d (dI s.many), imT b] :: .x (neI (rwI s) none) w :: .x (imX env.P 2 b n m) 0 :: R⟩ := by
  refine WG.cQ (E := env) (K := R.length + 3) [0, 1, 2] [0, w, 0] false hw hd hc rfl (by simp) ha hlp rfl rfl (by simp [startL, Ob.start, Ob.renOK, T.lpOKL, T.lpOK, Rn.of]) ⟨rfl, rfl, rfl, trivial⟩ (.inl rfl) (fun t' ob' ⟨_, v, n', m', _, _, _, e⟩ => ⟨by subst e; rfl, fun h => nomatch h⟩) ?_
  rintro t' ob' ⟨⟨rfl, hF⟩, v, n', m', hv, hn, hm, rfl⟩
  rw [ht]
  have := k (w + v) n' m' (by omega) hn hm hF
  rw [show mergeO ⟨[0, 1, 2], [0, w, 0], R.length + 3⟩ 0 (.pv [.d (coresD cs), .og 1 w, .d (dI s.many), imT b] :: .x (neI (rwI s) none) w :: .x (imX env.P 2 b n m) 0 :: R) [0, 1, 2] (mi3 cs s' b v n' m') = .pv [.d (coresD cs), .og 1 (w + v), .d (dI s'.many), imT b] :: .x (neI (rwI s') none) (w + v) :: .x (imX env.P 2 b n' m') 0 :: R by simp [mergeO, renFrom, Ob.ren, T.renL, T.ren, Rn.ix, Rn.of]]
  exact this
end

theorem RetR.outN {fn : Func} {e : Exit} {S : St} {cs : List Co} {s s' : Cst} {F : Prop} {b w n k n' : Nat} {m m' : Int → Option Int} {rest : List Ob} (he : e = .ret ∨ e = .normal) (hts : resL S fn.results.toList = some []) (hok : resOK env.P S fn.results.toList)
    (hob : S.ob = .pv [.d (coresD cs), .og 1 w, .d (dI s'.many), imT b] :: .x (neI (rwI s') none) w :: .x (imX env.P 2 b n' m') 0 :: rest) (hv : w + s.L.length = s'.L.length) (hn : n' ≤ n + k) (hm : Ex m m') (hF : F) : RetR env.P fn 3 (outN cs b s s' n k m F) e S := by
  refine RetR.own (t := .tup []) (ob' := mi3 cs s' b w n' m') ⟨[0, 1, 2], [0, 0, 0], S.ob.length⟩ he hts hok ?_ rfl rfl rfl rfl ?_ ⟨?_, ?_, ?_, trivial⟩ rfl ⟨⟨rfl, hF⟩, w, n', m', hv, hn, hm, rfl⟩
  · rfl
  · simp [renOKL, Ob.renOK, Rn.of, T.lpOKL, T.lpOK]
  · rw [hob]; simp [Ob.ren, Rn.of, Rn.ix, T.renL, T.ren]
  · rw [hob]; simp [Ob.ren, Rn.of, Rn.ix]
  · rw [hob]; simp [Ob.ren, Rn.of, Rn.ix]

theorem truthP_fn (x : Bool) : Fun env.P 82 [dB x] (.d (.agg (V.mk (if x then 2 else 1) 0 noS [] []).rowP)) [] := by
  cases x <;>
  · refine Fun.intro Try.func82 rfl (by kernel_rfl) rfl ?_
    repeat' (first | refine W.seq ?_ | refine W.rg ?_ | refine W.dra' ?_ | refine W.block ?_ | refine W.skip ?_ | refine W.exit ?_ | refine W.cond_true' ?_ | refine W.cond_false' ?_ | refine WG.nil ?_ | refine WG.run' (E := env) ?_ | refine WG.gt' ?_ | refine WG.gf' ?_ | refine WG.ixm' (E := env) ?_ | refine WG.ixo' (E := env) ?_ | refine WG.legm' (E := env) ?_ | refine WG.slS' (E := env) ?_ | refine WG.slD' (E := env) ?_ | refine WG.ap' (E := env) ?_ | refine WD.nil ?_ | refine WD.bs' (E := env) ?_ | refine WD.s' (E := env) (t := .d _) ?_ | refine WD.p' ?_ | refine WD.px' ?_ | refine WD.s' (E := env) (t := .ea _ _) ?_ | refine WD.s' (E := env) (t := .lp _ _) ?_ | refine WD.s' (E := env) (t := .og _ _) ?_ | refine WD.s' (E := env) (t := .agg _) ?_ | refine WD.s' (E := env) (t := .tup _) ?_ | refine WD.s' (E := env) (t := .clo _ _) ?_ | refine WD.ixm' (E := env) ?_ | refine WD.ixo' (E := env) ?_ | refine WD.legm' (E := env) ?_ | refine WD.slS' (E := env) ?_ | refine WD.slD' (E := env) ?_ | ((first | refine WG.sp' (fun h => ?_) fun h => ?_ | refine W.cond' (fun h => ?_) fun h => ?_ | refine WD.sp' (fun h => ?_) fun h => ?_) <;> (try simp only [atS, List.length_map, beq_self_eq_true] at h) <;> (try (exfalso; first | contradiction | omega))))
    (refine W.ret ?_; (first | refine RetQ.b' ?_ | refine RetQ.i' ?_ | refine RetQ.d' ?_ | refine RetQ.t2' ?_ ?_ | refine RetQ.t3' ?_ ?_ ?_))
    rfl
theorem cellsLeaf_fn (k : Int) (hk : 0 ≤ k ∧ k ≤ 5) : Fun env.P 94 [.agg (V.mk k 0 noS [] []).rowP] (.og 0 0) [.gr 5 81 (([⟨k, 0, noS, noS, 0⟩] : List Cell).map Cell.row) 0 false] :=
  cellsP_fn 1 (V.mk k 0 noS [] []) (by simp [V.count, V.counts]) (by omega) ⟨⟨hk.1, by omega⟩, fun h => absurd rfl h, fun h => absurd rfl h, fun h => absurd rfl h, by decide, rfl, fun h => absurd h (by omega), fun _ => rfl, (fun _ h => by cases h), trivial, trivial⟩
theorem arrC_fn : Fun env.P 94 [.agg (V.mk 5 0 noS [] []).rowP] (.og 0 0) [.gr 5 81 (arrV0.map Cell.row) 0 false] := cellsLeaf_fn 5 (by decide)
theorem nulC_fn : Fun env.P 94 [.agg V.zero.rowP] (.og 0 0) [.gr 5 81 (nulV0.map Cell.row) 0 false] := cellsLeaf_fn 0 (by decide)
theorem falC_fn : Fun env.P 94 [.agg (V.mk 1 0 noS [] []).rowP] (.og 0 0) [.gr 5 81 (falV0.map Cell.row) 0 false] := cellsLeaf_fn 1 (by decide)
theorem truC_fn : Fun env.P 94 [.agg (V.mk 2 0 noS [] []).rowP] (.og 0 0) [.gr 5 81 (truV0.map Cell.row) 0 false] := cellsLeaf_fn 2 (by decide)
theorem truthF_fn : Fun env.P 82 [dB false] (.d (.agg (V.mk 1 0 noS [] []).rowP)) [] := truthP_fn false
theorem truthT_fn : Fun env.P 82 [dB true] (.d (.agg (V.mk 2 0 noS [] []).rowP)) [] := truthP_fn true
theorem arrNil_fn : Fun env.P 80 [.sl 5 []] (.d (.agg (V.mk 5 0 noS [] []).rowP)) [] := arrayP_fn []

section
variable {cs : List Co} {b : Nat} {go : Int → List Int → Cst → Cst} {n : Co} {regs : List Int} {s : Cst} {sl : List Int} {n2 : Nat} {m : Int → Option Int}

set_option maxHeartbeats 8000000 in
theorem cBound_fn (hr : regs.length = 60) (hkn : Kn sl regs m) {place slot r : Int} {c : Nat} (hs : 0 ≤ slot ∧ slot ≤ 59) (hg : GoI cs b go place c (sl ++ [slot])) (hl : s.L.length + 20 * c ≤ 50000) (hm0 : 0 ≤ s.many) (hm : s.many + 2 * c ≤ 50000) (hn2 : n2 + 2 * c + 2 ≤ 100000) :
    FunQ env.P 54 [.lp 0 0, .d (dI place), .d (dI slot), .d (dI r)] (mi3 cs s b 0 n2 m) (outN cs b s (go place (regs.set slot.toNat r) s) n2 (2 * c + 2) m (s.near (go place (regs.set slot.toNat r) s) (20 * c) (2 * c))) := by
  have hkp := Kn.put (r := r) hkn hs hr
  have hok : okI slot := okI_of ⟨by omega, by omega⟩
  refine FunQ.intro Try.func54 rfl (by kernel_rfl) rfl ?_
  unfold mi3
  repeat' (first | refine W.seq ?_ | refine W.rg ?_ | refine W.dra' ?_ | refine W.block ?_ | refine W.skip ?_ | refine W.exit ?_ | refine W.cond_true' ?_ | refine W.cond_false' ?_ | refine WG.nil ?_ | refine WG.run' (E := env) ?_ | refine WG.gt' ?_ | refine WG.gf' ?_ | refine WG.ixm' (E := env) ?_ | refine WG.ixo' (E := env) ?_ | refine WG.legm' (E := env) ?_ | refine WG.slS' (E := env) ?_ | refine WG.slD' (E := env) ?_ | refine WG.ap' (E := env) ?_ | refine WD.nil ?_ | refine WD.bs' (E := env) ?_ | refine WD.s' (E := env) (t := .d _) ?_ | refine WD.p' ?_ | refine WD.px' ?_ | refine WD.s' (E := env) (t := .ea _ _) ?_ | refine WD.s' (E := env) (t := .lp _ _) ?_ | refine WD.s' (E := env) (t := .og _ _) ?_ | refine WD.s' (E := env) (t := .agg _) ?_ | refine WD.s' (E := env) (t := .tup _) ?_ | refine WD.s' (E := env) (t := .clo _ _) ?_ | refine WD.ixm' (E := env) ?_ | refine WD.ixo' (E := env) ?_ | refine WD.legm' (E := env) ?_ | refine WD.slS' (E := env) ?_ | refine WD.slD' (E := env) ?_ | (refine WG.lkOkI' (E := env) (kt := 2) (et := 2) 2 ud_imap ud_i64 hok (fun hno => ?_) (fun u hu => ?_)) | (refine WG.upI' (E := env) (kt := 2) (et := 2) 2 ud_imap ud_i64 ?_ hok ?_; rotate_left; (simp only [maxLen]; omega)) | (refine WG.miN rfl rfl (hg (regs.set slot.toNat r) _ _ _ (by rw [List.length_set]; exact hr) hkp (by omega) (by omega) (by omega) (by omega)) rfl rfl rfl ?_; intro w nn mm hw hnn hmm hF; obtain ⟨h1, h2, h3, h4⟩ := hF) | fail | ((first | refine WG.sp' (fun h => ?_) fun h => ?_ | refine W.cond' (fun h => ?_) fun h => ?_ | refine WD.sp' (fun h => ?_) fun h => ?_) <;> (try simp only [atS, List.length_map, beq_self_eq_true] at h) <;> (try (exfalso; first | contradiction | omega))))
  · refine RetR.outN (.inr rfl) rfl (by first | trivial | exact resOK_of (E := env) rfl) rfl (by omega) (by omega) (fun x u hx => ?_) ⟨by omega, by omega, by omega, by omega⟩
    refine hmm x u ?_
    show (if x = slot then some r else m x) = _
    rw [if_neg (fun e => by rw [e, hno] at hx; cases hx)]
    exact hx
  · refine RetR.outN (.inr rfl) rfl (by first | trivial | exact resOK_of (E := env) rfl) rfl (by omega) (by omega) (fun x v hx => ?_) ⟨by omega, by omega, by omega, by omega⟩
    by_cases e : x = slot
    · rw [if_pos e, ← hu, ← e]; exact hx
    · rw [if_neg e]
      refine hmm x v ?_
      show (if x = slot then some r else m x) = _
      rw [if_neg e]
      exact hx

set_option maxHeartbeats 8000000 in
theorem cBoth_fn (hr : regs.length = 60) (hkn : Kn sl regs m) {a b' : Int} {ca cb : Nat} (ha : GoI cs b go a ca sl) (hb : GoI cs b go b' cb sl) (hl : s.L.length + 20 * ca + 20 * cb + 20 ≤ 50000) (hm0 : 0 ≤ s.many) (hm : s.many + 2 * ca + 2 * cb + 2 ≤ 50000) (hn2 : n2 + 2 * ca + 2 * cb + 2 ≤ 100000) :
    FunQ env.P 50 [.lp 0 0, .d (dI a), .d (dI b')] (mi3 cs s b 0 n2 m) (outN cs b s (cBoth go regs s a b') n2 (2 * ca + 2 * cb + 2) m (s.near (cBoth go regs s a b') (20 * ca + 20 * cb + 20) (2 * ca + 2 * cb + 2))) := by
  have hex := Ex.refl m
  refine FunQ.intro Try.func50 rfl (by kernel_rfl) rfl ?_
  unfold mi3
  repeat' (first | refine W.seq ?_ | refine W.rg ?_ | refine W.cond_true' ?_ | refine W.cond_false' ?_ | refine WG.nil ?_ | refine WG.run' (E := env) ?_ | refine W.block ?_ | refine W.skip ?_ | refine W.exit ?_ | (refine WG.miS rfl rfl (putI _ _ _ _ _ (by omega)) rfl rfl rfl ?_; intro w hw hF; obtain ⟨hL, hM⟩ := hF) | (refine WG.miN rfl rfl (ha regs _ _ _ hr hkn (by omega) (by omega) (by omega) (by omega)) rfl rfl rfl ?_; intro w nn mm hw hnn hmm hF; obtain ⟨h1, h2, h3, h4⟩ := hF; have hkn := Kn.ext hkn hmm; have hex := Ex.trans hex hmm) | (refine WG.miN rfl rfl (hb regs _ _ _ hr hkn (by omega) (by omega) (by omega) (by omega)) rfl rfl rfl ?_; intro w nn mm hw hnn hmm hF; obtain ⟨h1, h2, h3, h4⟩ := hF; have hkn := Kn.ext hkn hmm; have hex := Ex.trans hex hmm))
  refine RetR.outN (.inr rfl) rfl (by first | trivial | exact resOK_of (E := env) rfl) rfl (by unfold cBoth; omega) (by omega) hex ?_
  unfold cBoth Cst.near
  refine ⟨?_, ?_, ?_, ?_⟩ <;> omega

set_option maxHeartbeats 8000000 in
theorem cList_fn (hr : regs.length = 60) (hkn : Kn sl regs m) {ca : Nat} (ha : GoI cs b go n.a ca sl) (hl : s.L.length + 20 * ca + 20 ≤ 50000) (hm0 : 0 ≤ s.many) (hm : s.many + 2 * ca + 2 ≤ 50000) (hn2 : n2 + 2 * ca + 2 ≤ 100000) :
    FunQ env.P 51 [.lp 0 0, .d (.agg n.row)] (mi3 cs s b 0 n2 m) (outN cs b s (cList go n regs s) n2 (2 * ca + 2) m (s.near (cList go n regs s) (20 * ca + 20) (2 * ca + 2))) := by
  have hex := Ex.refl m
  refine FunQ.intro Try.func51 rfl (by kernel_rfl) rfl ?_
  unfold mi3
  repeat' (first | refine W.seq ?_ | refine W.rg ?_ | refine W.cond_true' ?_ | refine W.cond_false' ?_ | refine WG.nil ?_ | refine WG.run' (E := env) ?_ | refine W.block ?_ | refine W.skip ?_ | refine W.exit ?_ | (refine WG.miS rfl rfl (putI _ _ _ _ _ (by omega)) rfl rfl rfl ?_; intro w hw hF; obtain ⟨hL, hM⟩ := hF) | (refine WG.miS rfl rfl (hereI _ _ _ _ (by omega) (by omega)) rfl rfl rfl ?_; intro w hw hF; obtain ⟨hL, hM⟩ := hF) | (refine WG.miS rfl rfl (regI _ _ _ ⟨by omega, by omega⟩) rfl rfl rfl ?_; intro w hw hF; obtain ⟨hL, hM⟩ := hF) | (refine WG.miS rfl rfl (pushI _ _ _ _ arrV0 arrC_fn (by omega)) rfl rfl rfl ?_; intro w hw hF; obtain ⟨hL, hM⟩ := hF) | (refine WG.miN rfl rfl (ha regs _ _ _ hr hkn (by omega) (by omega) (by omega) (by omega)) rfl rfl rfl ?_; intro w nn mm hw hnn hmm hF; obtain ⟨h1, h2, h3, h4⟩ := hF; have hkn := Kn.ext hkn hmm; have hex := Ex.trans hex hmm) | refine WG.c (E := env) rfl rfl (arrNil_fn) rfl rfl ?_)
  refine RetR.outN (.inr rfl) rfl (by first | trivial | exact resOK_of (E := env) rfl) rfl (by unfold cList cList2; omega) (by omega) hex ?_
  unfold cList cList2 Cst.near
  refine ⟨?_, ?_, ?_, ?_⟩ <;> omega

set_option maxHeartbeats 8000000 in
theorem cChoice_fn (hr : regs.length = 60) (hkn : Kn sl regs m) {ca cb cc : Nat} (ha : GoI cs b go n.a ca sl) (hb : GoI cs b go n.b cb sl) (hc : GoI cs b go n.c cc sl) (hl : s.L.length + 20 * ca + 20 * cb + 20 * cc + 20 ≤ 50000) (hm0 : 0 ≤ s.many) (hm : s.many + 2 * ca + 2 * cb + 2 * cc + 2 ≤ 50000) (hn2 : n2 + 2 * ca + 2 * cb + 2 * cc + 2 ≤ 100000) :
    FunQ env.P 52 [.lp 0 0, .d (.agg n.row)] (mi3 cs s b 0 n2 m) (outN cs b s (cChoice go n regs s) n2 (2 * ca + 2 * cb + 2 * cc + 2) m (s.near (cChoice go n regs s) (20 * ca + 20 * cb + 20 * cc + 20) (2 * ca + 2 * cb + 2 * cc + 2))) := by
  have hex := Ex.refl m
  refine FunQ.intro Try.func52 rfl (by kernel_rfl) rfl ?_
  unfold mi3
  repeat' (first | refine W.seq ?_ | refine W.rg ?_ | refine W.cond_true' ?_ | refine W.cond_false' ?_ | refine WG.nil ?_ | refine WG.run' (E := env) ?_ | refine W.block ?_ | refine W.skip ?_ | refine W.exit ?_ | (refine WG.miS rfl rfl (putI _ _ _ _ _ (by omega)) rfl rfl rfl ?_; intro w hw hF; obtain ⟨hL, hM⟩ := hF) | (refine WG.miS rfl rfl (hereI _ _ _ _ (by omega) (by omega)) rfl rfl rfl ?_; intro w hw hF; obtain ⟨hL, hM⟩ := hF) | (refine WG.miN rfl rfl (ha regs _ _ _ hr hkn (by omega) (by omega) (by omega) (by omega)) rfl rfl rfl ?_; intro w nn mm hw hnn hmm hF; obtain ⟨h1, h2, h3, h4⟩ := hF; have hkn := Kn.ext hkn hmm; have hex := Ex.trans hex hmm) | (refine WG.miN rfl rfl (hb regs _ _ _ hr hkn (by omega) (by omega) (by omega) (by omega)) rfl rfl rfl ?_; intro w nn mm hw hnn hmm hF; obtain ⟨h1, h2, h3, h4⟩ := hF; have hkn := Kn.ext hkn hmm; have hex := Ex.trans hex hmm) | (refine WG.miN rfl rfl (hc regs _ _ _ hr hkn (by omega) (by omega) (by omega) (by omega)) rfl rfl rfl ?_; intro w nn mm hw hnn hmm hF; obtain ⟨h1, h2, h3, h4⟩ := hF; have hkn := Kn.ext hkn hmm; have hex := Ex.trans hex hmm))
  refine RetR.outN (.inr rfl) rfl (by first | trivial | exact resOK_of (E := env) rfl) rfl (by unfold cChoice cChoice2 cChoice3; omega) (by omega) hex ?_
  unfold cChoice cChoice2 cChoice3 Cst.near
  refine ⟨?_, ?_, ?_, ?_⟩ <;> omega

set_option maxHeartbeats 8000000 in
theorem cAlt_fn (hr : regs.length = 60) (hkn : Kn sl regs m) {ca cb : Nat} (ha : GoI cs b go n.a ca sl) (hb : GoI cs b go n.b cb sl) (hl : s.L.length + 20 * ca + 20 * cb + 20 ≤ 50000) (hm0 : 0 ≤ s.many) (hm : s.many + 2 * ca + 2 * cb + 2 ≤ 50000) (hn2 : n2 + 2 * ca + 2 * cb + 2 ≤ 100000) :
    FunQ env.P 56 [.lp 0 0, .d (.agg n.row)] (mi3 cs s b 0 n2 m) (outN cs b s (cAlt go n regs s) n2 (2 * ca + 2 * cb + 2) m (s.near (cAlt go n regs s) (20 * ca + 20 * cb + 20) (2 * ca + 2 * cb + 2))) := by
  have hex := Ex.refl m
  refine FunQ.intro Try.func56 rfl (by kernel_rfl) rfl ?_
  unfold mi3
  repeat' (first | refine W.seq ?_ | refine W.rg ?_ | refine W.cond_true' ?_ | refine W.cond_false' ?_ | refine WG.nil ?_ | refine WG.run' (E := env) ?_ | refine W.block ?_ | refine W.skip ?_ | refine W.exit ?_ | (refine WG.miS rfl rfl (putI _ _ _ _ _ (by omega)) rfl rfl rfl ?_; intro w hw hF; obtain ⟨hL, hM⟩ := hF) | (refine WG.miS rfl rfl (hereI _ _ _ _ (by omega) (by omega)) rfl rfl rfl ?_; intro w hw hF; obtain ⟨hL, hM⟩ := hF) | (refine WG.miS rfl rfl (regI _ _ _ ⟨by omega, by omega⟩) rfl rfl rfl ?_; intro w hw hF; obtain ⟨hL, hM⟩ := hF) | (refine WG.miS rfl rfl (pushI _ _ _ _ falV0 falC_fn (by omega)) rfl rfl rfl ?_; intro w hw hF; obtain ⟨hL, hM⟩ := hF) | (refine WG.miS rfl rfl (pushI _ _ _ _ truV0 truC_fn (by omega)) rfl rfl rfl ?_; intro w hw hF; obtain ⟨hL, hM⟩ := hF) | (refine WG.miN rfl rfl (ha regs _ _ _ hr hkn (by omega) (by omega) (by omega) (by omega)) rfl rfl rfl ?_; intro w nn mm hw hnn hmm hF; obtain ⟨h1, h2, h3, h4⟩ := hF; have hkn := Kn.ext hkn hmm; have hex := Ex.trans hex hmm) | (refine WG.miN rfl rfl (hb regs _ _ _ hr hkn (by omega) (by omega) (by omega) (by omega)) rfl rfl rfl ?_; intro w nn mm hw hnn hmm hF; obtain ⟨h1, h2, h3, h4⟩ := hF; have hkn := Kn.ext hkn hmm; have hex := Ex.trans hex hmm) | refine WG.c (E := env) rfl rfl (truthF_fn) rfl rfl ?_ | refine WG.c (E := env) rfl rfl (truthT_fn) rfl rfl ?_)
  refine RetR.outN (.inr rfl) rfl (by first | trivial | exact resOK_of (E := env) rfl) rfl (by unfold cAlt cAlt1 cAlt2 cAlt3 cAlt5; omega) (by omega) hex ?_
  unfold cAlt cAlt1 cAlt2 cAlt3 cAlt5 Cst.near
  refine ⟨?_, ?_, ?_, ?_⟩ <;> omega

set_option maxHeartbeats 8000000 in
theorem cReduce_fn (hr : regs.length = 60) (hkn : Kn sl regs m) (hnum : 0 ≤ n.num ∧ n.num ≤ 59) {ca cb cc : Nat} (ha : GoI cs b go n.a ca sl) (hb : GoI cs b go n.b cb sl) (hc : GoI cs b go n.c cc (sl ++ [n.num])) (hl : s.L.length + 20 * ca + 20 * cb + 20 * cc + 20 ≤ 50000) (hm0 : 0 ≤ s.many) (hm : s.many + 2 * ca + 2 * cb + 2 * cc + 2 ≤ 50000) (hn2 : n2 + 2 * ca + 2 * cb + 2 * cc + 2 ≤ 100000) :
    FunQ env.P 55 [.lp 0 0, .d (.agg n.row)] (mi3 cs s b 0 n2 m) (outN cs b s (cRed go n regs s) n2 (2 * ca + 2 * cb + 2 * cc + 2) m (s.near (cRed go n regs s) (20 * ca + 20 * cb + 20 * cc + 20) (2 * ca + 2 * cb + 2 * cc + 2))) := by
  have hex := Ex.refl m
  refine FunQ.intro Try.func55 rfl (by kernel_rfl) rfl ?_
  unfold mi3
  repeat' (first | refine W.seq ?_ | refine W.rg ?_ | refine W.cond_true' ?_ | refine W.cond_false' ?_ | refine WG.nil ?_ | refine WG.run' (E := env) ?_ | refine W.block ?_ | refine W.skip ?_ | refine W.exit ?_ | (refine WG.miS rfl rfl (putI _ _ _ _ _ (by omega)) rfl rfl rfl ?_; intro w hw hF; obtain ⟨hL, hM⟩ := hF) | (refine WG.miS rfl rfl (hereI _ _ _ _ (by omega) (by omega)) rfl rfl rfl ?_; intro w hw hF; obtain ⟨hL, hM⟩ := hF) | (refine WG.miS rfl rfl (regI _ _ _ ⟨by omega, by omega⟩) rfl rfl rfl ?_; intro w hw hF; obtain ⟨hL, hM⟩ := hF) | (refine WG.miS rfl rfl (pushI _ _ _ _ nulV0 nulC_fn (by omega)) rfl rfl rfl ?_; intro w hw hF; obtain ⟨hL, hM⟩ := hF) | (refine WG.miN rfl rfl (hb regs _ _ _ hr hkn (by omega) (by omega) (by omega) (by omega)) rfl rfl rfl ?_; intro w nn mm hw hnn hmm hF; obtain ⟨h1, h2, h3, h4⟩ := hF; have hkn := Kn.ext hkn hmm; have hex := Ex.trans hex hmm) | (refine WG.miN rfl rfl (ha regs _ _ _ hr hkn (by omega) (by omega) (by omega) (by omega)) rfl rfl rfl ?_; intro w nn mm hw hnn hmm hF; obtain ⟨h1, h2, h3, h4⟩ := hF; have hkn := Kn.ext hkn hmm; have hex := Ex.trans hex hmm) | (refine WG.miN rfl rfl (cBound_fn hr hkn hnum hc (by omega) (by omega) (by omega) (by omega)) rfl rfl rfl ?_; intro w nn mm hw hnn hmm hF; obtain ⟨h1, h2, h3, h4⟩ := hF; have hkn := Kn.ext hkn hmm; have hex := Ex.trans hex hmm) | refine WG.c (E := env) rfl rfl (nullP_fn) rfl rfl ?_)
  refine RetR.outN (.inr rfl) rfl (by first | trivial | exact resOK_of (E := env) rfl) rfl (by unfold cRed cRed2 cRed3; omega) (by omega) hex ?_
  unfold cRed cRed2 cRed3 Cst.near
  refine ⟨?_, ?_, ?_, ?_⟩ <;> omega

set_option maxHeartbeats 8000000 in
theorem cNode_1 (hr : regs.length = 60) (hkn : Kn sl regs m) (hop : n.op = 1)  (hl : s.L.length + 20 ≤ 50000) (hm0 : 0 ≤ s.many) (hm : s.many + 2 ≤ 50000) (hn2 : n2 + 2 ≤ 100000) (k : Nat) (hk : k < cs.length) (hn : Co.row (cs.getD (Int.toNat (k : Int)) default) = n.row) :
    FunQ env.P 19 [.lp 0 0, .d (dI (k : Int))] (mi3 cs s b 0 n2 m) (outN cs b s (cNode go n regs s) n2 (2) m True) := by
  have hex := Ex.refl m
  obtain ⟨op, a, b', c, num, val⟩ := n
  obtain rfl : op = 1 := hop
  have e : cNode go ⟨1, a, b', c, num, val⟩ regs s = s := rfl
  rw [e]
  refine FunQ.intro Try.func19 rfl (by kernel_rfl) rfl ?_
  unfold mi3
  repeat' (first | refine WG.ixeQ (E := env) (r := Co.row ⟨1, a, b', c, num, val⟩) rfl rfl rfl rfl rfl rfl rfl hn (by (first | exact trivial | (simp only [inRange, List.length_map]; omega) | omega | assumption)) ?_ | refine W.seq ?_ | refine W.rg ?_ | refine W.cond_true' ?_ | refine W.cond_false' ?_ | refine WG.nil ?_ | refine WG.run' (E := env) ?_ | refine W.block ?_ | refine W.skip ?_ | refine W.exit ?_)
  exact RetR.outN (.inr rfl) rfl (by first | trivial | exact resOK_of (E := env) rfl) rfl (by (try dsimp only at *); omega) (by omega) hex trivial

set_option maxHeartbeats 8000000 in
theorem cNode_17 (hr : regs.length = 60) (hkn : Kn sl regs m) (hop : n.op = 17)  (hl : s.L.length + 20 ≤ 50000) (hm0 : 0 ≤ s.many) (hm : s.many + 2 ≤ 50000) (hn2 : n2 + 2 ≤ 100000) (k : Nat) (hk : k < cs.length) (hn : Co.row (cs.getD (Int.toNat (k : Int)) default) = n.row) :
    FunQ env.P 19 [.lp 0 0, .d (dI (k : Int))] (mi3 cs s b 0 n2 m) (outN cs b s (cNode go n regs s) n2 (2) m True) := by
  have hex := Ex.refl m
  obtain ⟨op, a, b', c, num, val⟩ := n
  obtain rfl : op = 17 := hop
  have e : cNode go ⟨17, a, b', c, num, val⟩ regs s = s.put 15 0 := rfl
  rw [e]
  refine FunQ.intro Try.func19 rfl (by kernel_rfl) rfl ?_
  unfold mi3
  repeat' (first | refine WG.ixeQ (E := env) (r := Co.row ⟨17, a, b', c, num, val⟩) rfl rfl rfl rfl rfl rfl rfl hn (by (first | exact trivial | (simp only [inRange, List.length_map]; omega) | omega | assumption)) ?_ | refine W.seq ?_ | refine W.rg ?_ | refine W.cond_true' ?_ | refine W.cond_false' ?_ | refine WG.nil ?_ | refine WG.run' (E := env) ?_ | refine W.block ?_ | refine W.skip ?_ | refine W.exit ?_ | (refine WG.miS rfl rfl (putI _ _ _ _ _ (by omega)) rfl rfl rfl ?_; intro w hw hF; obtain ⟨hL, hM⟩ := hF))
  exact RetR.outN (.inr rfl) rfl (by first | trivial | exact resOK_of (E := env) rfl) rfl (by (try dsimp only at *); omega) (by omega) hex trivial

set_option maxHeartbeats 8000000 in
theorem cNode_16 (hr : regs.length = 60) (hkn : Kn sl regs m) (hop : n.op = 16)  (hl : s.L.length + 20 ≤ 50000) (hm0 : 0 ≤ s.many) (hm : s.many + 2 ≤ 50000) (hn2 : n2 + 2 ≤ 100000) (k : Nat) (hk : k < cs.length) (hn : Co.row (cs.getD (Int.toNat (k : Int)) default) = n.row) :
    FunQ env.P 19 [.lp 0 0, .d (dI (k : Int))] (mi3 cs s b 0 n2 m) (outN cs b s (cNode go n regs s) n2 (2) m True) := by
  have hex := Ex.refl m
  obtain ⟨op, a, b', c, num, val⟩ := n
  obtain rfl : op = 16 := hop
  have e : cNode go ⟨16, a, b', c, num, val⟩ regs s = s.put 8 num := rfl
  rw [e]
  refine FunQ.intro Try.func19 rfl (by kernel_rfl) rfl ?_
  unfold mi3
  repeat' (first | refine WG.ixeQ (E := env) (r := Co.row ⟨16, a, b', c, num, val⟩) rfl rfl rfl rfl rfl rfl rfl hn (by (first | exact trivial | (simp only [inRange, List.length_map]; omega) | omega | assumption)) ?_ | refine W.seq ?_ | refine W.rg ?_ | refine W.cond_true' ?_ | refine W.cond_false' ?_ | refine WG.nil ?_ | refine WG.run' (E := env) ?_ | refine W.block ?_ | refine W.skip ?_ | refine W.exit ?_ | (refine WG.miS rfl rfl (putI _ _ _ _ _ (by omega)) rfl rfl rfl ?_; intro w hw hF; obtain ⟨hL, hM⟩ := hF))
  exact RetR.outN (.inr rfl) rfl (by first | trivial | exact resOK_of (E := env) rfl) rfl (by (try dsimp only at *); omega) (by omega) hex trivial

set_option maxHeartbeats 8000000 in
theorem cNode_3 (hr : regs.length = 60) (hkn : Kn sl regs m) (hop : n.op = 3) {ca cb : Nat} (ha : GoI cs b go n.a ca sl) (hb : GoI cs b go n.b cb sl) (hl : s.L.length + 20 * ca + 20 * cb + 20 ≤ 50000) (hm0 : 0 ≤ s.many) (hm : s.many + 2 * ca + 2 * cb + 2 ≤ 50000) (hn2 : n2 + 2 * ca + 2 * cb + 2 ≤ 100000) (k : Nat) (hk : k < cs.length) (hn : Co.row (cs.getD (Int.toNat (k : Int)) default) = n.row) :
    FunQ env.P 19 [.lp 0 0, .d (dI (k : Int))] (mi3 cs s b 0 n2 m) (outN cs b s (cNode go n regs s) n2 (2 * ca + 2 * cb + 2) m True) := by
  have hex := Ex.refl m
  obtain ⟨op, a, b', c, num, val⟩ := n
  obtain rfl : op = 3 := hop
  have e : cNode go ⟨3, a, b', c, num, val⟩ regs s = go b' regs (go a regs s) := rfl
  rw [e]
  have ha : GoI cs b go a ca sl := ha
  have hb : GoI cs b go b' cb sl := hb
  refine FunQ.intro Try.func19 rfl (by kernel_rfl) rfl ?_
  unfold mi3
  repeat' (first | refine WG.ixeQ (E := env) (r := Co.row ⟨3, a, b', c, num, val⟩) rfl rfl rfl rfl rfl rfl rfl hn (by (first | exact trivial | (simp only [inRange, List.length_map]; omega) | omega | assumption)) ?_ | refine W.seq ?_ | refine W.rg ?_ | refine W.cond_true' ?_ | refine W.cond_false' ?_ | refine WG.nil ?_ | refine WG.run' (E := env) ?_ | refine W.block ?_ | refine W.skip ?_ | refine W.exit ?_ | (refine WG.miN rfl rfl (ha regs _ _ _ hr hkn (by omega) (by omega) (by omega) (by omega)) rfl rfl rfl ?_; intro w nn mm hw hnn hmm hF; obtain ⟨h1, h2, h3, h4⟩ := hF; have hkn := Kn.ext hkn hmm; have hex := Ex.trans hex hmm) | (refine WG.miN rfl rfl (hb regs _ _ _ hr hkn (by omega) (by omega) (by omega) (by omega)) rfl rfl rfl ?_; intro w nn mm hw hnn hmm hF; obtain ⟨h1, h2, h3, h4⟩ := hF; have hkn := Kn.ext hkn hmm; have hex := Ex.trans hex hmm))
  exact RetR.outN (.inr rfl) rfl (by first | trivial | exact resOK_of (E := env) rfl) rfl (by (try dsimp only at *); omega) (by omega) hex trivial

set_option maxHeartbeats 8000000 in
theorem cNode_4 (hr : regs.length = 60) (hkn : Kn sl regs m) (hop : n.op = 4) {ca cb : Nat} (ha : GoI cs b go n.a ca sl) (hb : GoI cs b go n.b cb sl) (hl : s.L.length + 20 * ca + 20 * cb + 20 ≤ 50000) (hm0 : 0 ≤ s.many) (hm : s.many + 2 * ca + 2 * cb + 2 ≤ 50000) (hn2 : n2 + 2 * ca + 2 * cb + 2 ≤ 100000) (k : Nat) (hk : k < cs.length) (hn : Co.row (cs.getD (Int.toNat (k : Int)) default) = n.row) :
    FunQ env.P 19 [.lp 0 0, .d (dI (k : Int))] (mi3 cs s b 0 n2 m) (outN cs b s (cNode go n regs s) n2 (2 * ca + 2 * cb + 2) m True) := by
  have hex := Ex.refl m
  obtain ⟨op, a, b', c, num, val⟩ := n
  obtain rfl : op = 4 := hop
  have e : cNode go ⟨4, a, b', c, num, val⟩ regs s = cComma go ⟨4, a, b', c, num, val⟩ regs s := rfl
  rw [e]
  have ha : GoI cs b go a ca sl := ha
  have hb : GoI cs b go b' cb sl := hb
  refine FunQ.intro Try.func19 rfl (by kernel_rfl) rfl ?_
  unfold mi3
  repeat' (first | refine WG.ixeQ (E := env) (r := Co.row ⟨4, a, b', c, num, val⟩) rfl rfl rfl rfl rfl rfl rfl hn (by (first | exact trivial | (simp only [inRange, List.length_map]; omega) | omega | assumption)) ?_ | refine W.seq ?_ | refine W.rg ?_ | refine W.cond_true' ?_ | refine W.cond_false' ?_ | refine WG.nil ?_ | refine WG.run' (E := env) ?_ | refine W.block ?_ | refine W.skip ?_ | refine W.exit ?_ | (refine WG.miS rfl rfl (putI _ _ _ _ _ (by omega)) rfl rfl rfl ?_; intro w hw hF; obtain ⟨hL, hM⟩ := hF) | (refine WG.miS rfl rfl (hereI _ _ _ _ (by omega) (by omega)) rfl rfl rfl ?_; intro w hw hF; obtain ⟨hL, hM⟩ := hF) | (refine WG.miN rfl rfl (ha regs _ _ _ hr hkn (by omega) (by omega) (by omega) (by omega)) rfl rfl rfl ?_; intro w nn mm hw hnn hmm hF; obtain ⟨h1, h2, h3, h4⟩ := hF; have hkn := Kn.ext hkn hmm; have hex := Ex.trans hex hmm) | (refine WG.miN rfl rfl (hb regs _ _ _ hr hkn (by omega) (by omega) (by omega) (by omega)) rfl rfl rfl ?_; intro w nn mm hw hnn hmm hF; obtain ⟨h1, h2, h3, h4⟩ := hF; have hkn := Kn.ext hkn hmm; have hex := Ex.trans hex hmm))
  exact RetR.outN (.inr rfl) rfl (by first | trivial | exact resOK_of (E := env) rfl) rfl (by (try dsimp only at *); unfold cComma cComma2; (try dsimp only at *); omega) (by omega) hex trivial

set_option maxHeartbeats 8000000 in
theorem cNode_6 (hr : regs.length = 60) (hkn : Kn sl regs m) (hop : n.op = 6) {ca cb : Nat} (ha : GoI cs b go n.a ca sl) (hb : GoI cs b go n.b cb sl) (hl : s.L.length + 20 * ca + 20 * cb + 20 ≤ 50000) (hm0 : 0 ≤ s.many) (hm : s.many + 2 * ca + 2 * cb + 2 ≤ 50000) (hn2 : n2 + 2 * ca + 2 * cb + 2 ≤ 100000) (k : Nat) (hk : k < cs.length) (hn : Co.row (cs.getD (Int.toNat (k : Int)) default) = n.row) :
    FunQ env.P 19 [.lp 0 0, .d (dI (k : Int))] (mi3 cs s b 0 n2 m) (outN cs b s (cNode go n regs s) n2 (2 * ca + 2 * cb + 2) m True) := by
  have hex := Ex.refl m
  obtain ⟨op, a, b', c, num, val⟩ := n
  obtain rfl : op = 6 := hop
  have e : cNode go ⟨6, a, b', c, num, val⟩ regs s = (cBoth go regs s b' a).put 5 num := rfl
  rw [e]
  have ha : GoI cs b go a ca sl := ha
  have hb : GoI cs b go b' cb sl := hb
  refine FunQ.intro Try.func19 rfl (by kernel_rfl) rfl ?_
  unfold mi3
  repeat' (first | refine WG.ixeQ (E := env) (r := Co.row ⟨6, a, b', c, num, val⟩) rfl rfl rfl rfl rfl rfl rfl hn (by (first | exact trivial | (simp only [inRange, List.length_map]; omega) | omega | assumption)) ?_ | refine W.seq ?_ | refine W.rg ?_ | refine W.cond_true' ?_ | refine W.cond_false' ?_ | refine WG.nil ?_ | refine WG.run' (E := env) ?_ | refine W.block ?_ | refine W.skip ?_ | refine W.exit ?_ | (refine WG.miN rfl rfl (cBoth_fn hr hkn hb ha (by omega) (by omega) (by omega) (by omega)) rfl rfl rfl ?_; intro w nn mm hw hnn hmm hF; obtain ⟨h1, h2, h3, h4⟩ := hF; have hkn := Kn.ext hkn hmm; have hex := Ex.trans hex hmm) | (refine WG.miS rfl rfl (putI _ _ _ _ _ (by omega)) rfl rfl rfl ?_; intro w hw hF; obtain ⟨hL, hM⟩ := hF))
  exact RetR.outN (.inr rfl) rfl (by first | trivial | exact resOK_of (E := env) rfl) rfl (by (try dsimp only at *); omega) (by omega) hex trivial

set_option maxHeartbeats 8000000 in
theorem cNode_7 (hr : regs.length = 60) (hkn : Kn sl regs m) (hop : n.op = 7) {ca cb : Nat} (ha : GoI cs b go n.a ca sl) (hb : GoI cs b go n.b cb sl) (hl : s.L.length + 20 * ca + 20 * cb + 20 ≤ 50000) (hm0 : 0 ≤ s.many) (hm : s.many + 2 * ca + 2 * cb + 2 ≤ 50000) (hn2 : n2 + 2 * ca + 2 * cb + 2 ≤ 100000) (k : Nat) (hk : k < cs.length) (hn : Co.row (cs.getD (Int.toNat (k : Int)) default) = n.row) :
    FunQ env.P 19 [.lp 0 0, .d (dI (k : Int))] (mi3 cs s b 0 n2 m) (outN cs b s (cNode go n regs s) n2 (2 * ca + 2 * cb + 2) m True) := by
  have hex := Ex.refl m
  obtain ⟨op, a, b', c, num, val⟩ := n
  obtain rfl : op = 7 := hop
  have e : cNode go ⟨7, a, b', c, num, val⟩ regs s = (cBoth go regs s a b').put 6 0 := rfl
  rw [e]
  have ha : GoI cs b go a ca sl := ha
  have hb : GoI cs b go b' cb sl := hb
  refine FunQ.intro Try.func19 rfl (by kernel_rfl) rfl ?_
  unfold mi3
  repeat' (first | refine WG.ixeQ (E := env) (r := Co.row ⟨7, a, b', c, num, val⟩) rfl rfl rfl rfl rfl rfl rfl hn (by (first | exact trivial | (simp only [inRange, List.length_map]; omega) | omega | assumption)) ?_ | refine W.seq ?_ | refine W.rg ?_ | refine W.cond_true' ?_ | refine W.cond_false' ?_ | refine WG.nil ?_ | refine WG.run' (E := env) ?_ | refine W.block ?_ | refine W.skip ?_ | refine W.exit ?_ | (refine WG.miN rfl rfl (cBoth_fn hr hkn ha hb (by omega) (by omega) (by omega) (by omega)) rfl rfl rfl ?_; intro w nn mm hw hnn hmm hF; obtain ⟨h1, h2, h3, h4⟩ := hF; have hkn := Kn.ext hkn hmm; have hex := Ex.trans hex hmm) | (refine WG.miS rfl rfl (putI _ _ _ _ _ (by omega)) rfl rfl rfl ?_; intro w hw hF; obtain ⟨hL, hM⟩ := hF))
  exact RetR.outN (.inr rfl) rfl (by first | trivial | exact resOK_of (E := env) rfl) rfl (by (try dsimp only at *); omega) (by omega) hex trivial

set_option maxHeartbeats 8000000 in
theorem cNode_8 (hr : regs.length = 60) (hkn : Kn sl regs m) (hop : n.op = 8) {ca : Nat} (ha : GoI cs b go n.a ca sl) (hl : s.L.length + 20 * ca + 20 ≤ 50000) (hm0 : 0 ≤ s.many) (hm : s.many + 2 * ca + 2 ≤ 50000) (hn2 : n2 + 2 * ca + 2 ≤ 100000) (k : Nat) (hk : k < cs.length) (hn : Co.row (cs.getD (Int.toNat (k : Int)) default) = n.row) :
    FunQ env.P 19 [.lp 0 0, .d (dI (k : Int))] (mi3 cs s b 0 n2 m) (outN cs b s (cNode go n regs s) n2 (2 * ca + 2) m True) := by
  have hex := Ex.refl m
  obtain ⟨op, a, b', c, num, val⟩ := n
  obtain rfl : op = 8 := hop
  have e : cNode go ⟨8, a, b', c, num, val⟩ regs s = (go a regs s).put 7 0 := rfl
  rw [e]
  have ha : GoI cs b go a ca sl := ha
  refine FunQ.intro Try.func19 rfl (by kernel_rfl) rfl ?_
  unfold mi3
  repeat' (first | refine WG.ixeQ (E := env) (r := Co.row ⟨8, a, b', c, num, val⟩) rfl rfl rfl rfl rfl rfl rfl hn (by (first | exact trivial | (simp only [inRange, List.length_map]; omega) | omega | assumption)) ?_ | refine W.seq ?_ | refine W.rg ?_ | refine W.cond_true' ?_ | refine W.cond_false' ?_ | refine WG.nil ?_ | refine WG.run' (E := env) ?_ | refine W.block ?_ | refine W.skip ?_ | refine W.exit ?_ | (refine WG.miN rfl rfl (ha regs _ _ _ hr hkn (by omega) (by omega) (by omega) (by omega)) rfl rfl rfl ?_; intro w nn mm hw hnn hmm hF; obtain ⟨h1, h2, h3, h4⟩ := hF; have hkn := Kn.ext hkn hmm; have hex := Ex.trans hex hmm) | (refine WG.miS rfl rfl (putI _ _ _ _ _ (by omega)) rfl rfl rfl ?_; intro w hw hF; obtain ⟨hL, hM⟩ := hF))
  exact RetR.outN (.inr rfl) rfl (by first | trivial | exact resOK_of (E := env) rfl) rfl (by (try dsimp only at *); omega) (by omega) hex trivial

set_option maxHeartbeats 8000000 in
theorem cNode_9 (hr : regs.length = 60) (hkn : Kn sl regs m) (hop : n.op = 9) {ca : Nat} (ha : GoI cs b go n.a ca sl) (hl : s.L.length + 20 * ca + 20 ≤ 50000) (hm0 : 0 ≤ s.many) (hm : s.many + 2 * ca + 2 ≤ 50000) (hn2 : n2 + 2 * ca + 2 ≤ 100000) (k : Nat) (hk : k < cs.length) (hn : Co.row (cs.getD (Int.toNat (k : Int)) default) = n.row) :
    FunQ env.P 19 [.lp 0 0, .d (dI (k : Int))] (mi3 cs s b 0 n2 m) (outN cs b s (cNode go n regs s) n2 (2 * ca + 2) m True) := by
  have hex := Ex.refl m
  obtain ⟨op, a, b', c, num, val⟩ := n
  obtain rfl : op = 9 := hop
  have e : cNode go ⟨9, a, b', c, num, val⟩ regs s = (go a regs (s.put 13 0)).here s.L.length := rfl
  rw [e]
  have ha : GoI cs b go a ca sl := ha
  refine FunQ.intro Try.func19 rfl (by kernel_rfl) rfl ?_
  unfold mi3
  repeat' (first | refine WG.ixeQ (E := env) (r := Co.row ⟨9, a, b', c, num, val⟩) rfl rfl rfl rfl rfl rfl rfl hn (by (first | exact trivial | (simp only [inRange, List.length_map]; omega) | omega | assumption)) ?_ | refine W.seq ?_ | refine W.rg ?_ | refine W.cond_true' ?_ | refine W.cond_false' ?_ | refine WG.nil ?_ | refine WG.run' (E := env) ?_ | refine W.block ?_ | refine W.skip ?_ | refine W.exit ?_ | (refine WG.miS rfl rfl (putI _ _ _ _ _ (by omega)) rfl rfl rfl ?_; intro w hw hF; obtain ⟨hL, hM⟩ := hF) | (refine WG.miN rfl rfl (ha regs _ _ _ hr hkn (by omega) (by omega) (by omega) (by omega)) rfl rfl rfl ?_; intro w nn mm hw hnn hmm hF; obtain ⟨h1, h2, h3, h4⟩ := hF; have hkn := Kn.ext hkn hmm; have hex := Ex.trans hex hmm) | (refine WG.miS rfl rfl (hereI _ _ _ _ (by omega) (by omega)) rfl rfl rfl ?_; intro w hw hF; obtain ⟨hL, hM⟩ := hF))
  exact RetR.outN (.inr rfl) rfl (by first | trivial | exact resOK_of (E := env) rfl) rfl (by (try dsimp only at *); omega) (by omega) hex trivial

set_option maxHeartbeats 8000000 in
theorem cNode_10 (hr : regs.length = 60) (hkn : Kn sl regs m) (hop : n.op = 10) {ca : Nat} (ha : GoI cs b go n.a ca sl) (hl : s.L.length + 20 * ca + 20 ≤ 50000) (hm0 : 0 ≤ s.many) (hm : s.many + 2 * ca + 2 ≤ 50000) (hn2 : n2 + 2 * ca + 2 ≤ 100000) (k : Nat) (hk : k < cs.length) (hn : Co.row (cs.getD (Int.toNat (k : Int)) default) = n.row) :
    FunQ env.P 19 [.lp 0 0, .d (dI (k : Int))] (mi3 cs s b 0 n2 m) (outN cs b s (cNode go n regs s) n2 (2 * ca + 2) m True) := by
  have hex := Ex.refl m
  obtain ⟨op, a, b', c, num, val⟩ := n
  obtain rfl : op = 10 := hop
  have e : cNode go ⟨10, a, b', c, num, val⟩ regs s = cList go ⟨10, a, b', c, num, val⟩ regs s := rfl
  rw [e]
  have ha : GoI cs b go a ca sl := ha
  refine FunQ.intro Try.func19 rfl (by kernel_rfl) rfl ?_
  unfold mi3
  repeat' (first | refine WG.ixeQ (E := env) (r := Co.row ⟨10, a, b', c, num, val⟩) rfl rfl rfl rfl rfl rfl rfl hn (by (first | exact trivial | (simp only [inRange, List.length_map]; omega) | omega | assumption)) ?_ | refine W.seq ?_ | refine W.rg ?_ | refine W.cond_true' ?_ | refine W.cond_false' ?_ | refine WG.nil ?_ | refine WG.run' (E := env) ?_ | refine W.block ?_ | refine W.skip ?_ | refine W.exit ?_ | (refine WG.miN rfl rfl (cList_fn hr hkn ha (by omega) (by omega) (by omega) (by omega)) rfl rfl rfl ?_; intro w nn mm hw hnn hmm hF; skip; have hkn := Kn.ext hkn hmm; have hex := Ex.trans hex hmm))
  exact RetR.outN (.inr rfl) rfl (by first | trivial | exact resOK_of (E := env) rfl) rfl (by (try dsimp only at *); omega) (by omega) hex trivial

set_option maxHeartbeats 8000000 in
theorem cNode_12 (hr : regs.length = 60) (hkn : Kn sl regs m) (hop : n.op = 12) {ca cb cc : Nat} (ha : GoI cs b go n.a ca sl) (hb : GoI cs b go n.b cb sl) (hc : GoI cs b go n.c cc sl) (hl : s.L.length + 20 * ca + 20 * cb + 20 * cc + 20 ≤ 50000) (hm0 : 0 ≤ s.many) (hm : s.many + 2 * ca + 2 * cb + 2 * cc + 2 ≤ 50000) (hn2 : n2 + 2 * ca + 2 * cb + 2 * cc + 2 ≤ 100000) (k : Nat) (hk : k < cs.length) (hn : Co.row (cs.getD (Int.toNat (k : Int)) default) = n.row) :
    FunQ env.P 19 [.lp 0 0, .d (dI (k : Int))] (mi3 cs s b 0 n2 m) (outN cs b s (cNode go n regs s) n2 (2 * ca + 2 * cb + 2 * cc + 2) m True) := by
  have hex := Ex.refl m
  obtain ⟨op, a, b', c, num, val⟩ := n
  obtain rfl : op = 12 := hop
  have e : cNode go ⟨12, a, b', c, num, val⟩ regs s = cChoice go ⟨12, a, b', c, num, val⟩ regs s := rfl
  rw [e]
  have ha : GoI cs b go a ca sl := ha
  have hb : GoI cs b go b' cb sl := hb
  have hc : GoI cs b go c cc sl := hc
  refine FunQ.intro Try.func19 rfl (by kernel_rfl) rfl ?_
  unfold mi3
  repeat' (first | refine WG.ixeQ (E := env) (r := Co.row ⟨12, a, b', c, num, val⟩) rfl rfl rfl rfl rfl rfl rfl hn (by (first | exact trivial | (simp only [inRange, List.length_map]; omega) | omega | assumption)) ?_ | refine W.seq ?_ | refine W.rg ?_ | refine W.cond_true' ?_ | refine W.cond_false' ?_ | refine WG.nil ?_ | refine WG.run' (E := env) ?_ | refine W.block ?_ | refine W.skip ?_ | refine W.exit ?_ | (refine WG.miN rfl rfl (cChoice_fn hr hkn ha hb hc (by omega) (by omega) (by omega) (by omega)) rfl rfl rfl ?_; intro w nn mm hw hnn hmm hF; skip; have hkn := Kn.ext hkn hmm; have hex := Ex.trans hex hmm))
  exact RetR.outN (.inr rfl) rfl (by first | trivial | exact resOK_of (E := env) rfl) rfl (by (try dsimp only at *); omega) (by omega) hex trivial

set_option maxHeartbeats 8000000 in
theorem cNode_5 (hr : regs.length = 60) (hkn : Kn sl regs m) (hop : n.op = 5) {ca cb : Nat} (ha : GoI cs b go n.a ca sl) (hb : GoI cs b go n.b cb sl) (hl : s.L.length + 20 * ca + 20 * cb + 20 ≤ 50000) (hm0 : 0 ≤ s.many) (hm : s.many + 2 * ca + 2 * cb + 2 ≤ 50000) (hn2 : n2 + 2 * ca + 2 * cb + 2 ≤ 100000) (k : Nat) (hk : k < cs.length) (hn : Co.row (cs.getD (Int.toNat (k : Int)) default) = n.row) :
    FunQ env.P 19 [.lp 0 0, .d (dI (k : Int))] (mi3 cs s b 0 n2 m) (outN cs b s (cNode go n regs s) n2 (2 * ca + 2 * cb + 2) m True) := by
  have hex := Ex.refl m
  obtain ⟨op, a, b', c, num, val⟩ := n
  obtain rfl : op = 5 := hop
  have e : cNode go ⟨5, a, b', c, num, val⟩ regs s = cAlt go ⟨5, a, b', c, num, val⟩ regs s := rfl
  rw [e]
  have ha : GoI cs b go a ca sl := ha
  have hb : GoI cs b go b' cb sl := hb
  refine FunQ.intro Try.func19 rfl (by kernel_rfl) rfl ?_
  unfold mi3
  repeat' (first | refine WG.ixeQ (E := env) (r := Co.row ⟨5, a, b', c, num, val⟩) rfl rfl rfl rfl rfl rfl rfl hn (by (first | exact trivial | (simp only [inRange, List.length_map]; omega) | omega | assumption)) ?_ | refine W.seq ?_ | refine W.rg ?_ | refine W.cond_true' ?_ | refine W.cond_false' ?_ | refine WG.nil ?_ | refine WG.run' (E := env) ?_ | refine W.block ?_ | refine W.skip ?_ | refine W.exit ?_ | (refine WG.miN rfl rfl (cAlt_fn hr hkn ha hb (by omega) (by omega) (by omega) (by omega)) rfl rfl rfl ?_; intro w nn mm hw hnn hmm hF; skip; have hkn := Kn.ext hkn hmm; have hex := Ex.trans hex hmm))
  exact RetR.outN (.inr rfl) rfl (by first | trivial | exact resOK_of (E := env) rfl) rfl (by (try dsimp only at *); omega) (by omega) hex trivial

set_option maxHeartbeats 8000000 in
theorem cNode_13 (hr : regs.length = 60) (hkn : Kn sl regs m) (hop : n.op = 13) (hnum : 0 ≤ n.num ∧ n.num ≤ 59) {ca cb cc : Nat} (ha : GoI cs b go n.a ca sl) (hb : GoI cs b go n.b cb sl) (hc : GoI cs b go n.c cc (sl ++ [n.num])) (hl : s.L.length + 20 * ca + 20 * cb + 20 * cc + 20 ≤ 50000) (hm0 : 0 ≤ s.many) (hm : s.many + 2 * ca + 2 * cb + 2 * cc + 2 ≤ 50000) (hn2 : n2 + 2 * ca + 2 * cb + 2 * cc + 2 ≤ 100000) (k : Nat) (hk : k < cs.length) (hn : Co.row (cs.getD (Int.toNat (k : Int)) default) = n.row) :
    FunQ env.P 19 [.lp 0 0, .d (dI (k : Int))] (mi3 cs s b 0 n2 m) (outN cs b s (cNode go n regs s) n2 (2 * ca + 2 * cb + 2 * cc + 2) m True) := by
  have hex := Ex.refl m
  obtain ⟨op, a, b', c, num, val⟩ := n
  obtain rfl : op = 13 := hop
  have e : cNode go ⟨13, a, b', c, num, val⟩ regs s = cRed go ⟨13, a, b', c, num, val⟩ regs s := rfl
  rw [e]
  have ha : GoI cs b go a ca sl := ha
  have hb : GoI cs b go b' cb sl := hb
  have hc : GoI cs b go c cc (sl ++ [num]) := hc
  refine FunQ.intro Try.func19 rfl (by kernel_rfl) rfl ?_
  unfold mi3
  repeat' (first | refine WG.ixeQ (E := env) (r := Co.row ⟨13, a, b', c, num, val⟩) rfl rfl rfl rfl rfl rfl rfl hn (by (first | exact trivial | (simp only [inRange, List.length_map]; omega) | omega | assumption)) ?_ | refine W.seq ?_ | refine W.rg ?_ | refine W.cond_true' ?_ | refine W.cond_false' ?_ | refine WG.nil ?_ | refine WG.run' (E := env) ?_ | refine W.block ?_ | refine W.skip ?_ | refine W.exit ?_ | (refine WG.miN rfl rfl (cReduce_fn hr hkn hnum ha hb hc (by omega) (by omega) (by omega) (by omega)) rfl rfl rfl ?_; intro w nn mm hw hnn hmm hF; skip; have hkn := Kn.ext hkn hmm; have hex := Ex.trans hex hmm))
  exact RetR.outN (.inr rfl) rfl (by first | trivial | exact resOK_of (E := env) rfl) rfl (by (try dsimp only at *); omega) (by omega) hex trivial

set_option maxHeartbeats 8000000 in
theorem cNode_14 (hr : regs.length = 60) (hkn : Kn sl regs m) (hop : n.op = 14) (hnum : 0 ≤ n.num ∧ n.num ≤ 59) {ca cb : Nat} (ha : GoI cs b go n.a ca sl) (hb : GoI cs b go n.b cb (sl ++ [n.num])) (hl : s.L.length + 20 * ca + 20 * cb + 20 ≤ 50000) (hm0 : 0 ≤ s.many) (hm : s.many + 2 * ca + 2 * cb + 2 ≤ 50000) (hn2 : n2 + 2 * ca + 2 * cb + 2 ≤ 100000) (k : Nat) (hk : k < cs.length) (hn : Co.row (cs.getD (Int.toNat (k : Int)) default) = n.row) :
    FunQ env.P 19 [.lp 0 0, .d (dI (k : Int))] (mi3 cs s b 0 n2 m) (outN cs b s (cNode go n regs s) n2 (2 * ca + 2 * cb + 2) m True) := by
  have hex := Ex.refl m
  obtain ⟨op, a, b', c, num, val⟩ := n
  obtain rfl : op = 14 := hop
  have e : cNode go ⟨14, a, b', c, num, val⟩ regs s = (go b' (regs.set num.toNat s.many) ((go a regs (s.reg.put 1 0)).put 16 s.many)) := rfl
  rw [e]
  have ha : GoI cs b go a ca sl := ha
  have hb : GoI cs b go b' cb (sl ++ [num]) := hb
  have hnum : 0 ≤ num ∧ num ≤ 59 := hnum
  refine FunQ.intro Try.func19 rfl (by kernel_rfl) rfl ?_
  unfold mi3
  repeat' (first | refine WG.ixeQ (E := env) (r := Co.row ⟨14, a, b', c, num, val⟩) rfl rfl rfl rfl rfl rfl rfl hn (by (first | exact trivial | (simp only [inRange, List.length_map]; omega) | omega | assumption)) ?_ | refine W.seq ?_ | refine W.rg ?_ | refine W.cond_true' ?_ | refine W.cond_false' ?_ | refine WG.nil ?_ | refine WG.run' (E := env) ?_ | refine W.block ?_ | refine W.skip ?_ | refine W.exit ?_ | (refine WG.miS rfl rfl (putI _ _ _ _ _ (by omega)) rfl rfl rfl ?_; intro w hw hF; obtain ⟨hL, hM⟩ := hF) | (refine WG.miS rfl rfl (regI _ _ _ ⟨by omega, by omega⟩) rfl rfl rfl ?_; intro w hw hF; obtain ⟨hL, hM⟩ := hF) | (refine WG.miN rfl rfl (ha regs _ _ _ hr hkn (by omega) (by omega) (by omega) (by omega)) rfl rfl rfl ?_; intro w nn mm hw hnn hmm hF; obtain ⟨h1, h2, h3, h4⟩ := hF; have hkn := Kn.ext hkn hmm; have hex := Ex.trans hex hmm) | (refine WG.miN rfl rfl (cBound_fn (r := s.many) hr hkn hnum hb (by omega) (by omega) (by omega) (by omega)) rfl rfl rfl ?_; intro w nn mm hw hnn hmm hF; obtain ⟨h1, h2, h3, h4⟩ := hF; have hkn := Kn.ext hkn hmm; have hex := Ex.trans hex hmm))
  exact RetR.outN (.inr rfl) rfl (by first | trivial | exact resOK_of (E := env) rfl) rfl (by (try dsimp only at *); omega) (by omega) hex trivial

set_option maxHeartbeats 8000000 in
theorem cNode_15 (hr : regs.length = 60) (hkn : Kn sl regs m) (hop : n.op = 15) (hin : n.num ∈ sl)  (hl : s.L.length + 20 ≤ 50000) (hm0 : 0 ≤ s.many) (hm : s.many + 2 ≤ 50000) (hn2 : n2 + 2 ≤ 100000) (k : Nat) (hk : k < cs.length) (hn : Co.row (cs.getD (Int.toNat (k : Int)) default) = n.row) :
    FunQ env.P 19 [.lp 0 0, .d (dI (k : Int))] (mi3 cs s b 0 n2 m) (outN cs b s (cNode go n regs s) n2 (2) m True) := by
  have hex := Ex.refl m
  obtain ⟨op, a, b', c, num, val⟩ := n
  obtain rfl : op = 15 := hop
  have e : cNode go ⟨15, a, b', c, num, val⟩ regs s = ((s.put 2 0).put 17 (regs.getD num.toNat default)) := rfl
  rw [e]
  obtain ⟨hnum0, hnum1, hms⟩ := hkn num hin
  have hok : okI num := okI_of ⟨by omega, by omega⟩
  have hp := cPut_fn b cs (s.put 2 0) 17 (regs.getD num.toNat default) (by rw [Cst.put_len]; omega)
  have hL2 := Cst.put_len (s.put 2 0) 17 (regs.getD num.toNat default)
  refine FunQ.intro Try.func19 rfl (by kernel_rfl) rfl ?_
  unfold mi3
  repeat' (first | refine WG.ixeQ (E := env) (r := Co.row ⟨15, a, b', c, num, val⟩) rfl rfl rfl rfl rfl rfl rfl hn (by (first | exact trivial | (simp only [inRange, List.length_map]; omega) | omega | assumption)) ?_ | refine W.dre' (id := 9) [8] (fun f => bif bt f 1 then [.pv [.d (coresD cs), .og 1 (w + 1), .d (dI ((s.put 2 0).put 17 (regs.getD num.toNat default)).many), imT b], .x (neI (rwI ((s.put 2 0).put 17 (regs.getD num.toNat default))) none) (w + 1), .x (imX env.P 2 b n2 m) 0, .pv ((Co.row ⟨15, a, b', c, num, val⟩).map .d)] else [.pv [.d (coresD cs), .og 1 w, .d (dI (s.put 2 0).many), imT b], .x (neI (rwI (s.put 2 0)) none) w, .x (imX env.P 2 b n2 m) 0, .pv ((Co.row ⟨15, a, b', c, num, val⟩).map .d)]) [(0, [0]), (0, [0]), (0, [0]), (0, [0]), (0, [0]), (0, [0]), (0, [0]), (0, [0]), (1, [0])] [.pv [.d (coresD cs), .og 1 (w + 1), .d (dI ((s.put 2 0).put 17 (regs.getD num.toNat default)).many), imT b], .x (neI (rwI ((s.put 2 0).put 17 (regs.getD num.toNat default))) none) (w + 1), .x (imX env.P 2 b n2 m) 0, .pv ((Co.row ⟨15, a, b', c, num, val⟩).map .d)] ?_ | refine WE.mkd (.d (dI (regs.getD num.toNat default))) ?_ (.c (OpS1.lkI (E := env) (kt := 2) (et := 2) 2 ud_imap ud_i64 hok hms rfl rfl rfl rfl rfl rfl) .n) | refine WE.mkd (.d (dI (s.put 2 0).L.length)) ?_ (.c (OpS1.cqM (E := env) (cap := []) [0, 1] [0, w] rfl rfl hp rfl rfl rfl rfl rfl rfl rfl ⟨rfl, rfl, trivial⟩ rfl rfl rfl) .n) | refine WE.nil ?_ | refine WE.ixP' ?_ | refine WE.s' (E := env) (t := .d _) ?_ | refine WE.p' ?_ | refine WE.px' ?_ | refine WE.s' (E := env) (t := .lp _ _) ?_ | refine WE.s' (E := env) (t := .og _ _) ?_ | refine WE.s' (E := env) (t := .ea _ _) ?_ | refine WE.s' (E := env) (t := .agg _) ?_ | refine WE.s' (E := env) (t := .tup _) ?_ | refine WE.ixm' (E := env) ?_ | refine WE.ixo' (E := env) ?_ | refine WE.leg' (E := env) ?_ | refine WE.slS' (E := env) ?_ | refine WE.slD' (E := env) ?_ | refine WE.ap' (E := env) ?_ | refine WE.st' (E := env) ?_ | refine WE.seg' (E := env) ?_ | refine WE.bs' (E := env) ?_ | refine W.seq ?_ | refine W.rg ?_ | refine W.cond_true' ?_ | refine W.cond_false' ?_ | refine WG.nil ?_ | refine WG.run' (E := env) ?_ | refine W.block ?_ | refine W.skip ?_ | refine W.exit ?_ | (refine WG.miS rfl rfl (putI _ _ _ _ _ (by omega)) rfl rfl rfl ?_; intro w hw hF; obtain ⟨hL, hM⟩ := hF))
  exact RetR.outN (.inr rfl) rfl (by first | trivial | exact resOK_of (E := env) rfl) rfl (by (try dsimp only at *); omega) (by omega) hex trivial

end

end Go.Proofs.Ytmmjbpgdkokjgaa
