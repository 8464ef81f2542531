/-
  Texts of this claim in one. Conditions: none.
-/
import Derived.Test.YtmmjbpgdkokjgaaGreatQLowerTreeLwF
import Derived.Test.YtmmjbpgdkokjgaaGreatQLowerTreeMp1
import Derived.Shelf.LaysC
import Derived.Shelf.LaysM
import Derived.Shelf.Strings.BuilderX
import Derived.Test.YtmmjbpgdkokjgaaGreatProg
section
set_option linter.unusedVariables false
set_option linter.unusedSimpArgs false
set_option maxRecDepth 100000
namespace Go.Proofs.YtmmjbpgdkokjgaaGreat
open Go.RowKit

section
variable {E : Env} {N : Nm} {Q : Exit → St → Prop} {S : St} {ops l : List Oper} {ty : TypeId} {pos : String} {after : Array Edge} {gd : Option (Nat × Bool)} {d : Nat}
/-- A written-out map's own entry. -/
theorem WL.insM {t kt et : TypeId} {x y v : Operand} {b n nn kk : Nat} {s : ByteArray} {dv : D} {m : ByteArray → Option D} (hw : S.want ops ⟨none, .insert t x y v, ty, pos, after, gd⟩ = some true)
    (ht : E.P.underlying t = some (.map kt et)) (hkt : E.P.underlying kt = some .string) (hx : S.ev x = mpT b) (hy : S.ev y = .d (.v (.string s))) (hv : S.ev v = .d dv) (hm : S.ob[kk]? = some (.x (mapX E.P kt b n m) nn)) (hs : s.size ≤ maxLen) (hn : n < maxLen)
    (k : WL E.P N ops l Q ⟨S.tm, S.ob.set kk (.x (mapX E.P kt b (n + 1) (fun x => if x = s then some dv else m x)) nn)⟩) : WL E.P N ops (⟨none, .insert t x y v, ty, pos, after, gd⟩ :: l) Q S :=
  WL.effskip (by simp) hw (fun w0 σ0 a w g R => by
    have hxr := R.ev x; rw [hx] at hxr
    have hyr := R.ev y; rw [hy] at hyr
    have hvr := R.ev v; rw [hv] at hvr
    obtain ⟨hlim, ⟨h1, h2, w1, DD, hb, hown, hmR⟩, hfoot⟩ := R.inv.obs kk _ hm
    have hown := ownsMap_swap hb.symm hown
    obtain ⟨w', hrun, hown', hg⟩ := hown.update (Maps.string_keyed hkt) ht hn (WideMaps.keyOf_string_mk hkt hs) (val := a.eval v) (d := .held (a.eval v)) (ps := []) rfl
    refine ⟨w', g, ?_, Gh.le_refl g, R.inv.turn hm (by intros; simp) (by omega) (Gh.le_refl g) rfl (fun _ _ => ⟨rfl, rfl⟩) hg.os hg.tape hg.output hg.size (fun b' hb' hn' => hg.block b' hb' fun e => hn' ((h2 b').2 (Option.some.inj e))) ?_ (fun _ h => .inl h)⟩
    · simp [execOp, hxr.inv_v, hyr.inv_v, hrun]
    · exact ⟨hlim, ⟨h1, h2, w', _, rfl, hown', hmR.put hown.isMap hvr.inv_d⟩, fun b' hb' => ⟨(hfoot b' hb').1, Nat.lt_of_lt_of_le (hfoot b' hb').2.1 hg.size, (hfoot b' hb').2.2⟩⟩) k

theorem WL.lookX {t kt et : TypeId} {x y : Operand} {b n nn kk : Nat} {m : ByteArray → Option D} {s : ByteArray} {dv : D} (hw : S.want ops ⟨some d, .lookup t x y false, ty, pos, after, gd⟩ = some true) (hd : Nat.blt d N.n = true)
    (ht : E.P.underlying t = some (.map kt et)) (hkt : E.P.underlying kt = some .string) (het : (E.ty et).known = true) (hx : S.ev x = mpT b) (hy : S.ev y = .d (.v (.string s))) (hm : S.ob[kk]? = some (.x (mapX E.P kt b n m) nn))
    (hs : s.size ≤ maxLen) (hms : m s = some dv)
    (k : WL E.P N ops l Q (S.set d (.d dv))) : WL E.P N ops (⟨some d, .lookup t x y false, ty, pos, after, gd⟩ :: l) Q S :=
  WL.val hw hd (fun w0 σ0 a w g R => by
    have hxr := R.ev x; rw [hx] at hxr
    have hyr := R.ev y; rw [hy] at hyr
    obtain ⟨inf, z, hinf, _, _, hz, _⟩ := E.info het
    obtain ⟨hlim, ⟨h1, h2, w1, DD, hb, hown, hmR⟩, hfoot⟩ := R.inv.obs kk _ hm
    have hown := ownsMap_swap hb.symm hown
    have := hmR s hs
    rw [hms] at this
    obtain ⟨_, u, hat, hu⟩ := this
    obtain ⟨v, ps, hrun, hv⟩ := hown.lookup (e := et) (Maps.string_keyed hkt) ht (z := z) (by simp [zeroValue, typeInfo, hinf, hz]) (zd := .held z) (zp := []) rfl (WideMaps.keyOf_string_mk hkt hs)
    rw [hat] at hv
    have hv : some (DataW.held v, ([] : List MemPlace)) = some (.held u, ps) := hv
    injection hv with hv
    injection hv with hv _
    injection hv with hv
    subst hv
    exact ⟨v, by simp [execOp, hxr.inv_v, hyr.inv_v, hrun], .d _ _ hu⟩) k
end

section
variable {E : Env} {G : List Nat} {N : Nm} {Q : Exit → St → Prop} {tm : Nat → T} {ob : List Ob} {ops l : List Oper} {ty : TypeId} {pos : String} {after : Array Edge} {gd : Option (Nat × Bool)} {d : Nat}
theorem WG.insM' {t kt et : TypeId} {x y v : Operand} {b n nn : Nat} {s : ByteArray} {dv : D} {m : ByteArray → Option D} (kk : Nat) (ht : E.P.underlying t = some (.map kt et)) (hkt : E.P.underlying kt = some .string)
    (k : WG G E.P N ops l Q ⟨tm, ob.set kk (.x (mapX E.P kt b (n + 1) (fun x => if x = s then some dv else m x)) nn)⟩)
    (hw : St.want ⟨tm, ob⟩ ops ⟨none, .insert t x y v, ty, pos, after, gd⟩ = some true := by exact rfl) (hx : St.ev ⟨tm, ob⟩ x = mpT b := by exact rfl) (hy : St.ev ⟨tm, ob⟩ y = .d (.v (.string s)) := by exact rfl) (hv : St.ev ⟨tm, ob⟩ v = .d dv := by exact rfl)
    (hm : ob[kk]? = some (.x (mapX E.P kt b n m) nn) := by exact rfl) (hs : s.size ≤ maxLen := by first | assumption | omega) (hn : n < maxLen := by first | assumption | omega) : WG G E.P N ops (⟨none, .insert t x y v, ty, pos, after, gd⟩ :: l) Q ⟨tm, ob⟩ :=
  WL.insM (S := ⟨tm, ob⟩) hw ht hkt hx hy hv hm hs hn k

theorem WG.lkX' {t kt et : TypeId} {x y : Operand} {b n nn : Nat} {m : ByteArray → Option D} {s : ByteArray} {dv : D} (kk : Nat) (ht : E.P.underlying t = some (.map kt et)) (hkt : E.P.underlying kt = some .string) (hms : m s = some dv)
    (k : WG G E.P N ops l Q ⟨upd tm d (.d dv), ob⟩)
    (hw : St.want ⟨tm, ob⟩ ops ⟨some d, .lookup t x y false, ty, pos, after, gd⟩ = some true := by exact rfl) (hd : Nat.blt d N.n = true := by exact rfl) (het : (E.ty et).known = true := by exact rfl) (hx : St.ev ⟨tm, ob⟩ x = mpT b := by exact rfl) (hy : St.ev ⟨tm, ob⟩ y = .d (.v (.string s)) := by exact rfl)
    (hm : ob[kk]? = some (.x (mapX E.P kt b n m) nn) := by exact rfl) (hs : s.size ≤ maxLen := by first | assumption | omega) : WG G E.P N ops (⟨some d, .lookup t x y false, ty, pos, after, gd⟩ :: l) Q ⟨tm, ob⟩ := WL.lookX (S := ⟨tm, ob⟩) hw hd ht hkt het hx hy hm hs hms k
end

end Go.Proofs.YtmmjbpgdkokjgaaGreat
end

section
set_option linter.unusedVariables false
set_option linter.unusedSimpArgs false
set_option maxRecDepth 100000
namespace Go.Proofs.YtmmjbpgdkokjgaaGreat
open Go.RowKit

theorem ud_msi : env.P.underlying 110 = some (.map 9 2) := by kernel_rfl
theorem ud_strL : env.P.underlying 9 = some .string := env.string rfl

theorem choiceNotK (ns : List Nd) (L : List Co) (hl : L.length ≤ 90000) : FunQ env.P 48 [.lp 0 0, .clo 83 [.lp 2 0], .clo 79 [.lp 3 0, .lp 4 0], .clo 79 [.lp 5 0, .lp 6 0]] (loI ns L 0 ++ [bxL, bxL, bxT false, bxL, bxT true])
    (just (.d (dI (plc ((Pt.n3 12 0 (.lf 1 0) (truP false) (truP true)).on L)))) (loI ns ((Pt.n3 12 0 (.lf 1 0) (truP false) (truP true)).on L) (Pt.n3 12 0 (.lf 1 0) (truP false) (truP true)).count ++ [bxL, bxL, bxT false, bxL, bxT true])) := by
  have h1 := Pt.on_length (.lf 1 0) L
  have h2 := Pt.on_length (truP false) ((Pt.lf 1 0).on L)
  have h3 := Pt.on_length (truP true) ((truP false).on ((Pt.lf 1 0).on L))
  rw [tru_count] at h2 h3
  rw [lf_count] at h1
  exact choiceNot_fn ns [] default L (.lf 1 0) (truP false) (truP true) (call1_fn ns L (by omega)) (truthK_fn ns _ false (by omega)) (truthK_fn ns _ true (by omega)) (by omega)

set_option maxHeartbeats 4000000 in
theorem callNot_fn (ns : List Nd) (L : List Co) (hl : L.length ≤ 90000) : FunQ env.P 53 [.lp 0 0, .d (dS notS)] (loI ns L 0) (just (.d (dI (plc ((Pt.n3 12 0 (.lf 1 0) (truP false) (truP true)).on L)))) (loI ns ((Pt.n3 12 0 (.lf 1 0) (truP false) (truP true)).on L) (Pt.n3 12 0 (.lf 1 0) (truP false) (truP true)).count)) := by
  have hch := choiceNotK ns L hl
  refine FunQ.intro Tryz.func53 rfl (by kernel_rfl) rfl ?_
  unfold Go.Proofs.YtmmjbpgdkokjgaaGreat.loI
  repeat' (first | refine W.dre' (id := 3) [3, 5, 6] (fun f => bif bt f 4 then [.pv [.d (nodesD ns), .og 1 (0 + (Pt.n3 12 0 (.lf 1 0) (truP false) (truP true)).count)], .x (neC (((Pt.n3 12 0 (.lf 1 0) (truP false) (truP true)).on L).map coN) none) (0 + (Pt.n3 12 0 (.lf 1 0) (truP false) (truP true)).count), .pv [.lp 0 0], .pv [.lp 0 0], .pv [.d (dB false)], .pv [.lp 0 0], .pv [.d (dB true)]] else bif bt f 2 then [.pv [.d (nodesD ns), .og 1 0], .x (neC (L.map coN) none) 0, .pv [.lp 0 0], .pv [.lp 0 0], .pv [.d (dB false)], .pv [.lp 0 0], .pv [.d (dB true)]] else bif bt f 1 then [.pv [.d (nodesD ns), .og 1 0], .x (neC (L.map coN) none) 0, .pv [.lp 0 0], .pv [.lp 0 0], .pv [.d (dB false)]] else [.pv [.d (nodesD ns), .og 1 0], .x (neC (L.map coN) none) 0, .pv [.lp 0 0]]) [(0, [0, 1, 3]), (0, [0, 1, 3]), (0, [0]), (1, [0]), (0, [0, 1]), (2, [1]), (4, [3]), (0, [7])] [.pv [.d (nodesD ns), .og 1 (0 + (Pt.n3 12 0 (.lf 1 0) (truP false) (truP true)).count)], .x (neC (((Pt.n3 12 0 (.lf 1 0) (truP false) (truP true)).on L).map coN) none) (0 + (Pt.n3 12 0 (.lf 1 0) (truP false) (truP true)).count), .pv [.lp 0 0], .pv [.lp 0 0], .pv [.d (dB false)], .pv [.lp 0 0], .pv [.d (dB true)]] ?_ | refine WE.mkd (.clo 79 [.lp 3 0, .lp 4 0]) ?_ (.c (OpS1.cqM (E := env) [0, 1] [0, 0] rfl rfl (truthC_fn ns L false) rfl rfl rfl rfl rfl rfl rfl ⟨rfl, rfl, trivial⟩ rfl rfl rfl) .n) | refine WE.mkd (.clo 79 [.lp 5 0, .lp 6 0]) ?_ (.c (OpS1.cqM (E := env) [0, 1] [0, 0] rfl rfl (truthC_fn ns L true) rfl rfl rfl rfl rfl rfl rfl ⟨rfl, rfl, trivial⟩ rfl rfl rfl) .n) | refine WE.mkd (.d (dI (plc ((Pt.n3 12 0 (.lf 1 0) (truP false) (truP true)).on L)))) ?_ (.c (OpS1.cqM (E := env) [0, 1, 2, 3, 4, 5, 6] [0, 0, 0, 0, 0, 0, 0] rfl rfl hch rfl rfl rfl rfl rfl rfl rfl ⟨rfl, rfl, rfl, rfl, rfl, rfl, rfl, trivial⟩ rfl rfl rfl) .n) | refine WE.s' (E := env) (t := .clo _ _) ?_ | refine WE.nil ?_ | refine WE.s' (E := env) (t := .d _) ?_ | refine WE.s' (E := env) (t := .lp _ _) ?_ | refine WE.s' (E := env) (t := .og _ _) ?_ | refine WE.s' (E := env) (t := .ea _ _) ?_ | refine WE.s' (E := env) (t := .agg _) ?_ | refine WE.s' (E := env) (t := .tup _) ?_ | refine W.seq ?_ | refine W.rg ?_ | refine W.block ?_ | refine W.cond_true' ?_ | refine WG.nil ?_ | refine WG.run' (E := env) ?_ | fail)
  refine W.ret ?_
  exact RetR.loI (.inl rfl) rfl (by first | trivial | exact resOK_of (E := env) rfl) rfl rfl rfl (Nat.zero_add _) rfl _ (Nat.le_of_ble_eq_true rfl)

set_option maxHeartbeats 4000000 in
theorem callEmpty_fn (ns : List Nd) (L : List Co) (hl : L.length ≤ 90000) : FunQ env.P 53 [.lp 0 0, .d (dS emptyS)] (loI ns L 0) (just (.d (dI (plc ((Pt.lf 17 0).on L)))) (loI ns ((Pt.lf 17 0).on L) 1)) := by
  refine FunQ.intro Tryz.func53 rfl (by kernel_rfl) rfl ?_
  unfold Go.Proofs.YtmmjbpgdkokjgaaGreat.loI
  repeat' (first | refine W.seq ?_ | refine W.rg ?_ | refine W.block ?_ | refine W.cond_true' ?_ | refine W.cond_false' ?_ | refine WG.nil ?_ | refine WG.run' (E := env) ?_ | refine WG.adoptD 18 5 5 93 rfl rfl rfl ?_ | refine WG.loT (R := [_]) (v := []) rfl rfl (putLeafI ns L 17 0 (by omega)) rfl rfl ?_ | fail)
  refine W.ret ?_
  exact RetR.loI (.inl rfl) rfl (by first | trivial | exact resOK_of (E := env) rfl) rfl rfl rfl rfl rfl _ (Nat.le_of_ble_eq_true rfl)

set_option maxHeartbeats 4000000 in
theorem call_lenS_fn (ns : List Nd) (L : List Co) (hl : L.length ≤ 90000) : FunQ env.P 53 [.lp 0 0, .d (dS lenS)] (loI ns L 0) (just (.d (dI (plc ((Pt.lf 16 1).on L)))) (loI ns ((Pt.lf 16 1).on L) 1)) := by
  have hdo := doI_fn ns L 1 (by omega)
  refine FunQ.intro Tryz.func53 rfl (by kernel_rfl) rfl ?_
  unfold Go.Proofs.YtmmjbpgdkokjgaaGreat.loI
  repeat' (first | refine WG.mkM' 9 (fun bb => ?_) | refine WG.insM' 3 ud_msi ud_strL ?_ rfl rfl rfl rfl rfl (by decide) (by decide) | (refine WG.lkX' (dv := dI 1) 3 ud_msi ud_strL ?hh ?kk rfl rfl rfl rfl rfl rfl (by decide); case hh => first | rfl | (simp; done)) | refine W.seq ?_ | refine W.rg ?_ | refine W.block ?_ | refine W.skip ?_ | refine W.cond_false' ?_ | refine WG.nil ?_ | refine WG.run' (E := env) ?_ | refine WG.loI rfl rfl hdo rfl rfl ?_ | fail)
  refine W.ret ?_
  exact RetR.loI (.inl rfl) rfl (by first | trivial | exact resOK_of (E := env) rfl) rfl rfl rfl rfl rfl _ (Nat.le_of_ble_eq_true rfl)

set_option maxHeartbeats 4000000 in
theorem call_keysS_fn (ns : List Nd) (L : List Co) (hl : L.length ≤ 90000) : FunQ env.P 53 [.lp 0 0, .d (dS keysS)] (loI ns L 0) (just (.d (dI (plc ((Pt.lf 16 2).on L)))) (loI ns ((Pt.lf 16 2).on L) 1)) := by
  have hdo := doI_fn ns L 2 (by omega)
  refine FunQ.intro Tryz.func53 rfl (by kernel_rfl) rfl ?_
  unfold Go.Proofs.YtmmjbpgdkokjgaaGreat.loI
  repeat' (first | refine WG.mkM' 9 (fun bb => ?_) | refine WG.insM' 3 ud_msi ud_strL ?_ rfl rfl rfl rfl rfl (by decide) (by decide) | (refine WG.lkX' (dv := dI 2) 3 ud_msi ud_strL ?hh ?kk rfl rfl rfl rfl rfl rfl (by decide); case hh => first | rfl | (simp; done)) | refine W.seq ?_ | refine W.rg ?_ | refine W.block ?_ | refine W.skip ?_ | refine W.cond_false' ?_ | refine WG.nil ?_ | refine WG.run' (E := env) ?_ | refine WG.loI rfl rfl hdo rfl rfl ?_ | fail)
  refine W.ret ?_
  exact RetR.loI (.inl rfl) rfl (by first | trivial | exact resOK_of (E := env) rfl) rfl rfl rfl rfl rfl _ (Nat.le_of_ble_eq_true rfl)

set_option maxHeartbeats 4000000 in
theorem call_typeS_fn (ns : List Nd) (L : List Co) (hl : L.length ≤ 90000) : FunQ env.P 53 [.lp 0 0, .d (dS typeS)] (loI ns L 0) (just (.d (dI (plc ((Pt.lf 16 3).on L)))) (loI ns ((Pt.lf 16 3).on L) 1)) := by
  have hdo := doI_fn ns L 3 (by omega)
  refine FunQ.intro Tryz.func53 rfl (by kernel_rfl) rfl ?_
  unfold Go.Proofs.YtmmjbpgdkokjgaaGreat.loI
  repeat' (first | refine WG.mkM' 9 (fun bb => ?_) | refine WG.insM' 3 ud_msi ud_strL ?_ rfl rfl rfl rfl rfl (by decide) (by decide) | (refine WG.lkX' (dv := dI 3) 3 ud_msi ud_strL ?hh ?kk rfl rfl rfl rfl rfl rfl (by decide); case hh => first | rfl | (simp; done)) | refine W.seq ?_ | refine W.rg ?_ | refine W.block ?_ | refine W.skip ?_ | refine W.cond_false' ?_ | refine WG.nil ?_ | refine WG.run' (E := env) ?_ | refine WG.loI rfl rfl hdo rfl rfl ?_ | fail)
  refine W.ret ?_
  exact RetR.loI (.inl rfl) rfl (by first | trivial | exact resOK_of (E := env) rfl) rfl rfl rfl rfl rfl _ (Nat.le_of_ble_eq_true rfl)

set_option maxHeartbeats 4000000 in
theorem call_sortS_fn (ns : List Nd) (L : List Co) (hl : L.length ≤ 90000) : FunQ env.P 53 [.lp 0 0, .d (dS sortS)] (loI ns L 0) (just (.d (dI (plc ((Pt.lf 16 4).on L)))) (loI ns ((Pt.lf 16 4).on L) 1)) := by
  have hdo := doI_fn ns L 4 (by omega)
  refine FunQ.intro Tryz.func53 rfl (by kernel_rfl) rfl ?_
  unfold Go.Proofs.YtmmjbpgdkokjgaaGreat.loI
  repeat' (first | refine WG.mkM' 9 (fun bb => ?_) | refine WG.insM' 3 ud_msi ud_strL ?_ rfl rfl rfl rfl rfl (by decide) (by decide) | (refine WG.lkX' (dv := dI 4) 3 ud_msi ud_strL ?hh ?kk rfl rfl rfl rfl rfl rfl (by decide); case hh => first | rfl | (simp; done)) | refine W.seq ?_ | refine W.rg ?_ | refine W.block ?_ | refine W.skip ?_ | refine W.cond_false' ?_ | refine WG.nil ?_ | refine WG.run' (E := env) ?_ | refine WG.loI rfl rfl hdo rfl rfl ?_ | fail)
  refine W.ret ?_
  exact RetR.loI (.inl rfl) rfl (by first | trivial | exact resOK_of (E := env) rfl) rfl rfl rfl rfl rfl _ (Nat.le_of_ble_eq_true rfl)

set_option maxHeartbeats 4000000 in
theorem call_addS_fn (ns : List Nd) (L : List Co) (hl : L.length ≤ 90000) : FunQ env.P 53 [.lp 0 0, .d (dS addS)] (loI ns L 0) (just (.d (dI (plc ((Pt.lf 16 5).on L)))) (loI ns ((Pt.lf 16 5).on L) 1)) := by
  have hdo := doI_fn ns L 5 (by omega)
  refine FunQ.intro Tryz.func53 rfl (by kernel_rfl) rfl ?_
  unfold Go.Proofs.YtmmjbpgdkokjgaaGreat.loI
  repeat' (first | refine WG.mkM' 9 (fun bb => ?_) | refine WG.insM' 3 ud_msi ud_strL ?_ rfl rfl rfl rfl rfl (by decide) (by decide) | (refine WG.lkX' (dv := dI 5) 3 ud_msi ud_strL ?hh ?kk rfl rfl rfl rfl rfl rfl (by decide); case hh => first | rfl | (simp; done)) | refine W.seq ?_ | refine W.rg ?_ | refine W.block ?_ | refine W.skip ?_ | refine W.cond_false' ?_ | refine WG.nil ?_ | refine WG.run' (E := env) ?_ | refine WG.loI rfl rfl hdo rfl rfl ?_ | fail)
  refine W.ret ?_
  exact RetR.loI (.inl rfl) rfl (by first | trivial | exact resOK_of (E := env) rfl) rfl rfl rfl rfl rfl _ (Nat.le_of_ble_eq_true rfl)

set_option maxHeartbeats 4000000 in
theorem call_errorS_fn (ns : List Nd) (L : List Co) (hl : L.length ≤ 90000) : FunQ env.P 53 [.lp 0 0, .d (dS errorS)] (loI ns L 0) (just (.d (dI (plc ((Pt.lf 16 8).on L)))) (loI ns ((Pt.lf 16 8).on L) 1)) := by
  have hdo := doI_fn ns L 8 (by omega)
  refine FunQ.intro Tryz.func53 rfl (by kernel_rfl) rfl ?_
  unfold Go.Proofs.YtmmjbpgdkokjgaaGreat.loI
  repeat' (first | refine WG.mkM' 9 (fun bb => ?_) | refine WG.insM' 3 ud_msi ud_strL ?_ rfl rfl rfl rfl rfl (by decide) (by decide) | (refine WG.lkX' (dv := dI 8) 3 ud_msi ud_strL ?hh ?kk rfl rfl rfl rfl rfl rfl (by decide); case hh => first | rfl | (simp; done)) | refine W.seq ?_ | refine W.rg ?_ | refine W.block ?_ | refine W.skip ?_ | refine W.cond_false' ?_ | refine WG.nil ?_ | refine WG.run' (E := env) ?_ | refine WG.loI rfl rfl hdo rfl rfl ?_ | fail)
  refine W.ret ?_
  exact RetR.loI (.inl rfl) rfl (by first | trivial | exact resOK_of (E := env) rfl) rfl rfl rfl rfl rfl _ (Nat.le_of_ble_eq_true rfl)

end Go.Proofs.YtmmjbpgdkokjgaaGreat
end

section
namespace Go.Proofs.YtmmjbpgdkokjgaaGreat
open Go.Shelf

def lays190_ren : Go.Shelf.Ren := ⟨fun | 190 => 78 | 125 => 99 | 258 => 98 | 128 => 119 | 129 => 120 | 302 => 110 | 303 => 111 | 304 => 112 | 305 => 113 | 306 => 114 | 307 => 115 | 308 => 116 | 309 => 117 | 310 => 118 | 333 => 126 | 329 => 127 | 330 => 128 | 334 => 129 | 335 => 130 | 336 => 131 | 344 => 135 | n => n, fun | 31 => 58 | 9 => 9 | 3 => 3 | 46 => 126 | 0 => 0 | 51 => 141 | 53 => 143 | 4 => 4 | 183 => 133 | 182 => 132 | 131 => 138 | 5 => 5 | 218 => 146 | 222 => 150 | 228 => 152 | 229 => 153 | n => n, fun n => n⟩

theorem lays190 : Lays.n190 Tryz.prog lays190_ren := {
  mixed := by kernel_rfl,
  f125 := Tryz.func99.trans (congrArg some (by kernel_rfl)),
  f128 := Tryz.func119.trans (congrArg some (by kernel_rfl)),
  f129 := Tryz.func120.trans (congrArg some (by kernel_rfl)),
  f190 := Tryz.func78.trans (congrArg some (by kernel_rfl)),
  f258 := Tryz.func98.trans (congrArg some (by kernel_rfl)),
  f302 := Tryz.func110.trans (congrArg some (by kernel_rfl)),
  f303 := Tryz.func111.trans (congrArg some (by kernel_rfl)),
  f304 := Tryz.func112.trans (congrArg some (by kernel_rfl)),
  f305 := Tryz.func113.trans (congrArg some (by kernel_rfl)),
  f306 := Tryz.func114.trans (congrArg some (by kernel_rfl)),
  f307 := Tryz.func115.trans (congrArg some (by kernel_rfl)),
  f308 := Tryz.func116.trans (congrArg some (by kernel_rfl)),
  f309 := Tryz.func117.trans (congrArg some (by kernel_rfl)),
  f310 := Tryz.func118.trans (congrArg some (by kernel_rfl)),
  f329 := Tryz.func127.trans (congrArg some (by kernel_rfl)),
  f330 := Tryz.func128.trans (congrArg some (by kernel_rfl)),
  f333 := Tryz.func126.trans (congrArg some (by kernel_rfl)),
  f334 := Tryz.func129.trans (congrArg some (by kernel_rfl)),
  f335 := Tryz.func130.trans (congrArg some (by kernel_rfl)),
  f336 := Tryz.func131.trans (congrArg some (by kernel_rfl)),
  f344 := Tryz.func135.trans (congrArg some (by kernel_rfl)),
  t0 := Tryz.underlying0,
  a0 := Tryz.isAgg0,
  z0 := Tryz.sizeOf0,
  v0 := Tryz.zeroValue0,
  t3 := Tryz.underlying3,
  a3 := Tryz.isAgg3,
  z3 := Tryz.sizeOf3,
  v3 := Tryz.zeroValue3,
  t4 := Tryz.underlying4,
  a4 := Tryz.isAgg4,
  z4 := Tryz.sizeOf4,
  v4 := Tryz.zeroValue4,
  t5 := Tryz.underlying5,
  a5 := Tryz.isAgg5,
  z5 := Tryz.sizeOf5,
  v5 := Tryz.zeroValue5,
  t9 := Tryz.underlying9,
  a9 := Tryz.isAgg9,
  z9 := Tryz.sizeOf9,
  v9 := Tryz.zeroValue9,
  t31 := Tryz.underlying58,
  a31 := Tryz.isAgg58,
  z31 := Tryz.sizeOf58,
  v31 := Tryz.zeroValue58,
  t46 := Tryz.underlying126,
  a46 := Tryz.isAgg126,
  z46 := Tryz.sizeOf126,
  v46 := Tryz.zeroValue126,
  t51 := Tryz.underlying141,
  a51 := Tryz.isAgg141,
  z51 := Tryz.sizeOf141,
  v51 := Tryz.zeroValue141,
  t53 := Tryz.underlying143,
  a53 := Tryz.isAgg143,
  z53 := Tryz.sizeOf143,
  v53 := Tryz.zeroValue143,
  t131 := Tryz.underlying138,
  a131 := Tryz.isAgg138,
  z131 := Tryz.sizeOf138,
  v131 := Tryz.zeroValue138,
  t182 := Tryz.underlying132,
  a182 := Tryz.isAgg132,
  z182 := Tryz.sizeOf132,
  v182 := Tryz.zeroValue132,
  t183 := Tryz.underlying133,
  a183 := Tryz.isAgg133,
  z183 := Tryz.sizeOf133,
  v183 := Tryz.zeroValue133,
  t218 := Tryz.underlying146,
  a218 := Tryz.isAgg146,
  z218 := Tryz.sizeOf146,
  v218 := Tryz.zeroValue146,
  t222 := Tryz.underlying150,
  a222 := Tryz.isAgg150,
  z222 := Tryz.sizeOf150,
  v222 := Tryz.zeroValue150,
  t228 := Tryz.underlying152,
  a228 := Tryz.isAgg152,
  z228 := Tryz.sizeOf152,
  v228 := Tryz.zeroValue152,
  t229 := Tryz.underlying153,
  a229 := Tryz.isAgg153,
  z229 := Tryz.sizeOf153,
  v229 := Tryz.zeroValue153 }

end Go.Proofs.YtmmjbpgdkokjgaaGreat
end
