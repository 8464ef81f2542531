/-
  A text of this claim. Conditions: none.
-/
import Derived.Test.YtmmjbpgdkokjgaaGreatDoorQLLwG
import Derived.Test.YtmmjbpgdkokjgaaGreatDoorQLLw2
import Derived.Test.YtmmjbpgdkokjgaaGreatDoorQLLo1
import Derived.Test.YtmmjbpgdkokjgaaGreatDoorQLCp2
import Derived.Test.YtmmjbpgdkokjgaaGreatDoorQLPgF
import Derived.Test.YtmmjbpgdkokjgaaGreatDoorQLPgE
set_option linter.unusedVariables false
set_option linter.unusedSimpArgs false
set_option maxRecDepth 100000
set_option maxHeartbeats 16000000
namespace Go.Proofs.YtmmjbpgdkokjgaaGreatDoor
open Go.RowKit
theorem ud_msi :env.P.underlying 149=some (.map 9 2):=by kernel_rfl
theorem ud_strL :env.P.underlying 9=some .string:=env.string rfl
theorem choiceNotK (ns:List Nd)(L:List Co)(hl:L.length≤90000):FunQ env.P 52 [.lp 0 0,.clo 108 [.lp 2 0],.clo 104 [.lp 3 0,.lp 4 0],.clo 104 [.lp 5 0,.lp 6 0]] (loI ns L 0++[bxL,bxL,bxT false,bxL,bxT true])
 (just (.d (dI (plc ((Pt.n3 12 0 (.lf 1 0) (truP false) (truP true)).on L)))) (loI ns ((Pt.n3 12 0 (.lf 1 0) (truP false) (truP true)).on L) (Pt.n3 12 0 (.lf 1 0) (truP false) (truP true)).count++[bxL,bxL,bxT false,bxL,bxT true])):=by
 have h1:=Pt.on_length (.lf 1 0) L
 have h2:=Pt.on_length (truP false) ((Pt.lf 1 0).on L)
 have h3:=Pt.on_length (truP true) ((truP false).on ((Pt.lf 1 0).on L))
 rw[tru_count] at h2 h3
 rw[lf_count] at h1
 exact choiceNot_fn ns [] default L (.lf 1 0) (truP false) (truP true) (call1_fn ns L (by omega)) (truthK_fn ns _ false (by omega)) (truthK_fn ns _ true (by omega)) (by omega)
theorem callNot_fn (ns:List Nd)(L:List Co)(hl:L.length≤90000):FunQ env.P 57 [.lp 0 0,.d (dS notS)] (loI ns L 0) (just (.d (dI (plc ((Pt.n3 12 0 (.lf 1 0) (truP false) (truP true)).on L)))) (loI ns ((Pt.n3 12 0 (.lf 1 0) (truP false) (truP true)).on L) (Pt.n3 12 0 (.lf 1 0) (truP false) (truP true)).count)):=by
 have hch:=choiceNotK ns L hl
 refine FunQ.intro Tryz.func57 rfl (by kernel_rfl) rfl ?_
 unfold Go.Proofs.YtmmjbpgdkokjgaaGreatDoor.loI
 repeat'(first|refine W.dre' (id:=3) [3,5,6] (fun f=>bif bt f 4 then [.pv [.d (nodesD ns),.og 1 (0+(Pt.n3 12 0 (.lf 1 0) (truP false) (truP true)).count)],.x (neC (((Pt.n3 12 0 (.lf 1 0) (truP false) (truP true)).on L).map coN) none) (0+(Pt.n3 12 0 (.lf 1 0) (truP false) (truP true)).count),.pv [.lp 0 0],.pv [.lp 0 0],.pv [.d (dB false)],.pv [.lp 0 0],.pv [.d (dB true)]] else bif bt f 2 then [.pv [.d (nodesD ns),.og 1 0],.x (neC (L.map coN) none) 0,.pv [.lp 0 0],.pv [.lp 0 0],.pv [.d (dB false)],.pv [.lp 0 0],.pv [.d (dB true)]] else bif bt f 1 then [.pv [.d (nodesD ns),.og 1 0],.x (neC (L.map coN) none) 0,.pv [.lp 0 0],.pv [.lp 0 0],.pv [.d (dB false)]] else [.pv [.d (nodesD ns),.og 1 0],.x (neC (L.map coN) none) 0,.pv [.lp 0 0]]) [(0,[0,1,3]),(0,[0,1,3]),(0,[0]),(1,[0]),(0,[0,1]),(2,[1]),(4,[3]),(0,[7])] [.pv [.d (nodesD ns),.og 1 (0+(Pt.n3 12 0 (.lf 1 0) (truP false) (truP true)).count)],.x (neC (((Pt.n3 12 0 (.lf 1 0) (truP false) (truP true)).on L).map coN) none) (0+(Pt.n3 12 0 (.lf 1 0) (truP false) (truP true)).count),.pv [.lp 0 0],.pv [.lp 0 0],.pv [.d (dB false)],.pv [.lp 0 0],.pv [.d (dB true)]] ?_|refine WE.mkd (.clo 104 [.lp 3 0,.lp 4 0]) ?_ (.c (OpS1.cqM (E:=env) [0,1] [0,0] rfl rfl (truthC_fn ns L false) rfl rfl rfl rfl rfl rfl rfl ⟨rfl,rfl,trivial⟩ rfl rfl rfl) .n)|refine WE.mkd (.clo 104 [.lp 5 0,.lp 6 0]) ?_ (.c (OpS1.cqM (E:=env) [0,1] [0,0] rfl rfl (truthC_fn ns L true) rfl rfl rfl rfl rfl rfl rfl ⟨rfl,rfl,trivial⟩ rfl rfl rfl) .n)|refine WE.mkd (.d (dI (plc ((Pt.n3 12 0 (.lf 1 0) (truP false) (truP true)).on L)))) ?_ (.c (OpS1.cqM (E:=env) [0,1,2,3,4,5,6] [0,0,0,0,0,0,0] rfl rfl hch rfl rfl rfl rfl rfl rfl rfl ⟨rfl,rfl,rfl,rfl,rfl,rfl,rfl,trivial⟩ rfl rfl rfl) .n)|refine WE.s' (E:=env) (t:=.clo _ _) ?_|refine Z2 ?_|refine Z1 ?_|fail)
 refine W.ret ?_
 exact RetR.loI (.inl rfl) rfl rO rfl rfl rfl (Nat.zero_add _) rfl _ (Nat.le_of_ble_eq_true rfl)
theorem callEmpty_fn (ns:List Nd)(L:List Co)(hl:L.length≤90000):FunQ env.P 57 [.lp 0 0,.d (dS emptyS)] (loI ns L 0) (just (.d (dI (plc ((Pt.lf 17 0).on L)))) (loI ns ((Pt.lf 17 0).on L) 1)):=by
 refine FunQ.intro Tryz.func57 rfl (by kernel_rfl) rfl ?_
 unfold Go.Proofs.YtmmjbpgdkokjgaaGreatDoor.loI
 repeat'(first|refine Z1 ?_|refine WG.adoptD 18 5 5 132 rfl rfl rfl ?_|refine WG.loT (R:=[_]) (v:=[]) rfl rfl (putLeafI ns L 17 0 (by omega)) rfl rfl ?_|fail)
 refine W.ret ?_
 exact RetR.loI (.inl rfl) rfl rO rfl rfl rfl rfl rfl _ (Nat.le_of_ble_eq_true rfl)
theorem call_lenS_fn (ns:List Nd)(L:List Co)(hl:L.length≤90000):FunQ env.P 57 [.lp 0 0,.d (dS lenS)] (loI ns L 0) (just (.d (dI (plc ((Pt.lf 16 1).on L)))) (loI ns ((Pt.lf 16 1).on L) 1)):=by
 have hdo:=doI_fn ns L 1 (by omega)
 refine FunQ.intro Tryz.func57 rfl (by kernel_rfl) rfl ?_
 unfold Go.Proofs.YtmmjbpgdkokjgaaGreatDoor.loI
 repeat'(first|refine WG.mkM' 9 (fun bb=>?_)|refine WG.insM' 3 ud_msi ud_strL ?_ rfl rfl rfl rfl rfl (by decide) (by decide)|(refine WG.lkX' (dv:=dI 1) 3 ud_msi ud_strL ?hh ?kk rfl rfl rfl rfl rfl rfl (by decide);case hh=>first|rfl|(simp;done))|refine Z1 ?_|refine WG.loI rfl rfl hdo rfl rfl ?_|fail)
 refine W.ret ?_
 exact RetR.loI (.inl rfl) rfl rO rfl rfl rfl rfl rfl _ (Nat.le_of_ble_eq_true rfl)
theorem call_keysS_fn (ns:List Nd)(L:List Co)(hl:L.length≤90000):FunQ env.P 57 [.lp 0 0,.d (dS keysS)] (loI ns L 0) (just (.d (dI (plc ((Pt.lf 16 2).on L)))) (loI ns ((Pt.lf 16 2).on L) 1)):=by
 have hdo:=doI_fn ns L 2 (by omega)
 refine FunQ.intro Tryz.func57 rfl (by kernel_rfl) rfl ?_
 unfold Go.Proofs.YtmmjbpgdkokjgaaGreatDoor.loI
 repeat'(first|refine WG.mkM' 9 (fun bb=>?_)|refine WG.insM' 3 ud_msi ud_strL ?_ rfl rfl rfl rfl rfl (by decide) (by decide)|(refine WG.lkX' (dv:=dI 2) 3 ud_msi ud_strL ?hh ?kk rfl rfl rfl rfl rfl rfl (by decide);case hh=>first|rfl|(simp;done))|refine Z1 ?_|refine WG.loI rfl rfl hdo rfl rfl ?_|fail)
 refine W.ret ?_
 exact RetR.loI (.inl rfl) rfl rO rfl rfl rfl rfl rfl _ (Nat.le_of_ble_eq_true rfl)
theorem call_typeS_fn (ns:List Nd)(L:List Co)(hl:L.length≤90000):FunQ env.P 57 [.lp 0 0,.d (dS typeS)] (loI ns L 0) (just (.d (dI (plc ((Pt.lf 16 3).on L)))) (loI ns ((Pt.lf 16 3).on L) 1)):=by
 have hdo:=doI_fn ns L 3 (by omega)
 refine FunQ.intro Tryz.func57 rfl (by kernel_rfl) rfl ?_
 unfold Go.Proofs.YtmmjbpgdkokjgaaGreatDoor.loI
 repeat'(first|refine WG.mkM' 9 (fun bb=>?_)|refine WG.insM' 3 ud_msi ud_strL ?_ rfl rfl rfl rfl rfl (by decide) (by decide)|(refine WG.lkX' (dv:=dI 3) 3 ud_msi ud_strL ?hh ?kk rfl rfl rfl rfl rfl rfl (by decide);case hh=>first|rfl|(simp;done))|refine Z1 ?_|refine WG.loI rfl rfl hdo rfl rfl ?_|fail)
 refine W.ret ?_
 exact RetR.loI (.inl rfl) rfl rO rfl rfl rfl rfl rfl _ (Nat.le_of_ble_eq_true rfl)
theorem call_sortS_fn (ns:List Nd)(L:List Co)(hl:L.length≤90000):FunQ env.P 57 [.lp 0 0,.d (dS sortS)] (loI ns L 0) (just (.d (dI (plc ((Pt.lf 16 4).on L)))) (loI ns ((Pt.lf 16 4).on L) 1)):=by
 have hdo:=doI_fn ns L 4 (by omega)
 refine FunQ.intro Tryz.func57 rfl (by kernel_rfl) rfl ?_
 unfold Go.Proofs.YtmmjbpgdkokjgaaGreatDoor.loI
 repeat'(first|refine WG.mkM' 9 (fun bb=>?_)|refine WG.insM' 3 ud_msi ud_strL ?_ rfl rfl rfl rfl rfl (by decide) (by decide)|(refine WG.lkX' (dv:=dI 4) 3 ud_msi ud_strL ?hh ?kk rfl rfl rfl rfl rfl rfl (by decide);case hh=>first|rfl|(simp;done))|refine Z1 ?_|refine WG.loI rfl rfl hdo rfl rfl ?_|fail)
 refine W.ret ?_
 exact RetR.loI (.inl rfl) rfl rO rfl rfl rfl rfl rfl _ (Nat.le_of_ble_eq_true rfl)
theorem call_addS_fn (ns:List Nd)(L:List Co)(hl:L.length≤90000):FunQ env.P 57 [.lp 0 0,.d (dS addS)] (loI ns L 0) (just (.d (dI (plc ((Pt.lf 16 5).on L)))) (loI ns ((Pt.lf 16 5).on L) 1)):=by
 have hdo:=doI_fn ns L 5 (by omega)
 refine FunQ.intro Tryz.func57 rfl (by kernel_rfl) rfl ?_
 unfold Go.Proofs.YtmmjbpgdkokjgaaGreatDoor.loI
 repeat'(first|refine WG.mkM' 9 (fun bb=>?_)|refine WG.insM' 3 ud_msi ud_strL ?_ rfl rfl rfl rfl rfl (by decide) (by decide)|(refine WG.lkX' (dv:=dI 5) 3 ud_msi ud_strL ?hh ?kk rfl rfl rfl rfl rfl rfl (by decide);case hh=>first|rfl|(simp;done))|refine Z1 ?_|refine WG.loI rfl rfl hdo rfl rfl ?_|fail)
 refine W.ret ?_
 exact RetR.loI (.inl rfl) rfl rO rfl rfl rfl rfl rfl _ (Nat.le_of_ble_eq_true rfl)
theorem call_errorS_fn (ns:List Nd)(L:List Co)(hl:L.length≤90000):FunQ env.P 57 [.lp 0 0,.d (dS errorS)] (loI ns L 0) (just (.d (dI (plc ((Pt.lf 16 8).on L)))) (loI ns ((Pt.lf 16 8).on L) 1)):=by
 have hdo:=doI_fn ns L 8 (by omega)
 refine FunQ.intro Tryz.func57 rfl (by kernel_rfl) rfl ?_
 unfold Go.Proofs.YtmmjbpgdkokjgaaGreatDoor.loI
 repeat'(first|refine WG.mkM' 9 (fun bb=>?_)|refine WG.insM' 3 ud_msi ud_strL ?_ rfl rfl rfl rfl rfl (by decide) (by decide)|(refine WG.lkX' (dv:=dI 8) 3 ud_msi ud_strL ?hh ?kk rfl rfl rfl rfl rfl rfl (by decide);case hh=>first|rfl|(simp;done))|refine Z1 ?_|refine WG.loI rfl rfl hdo rfl rfl ?_|fail)
 refine W.ret ?_
 exact RetR.loI (.inl rfl) rfl rO rfl rfl rfl rfl rfl _ (Nat.le_of_ble_eq_true rfl)
theorem callI_fn (ns:List Nd)(L:List Co)(t:ByteArray)(ht:among callsL t=true)(hl:L.length≤90000):FunQ env.P 57 [.lp 0 0,.d (dS t)] (loI ns L 0) (just (.d (dI (plc ((callP t).on L)))) (loI ns ((callP t).on L) (callP t).count)):=by
 have hm:t∈callsL:=among_iff2.1 ht
 simp only[callsL,List.mem_cons,List.not_mem_nil,or_false] at hm
 rcases hm with rfl|rfl|rfl|rfl|rfl|rfl|rfl|rfl
 ·exact call_lenS_fn ns L hl
 ·exact call_keysS_fn ns L hl
 ·exact callNot_fn ns L hl
 ·exact callEmpty_fn ns L hl
 ·exact call_errorS_fn ns L hl
 ·exact call_typeS_fn ns L hl
 ·exact call_sortS_fn ns L hl
 ·exact call_addS_fn ns L hl
theorem Rel.adoptD {N:Nm}{w0:World}{σ0:Bs}{tm:Nat→T}{ob:List Ob}{a:Act}{w:World}{g:Gh}(r:Rel N w0 σ0 ⟨tm,ob⟩ a w g)(i j0:Nat)(z:Nat)(e:TypeId){ds:List D}{z0:Nat}(hi:tm i=.d (.agg ds))(hj:ds[j0]? =some (.nl z0)):
 ∃g',g.le g'∧Rel N w0 σ0 ⟨upd tm i (.agg ((ds.map T.d).set j0 (.og ob.length 0))),ob++[.gr z e [] 0 false]⟩ a w g':=by
 obtain⟨g',hle,I,ht⟩:=r.inv.adopt (by rw[r.hm];exact r.hl) z e
 refine⟨g',hle,⟨I,r.defers,r.size,r.hm,by have:=r.hl;simp at this ⊢;omega,fun j=>?_⟩⟩
 have h1:=r.tm j
 show RT g' (upd tm i _ j) _
 by_cases hjj:j=i
 ·subst hjj
  have h1:RT g (tm j) _:=h1
  rw[hi] at h1
  obtain⟨vs,hv,hl,hat⟩:=h1.inv_d.inv_agg
  rw[show upd tm j (.agg ((ds.map T.d).set j0 (.og ob.length 0))) j=.agg ((ds.map T.d).set j0 (.og ob.length 0)) by simp[upd]]
  rw[hv]
  refine .agg _ vs (by simpa using hl) fun a x u hx hu=>?_
  by_cases hb:j0=a
  ·subst hb
   have hlo:j0<(ds.map T.d).length:=by have:=(List.getElem?_eq_some_iff.1 hj).1;simpa using this
   rw[List.getElem?_set_self hlo] at hx
   simp only[Option.some.injEq] at hx
   subst hx
   have:=(hat j0 _ u hj hu).inv_nl
   rw[this]
   exact ht
  ·rw[List.getElem?_set_ne hb,List.getElem?_map,Option.map_eq_some_iff] at hx
   obtain⟨y,hy,rfl⟩:=hx
   exact .d _ _ ((hat a y u hy hu).mono hle.σ)
 ·rw[show upd tm i (.agg ((ds.map T.d).set j0 (.og ob.length 0))) j=tm j by simp[upd,nbeq hjj]]
  exact h1.mono hle
section
variable {E:Env}{N:Nm}{Q:Exit→St→Prop}{S:St}{tm:Nat→T}{ob ob2:List Ob}{ops l:List Oper}{ty:TypeId}{pos:String}{after:Array Edge}{gd:Option (Nat×Bool)}
theorem WL.callA {d:Nat}{f:FuncId}{fop:Operand}{xs:List Operand}{tys:List TypeId}{cap args:List T}{obA:List Ob}{t:T}{obB:List Ob}(i j0:Nat)(z:Nat)(e:TypeId){ds:List D}{z0:Nat}(r:Rn)(hi:tm i=.d (.agg ds))(hj:ds[j0]? =some (.nl z0))
 (hw:St.want ⟨tm,ob⟩ ops ⟨some d,.call ⟨.value fop,xs.toArray,tys.toArray⟩,ty,pos,after,gd⟩=some true) (hd:Nat.blt d N.n=true)
 (hc:FunQ E.P f args obA (just t obB)) (hclo:cloOf (norm (ob++[.gr z e [] 0 false]) (St.ev ⟨upd tm i (.agg ((ds.map T.d).set j0 (.og ob.length 0))),ob++[.gr z e [] 0 false]⟩ fop))=some (f,cap))
 (ha:argsT E ⟨upd tm i (.agg ((ds.map T.d).set j0 (.og ob.length 0))),ob++[.gr z e [] 0 false]⟩ false xs tys++cap=T.renL r args) (hlp:T.lpOKL r args=true) (hK:r.K=(ob++[Ob.gr z e [] 0 false]).length) (hnd:nodupB r.idx=true)
 (hA:Nat.beq obA.length r.idx.length=true) (hs:startL r 0 obA=true) (hmt:matchO r (ob++[.gr z e [] 0 false]) 0 obA) (hal:aliveN r.idx.length obB=true) (ho:mergeO r 0 (ob++[.gr z e [] 0 false]) r.idx obB=ob2)
 (k:WL E.P N ops l Q ⟨upd tm d (t.ren r),ob2⟩):WL E.P N ops (⟨some d,.call ⟨.value fop,xs.toArray,tys.toArray⟩,ty,pos,after,gd⟩::l) Q ⟨tm,ob⟩:=
 WL.oper hw fun w0 σ0 a w g R=>by
  obtain⟨g1,hle1,R1⟩:=R.adoptD i j0 z e hi hj
  refine R1.call r false hc hclo ha hlp hK hnd hA hs hmt (.inl rfl) (fun t2 o2 h=>by obtain⟨rfl,rfl⟩:=h;exact⟨hal,fun h=>nomatch h⟩) _ _ fun t2 o2 h v w' g' hle I' hv=>?_
  obtain⟨rfl,rfl⟩:=h
  subst ho
  have r':Rel N w0 σ0 ⟨tm,mergeO r 0 (ob++[.gr z e [] 0 false]) r.idx o2⟩ a w' g':=⟨I',R.defers,R.size,R.hm,Nat.le_trans R1.hl (mergeO_length ..),fun j=>((R.tm j).mono hle1).mono hle⟩
  exact k w0 σ0 _ w' g' (r'.set (by simpa using hd) hv)
theorem OpS1.cqA {d:Nat}{f:FuncId}{xs:List Operand}{tys:List TypeId}{args:List T}{obA obB:List Ob}{t t':T}{KK:Nat}(i j0:Nat)(z:Nat)(e:TypeId){ds:List D}{z0:Nat}(idx off:List Nat)(hw:St.want ⟨tm,ob⟩ ops ⟨some d,.call ⟨.value (.func f),xs.toArray,tys.toArray⟩,ty,pos,after,gd⟩=some true)(hd:Nat.blt d N.n=true)
 (hc:FunQ E.P f args obA (just t obB)) (hi:tm i=.d (.agg ds)) (hj:ds[j0]? =some (.nl z0)) (hmem: .tmp i∈xs) (hK:KK=(ob++[Ob.gr z e [] 0 false]).length)
 (ha:argsT E ⟨upd tm i (.agg ((ds.map T.d).set j0 (.og ob.length 0))),ob++[.gr z e [] 0 false]⟩ false xs tys++[]=T.renL ⟨idx,off,KK⟩ args) (hlp:T.lpOKL ⟨idx,off,KK⟩ args=true) (hnd:nodupB idx=true)
 (hA:Nat.beq obA.length idx.length=true) (hs:startL ⟨idx,off,KK⟩ 0 obA=true) (hmt:matchO ⟨idx,off,KK⟩ (ob++[.gr z e [] 0 false]) 0 obA) (hal:aliveN idx.length obB=true) (ht:T.ren ⟨idx,off,KK⟩ t=t') (ho:mergeO ⟨idx,off,KK⟩ 0 (ob++[.gr z e [] 0 false]) idx obB=ob2):
 OpS1 E.P N ops ⟨some d,.call ⟨.value (.func f),xs.toArray,tys.toArray⟩,ty,pos,after,gd⟩ tm t' ob ob2:=fun tm' hag l Q k'=>by
 subst ht
 have hx: ∀x∈xs,St.ev ⟨tm',ob⟩ x=St.ev ⟨tm,ob⟩ x:=fun x hx=>ev_agree hag (by simp only[Op.operands,Call.operands,Array.toList_append,List.mem_append];exact .inr (by simpa using hx))
 have hi':tm' i=.d (.agg ds):=by rw[←hi];exact hx _ hmem
 refine WL.callA i j0 z e ⟨idx,off,KK⟩ hi' hj (by rw[want_agree hag];exact hw) hd hc rfl ?_ hlp hK hnd hA hs hmt hal ho k'
 have hag2:argsT E ⟨upd tm' i (.agg ((ds.map T.d).set j0 (.og ob.length 0))),ob++[.gr z e [] 0 false]⟩ false xs tys=argsT E ⟨upd tm i (.agg ((ds.map T.d).set j0 (.og ob.length 0))),ob++[.gr z e [] 0 false]⟩ false xs tys:=argsT_agree (S:=⟨upd tm i (.agg ((ds.map T.d).set j0 (.og ob.length 0))),ob++[.gr z e [] 0 false]⟩) (S':=⟨upd tm' i (.agg ((ds.map T.d).set j0 (.og ob.length 0))),ob++[.gr z e [] 0 false]⟩) rfl false fun x hxx=>by
  have h:=hx x hxx
  cases x with
  |tmp j=>
   have h:tm' j=tm j:=h
   show upd tm' i _ j=upd tm i _ j
   unfold upd
   rw[h]
  |const v=>rfl
  |func v=>rfl
  |global v=>rfl
 rw[hag2]
 exact ha
end
def GoI (ns:List Nd)(j:Int)(P:List ByteArray→Pt)(c:Nat):Prop:=(∀names,(P names).count≤5*c)∧ ∀(names:List ByteArray) (L:List Co),names.length+c≤10000→L.length+5*c≤5000→
 FunQ env.P 16 [.lp 0 0,.d (dI j),.d (namesD names)] (loI ns L 0) (just (.d (dI (plc ((P names).on L)))) (loI ns ((P names).on L) (P names).count))
theorem lower1_fn {ns:List Nd}{n:Nd}{names:List ByteArray}{A:List ByteArray→Pt}{c:Nat}(h:GoI ns n.a A c)(L:List Co)(hn:names.length+c≤10000)(hl:L.length+5*c≤5000):CloI ns 43 [.lp 2 0,.lp 4 0,.lp 3 0] (envA names n) (A names) L:=by
 have h1:=h.2 names L hn hl
 unfold CloI
 refine FunQ.intro Tryz.func43 rfl (by kernel_rfl) rfl ?_
 unfold Go.Proofs.YtmmjbpgdkokjgaaGreatDoor.loI
 repeat'(first|refine Z3 ?_|refine WG.loI rfl rfl h1 rfl rfl ?_)
 refine W.ret ?_
 exact RetR.own (ob':=loI ns ((A names).on L) (A names).count++envA names n) ⟨[0,1,2,3,4],[0,0,0,0,0],5⟩ (.inl rfl) rfl rO rfl rfl rfl rfl rfl rfl ⟨by simp[Ob.ren,Rn.of,Rn.ix,T.renL,T.ren]<;>rfl,by simp[Ob.ren,Rn.of,Rn.ix,T.renL,T.ren]<;>rfl,rfl,rfl,rfl,trivial⟩ rfl ⟨rfl,rfl⟩
theorem lower2_fn {ns:List Nd}{n:Nd}{names:List ByteArray}{A:List ByteArray→Pt}{c:Nat}(h:GoI ns n.b A c)(L:List Co)(hn:names.length+c≤10000)(hl:L.length+5*c≤5000):CloI ns 44 [.lp 2 0,.lp 4 0,.lp 3 0] (envA names n) (A names) L:=by
 have h1:=h.2 names L hn hl
 unfold CloI
 refine FunQ.intro Tryz.func44 rfl (by kernel_rfl) rfl ?_
 unfold Go.Proofs.YtmmjbpgdkokjgaaGreatDoor.loI
 repeat'(first|refine Z3 ?_|refine WG.loI rfl rfl h1 rfl rfl ?_)
 refine W.ret ?_
 exact RetR.own (ob':=loI ns ((A names).on L) (A names).count++envA names n) ⟨[0,1,2,3,4],[0,0,0,0,0],5⟩ (.inl rfl) rfl rO rfl rfl rfl rfl rfl rfl ⟨by simp[Ob.ren,Rn.of,Rn.ix,T.renL,T.ren]<;>rfl,by simp[Ob.ren,Rn.of,Rn.ix,T.renL,T.ren]<;>rfl,rfl,rfl,rfl,trivial⟩ rfl ⟨rfl,rfl⟩
theorem lower3_fn {ns:List Nd}{n:Nd}{names:List ByteArray}{B:List ByteArray→Pt}{c:Nat}(h:GoI ns n.b B c)(L:List Co)(hn:names.length+c≤10000)(hl:L.length+5*c≤5000):CloI ns 54 [.lp 2 0,.lp 5 0] (envB names n) (Pt.n3 12 0 (B names) (truP true) (truP false)) L:=by
 have hc:=h.1 names
 have q1:=Pt.on_length (B names) L
 have q2:=Pt.on_length (truP true) ((B names).on L)
 have q3:=Pt.on_length (truP false) ((truP true).on ((B names).on L))
 rw[tru_count] at q2 q3
 have hch:=choiceIn_fn ns names n L (B names) (truP true) (truP false) (lower2_fn h L hn hl) (truthK_fn ns _ true (by omega)) (truthK_fn ns _ false (by omega)) (by omega)
 unfold CloI
 refine FunQ.intro Tryz.func54 rfl (by kernel_rfl) rfl ?_
 unfold Go.Proofs.YtmmjbpgdkokjgaaGreatDoor.loI
 repeat'(first|refine W.dre' (id:=1) [3,5,6] (fun f=>bif bt f 4 then [.pv [.d (nodesD ns),.og 1 (0+(Pt.n3 12 0 (B names) (truP true) (truP false)).count)],.x (neC (((Pt.n3 12 0 (B names) (truP true) (truP false)).on L).map coN) none) (0+(Pt.n3 12 0 (B names) (truP true) (truP false)).count),.pv [.lp 0 0],.pv [.d (namesD names)],.pv (n.row.map .d),.pv [.clo 44 [.lp 2 0,.lp 4 0,.lp 3 0]],.pv [.lp 0 0],.pv [.d (dB true)],.pv [.lp 0 0],.pv [.d (dB false)]] else bif bt f 2 then [.pv [.d (nodesD ns),.og 1 0],.x (neC (L.map coN) none) 0,.pv [.lp 0 0],.pv [.d (namesD names)],.pv (n.row.map .d),.pv [.clo 44 [.lp 2 0,.lp 4 0,.lp 3 0]],.pv [.lp 0 0],.pv [.d (dB true)],.pv [.lp 0 0],.pv [.d (dB false)]] else bif bt f 1 then [.pv [.d (nodesD ns),.og 1 0],.x (neC (L.map coN) none) 0,.pv [.lp 0 0],.pv [.d (namesD names)],.pv (n.row.map .d),.pv [.clo 44 [.lp 2 0,.lp 4 0,.lp 3 0]],.pv [.lp 0 0],.pv [.d (dB true)]] else [.pv [.d (nodesD ns),.og 1 0],.x (neC (L.map coN) none) 0,.pv [.lp 0 0],.pv [.d (namesD names)],.pv (n.row.map .d),.pv [.clo 44 [.lp 2 0,.lp 4 0,.lp 3 0]]]) [(0,[0,1,3]),(0,[0,1,3]),(0,[0]),(1,[0]),(0,[0,1]),(2,[1]),(4,[3]),(0,[7])] [.pv [.d (nodesD ns),.og 1 (0+(Pt.n3 12 0 (B names) (truP true) (truP false)).count)],.x (neC (((Pt.n3 12 0 (B names) (truP true) (truP false)).on L).map coN) none) (0+(Pt.n3 12 0 (B names) (truP true) (truP false)).count),.pv [.lp 0 0],.pv [.d (namesD names)],.pv (n.row.map .d),.pv [.clo 44 [.lp 2 0,.lp 4 0,.lp 3 0]],.pv [.lp 0 0],.pv [.d (dB true)],.pv [.lp 0 0],.pv [.d (dB false)]] ?_|refine WE.mkd (.clo 104 [.lp 6 0,.lp 7 0]) ?_ (.c (OpS1.cqM (E:=env) [0,1] [0,0] rfl rfl (truthC_fn ns L true) rfl rfl rfl rfl rfl rfl rfl ⟨rfl,rfl,trivial⟩ rfl rfl rfl) .n)|refine WE.mkd (.clo 104 [.lp 8 0,.lp 9 0]) ?_ (.c (OpS1.cqM (E:=env) [0,1] [0,0] rfl rfl (truthC_fn ns L false) rfl rfl rfl rfl rfl rfl rfl ⟨rfl,rfl,trivial⟩ rfl rfl rfl) .n)|refine WE.mkd (.d (dI (plc ((Pt.n3 12 0 (B names) (truP true) (truP false)).on L)))) ?_ (.c (OpS1.cqM (E:=env) [0,1,2,3,4,5,6,7,8,9] [0,0,0,0,0,0,0,0,0,0] rfl rfl hch rfl rfl rfl rfl rfl rfl rfl ⟨rfl,rfl,rfl,rfl,rfl,rfl,rfl,rfl,rfl,rfl,trivial⟩ rfl rfl rfl) .n)|refine WE.s' (E:=env) (t:=.clo _ _) ?_|refine Z2 ?_|refine Z1 ?_|fail)
 refine W.ret ?_
 exact RetR.own (ob':=loI ns ((Pt.n3 12 0 (B names) (truP true) (truP false)).on L) (Pt.n3 12 0 (B names) (truP true) (truP false)).count++envB names n) ⟨[0,1,2,3,4,5],[0,0,0,0,0,0],10⟩ (.inl rfl) rfl rO rfl rfl rfl rfl rfl rfl ⟨by simp[Ob.ren,Rn.of,Rn.ix,T.renL,T.ren]<;>rfl,by simp[Ob.ren,Rn.of,Rn.ix,T.renL,T.ren]<;>rfl,rfl,rfl,rfl,rfl,trivial⟩ rfl ⟨rfl,rfl⟩
theorem lower4_fn {ns:List Nd}{n:Nd}{names:List ByteArray}{B:List ByteArray→Pt}{c:Nat}(h:GoI ns n.b B c)(L:List Co)(hn:names.length+c≤10000)(hl:L.length+5*c≤5000):CloI ns 55 [.lp 2 0,.lp 5 0] (envB names n) (Pt.n3 12 0 (B names) (truP true) (truP false)) L:=by
 have hc:=h.1 names
 have q1:=Pt.on_length (B names) L
 have q2:=Pt.on_length (truP true) ((B names).on L)
 have q3:=Pt.on_length (truP false) ((truP true).on ((B names).on L))
 rw[tru_count] at q2 q3
 have hch:=choiceIn_fn ns names n L (B names) (truP true) (truP false) (lower2_fn h L hn hl) (truthK_fn ns _ true (by omega)) (truthK_fn ns _ false (by omega)) (by omega)
 unfold CloI
 refine FunQ.intro Tryz.func55 rfl (by kernel_rfl) rfl ?_
 unfold Go.Proofs.YtmmjbpgdkokjgaaGreatDoor.loI
 repeat'(first|refine W.dre' (id:=1) [3,5,6] (fun f=>bif bt f 4 then [.pv [.d (nodesD ns),.og 1 (0+(Pt.n3 12 0 (B names) (truP true) (truP false)).count)],.x (neC (((Pt.n3 12 0 (B names) (truP true) (truP false)).on L).map coN) none) (0+(Pt.n3 12 0 (B names) (truP true) (truP false)).count),.pv [.lp 0 0],.pv [.d (namesD names)],.pv (n.row.map .d),.pv [.clo 44 [.lp 2 0,.lp 4 0,.lp 3 0]],.pv [.lp 0 0],.pv [.d (dB true)],.pv [.lp 0 0],.pv [.d (dB false)]] else bif bt f 2 then [.pv [.d (nodesD ns),.og 1 0],.x (neC (L.map coN) none) 0,.pv [.lp 0 0],.pv [.d (namesD names)],.pv (n.row.map .d),.pv [.clo 44 [.lp 2 0,.lp 4 0,.lp 3 0]],.pv [.lp 0 0],.pv [.d (dB true)],.pv [.lp 0 0],.pv [.d (dB false)]] else bif bt f 1 then [.pv [.d (nodesD ns),.og 1 0],.x (neC (L.map coN) none) 0,.pv [.lp 0 0],.pv [.d (namesD names)],.pv (n.row.map .d),.pv [.clo 44 [.lp 2 0,.lp 4 0,.lp 3 0]],.pv [.lp 0 0],.pv [.d (dB true)]] else [.pv [.d (nodesD ns),.og 1 0],.x (neC (L.map coN) none) 0,.pv [.lp 0 0],.pv [.d (namesD names)],.pv (n.row.map .d),.pv [.clo 44 [.lp 2 0,.lp 4 0,.lp 3 0]]]) [(0,[0,1,3]),(0,[0,1,3]),(0,[0]),(1,[0]),(0,[0,1]),(2,[1]),(4,[3]),(0,[7])] [.pv [.d (nodesD ns),.og 1 (0+(Pt.n3 12 0 (B names) (truP true) (truP false)).count)],.x (neC (((Pt.n3 12 0 (B names) (truP true) (truP false)).on L).map coN) none) (0+(Pt.n3 12 0 (B names) (truP true) (truP false)).count),.pv [.lp 0 0],.pv [.d (namesD names)],.pv (n.row.map .d),.pv [.clo 44 [.lp 2 0,.lp 4 0,.lp 3 0]],.pv [.lp 0 0],.pv [.d (dB true)],.pv [.lp 0 0],.pv [.d (dB false)]] ?_|refine WE.mkd (.clo 104 [.lp 6 0,.lp 7 0]) ?_ (.c (OpS1.cqM (E:=env) [0,1] [0,0] rfl rfl (truthC_fn ns L true) rfl rfl rfl rfl rfl rfl rfl ⟨rfl,rfl,trivial⟩ rfl rfl rfl) .n)|refine WE.mkd (.clo 104 [.lp 8 0,.lp 9 0]) ?_ (.c (OpS1.cqM (E:=env) [0,1] [0,0] rfl rfl (truthC_fn ns L false) rfl rfl rfl rfl rfl rfl rfl ⟨rfl,rfl,trivial⟩ rfl rfl rfl) .n)|refine WE.mkd (.d (dI (plc ((Pt.n3 12 0 (B names) (truP true) (truP false)).on L)))) ?_ (.c (OpS1.cqM (E:=env) [0,1,2,3,4,5,6,7,8,9] [0,0,0,0,0,0,0,0,0,0] rfl rfl hch rfl rfl rfl rfl rfl rfl rfl ⟨rfl,rfl,rfl,rfl,rfl,rfl,rfl,rfl,rfl,rfl,trivial⟩ rfl rfl rfl) .n)|refine WE.s' (E:=env) (t:=.clo _ _) ?_|refine Z2 ?_|refine Z1 ?_|fail)
 refine W.ret ?_
 exact RetR.own (ob':=loI ns ((Pt.n3 12 0 (B names) (truP true) (truP false)).on L) (Pt.n3 12 0 (B names) (truP true) (truP false)).count++envB names n) ⟨[0,1,2,3,4,5],[0,0,0,0,0,0],10⟩ (.inl rfl) rfl rO rfl rfl rfl rfl rfl rfl ⟨by simp[Ob.ren,Rn.of,Rn.ix,T.renL,T.ren]<;>rfl,by simp[Ob.ren,Rn.of,Rn.ix,T.renL,T.ren]<;>rfl,rfl,rfl,rfl,rfl,trivial⟩ rfl ⟨rfl,rfl⟩
theorem callOneSel_fn (ns:List Nd)(n:Nd)(names:List ByteArray)(A:Pt)(L:List Co)(hA:CloI ns 43 [.lp 2 0,.lp 4 0,.lp 3 0] (envA names n) A L)(hl:L.length+A.count≤90000):
 FunQ env.P 56 [.lp 0 0,.d (dS selectS),.clo 43 [.lp 2 0,.lp 4 0,.lp 3 0]] (loI ns L 0++envA names n) (just (.d (dI (plc ((Pt.n3 12 0 A (.lf 1 0) (.lf 17 0)).on L)))) (loI ns ((Pt.n3 12 0 A (.lf 1 0) (.lf 17 0)).on L) ((Pt.n3 12 0 A (.lf 1 0) (.lf 17 0)).count)++envA names n)):=by
 have q1:=Pt.on_length A L
 have q2:=Pt.on_length (.lf 1 0) (A.on L)
 have q3:=Pt.on_length (.lf 17 0) ((Pt.lf 1 0).on (A.on L))
 rw[lf_count] at q2 q3
 have hch:=choiceSel_fn ns names n L A (.lf 1 0) (.lf 17 0) hA (callOne1_fn ns _ (by omega)) (callOne2_fn ns _ (by omega)) (by omega)
 refine FunQ.intro Tryz.func56 rfl (by kernel_rfl) rfl ?_
 unfold Go.Proofs.YtmmjbpgdkokjgaaGreatDoor.loI
 repeat'(first|refine Z1 ?_|refine WG.cq (E:=env) (t':=.d (dI (plc ((Pt.n3 12 0 A (.lf 1 0) (.lf 17 0)).on L)))) (ob2:=[.pv [.d (nodesD ns),.og 1 (0+(Pt.n3 12 0 A (.lf 1 0) (.lf 17 0)).count)],.x (neC (((Pt.n3 12 0 A (.lf 1 0) (.lf 17 0)).on L).map coN) none) (0+(Pt.n3 12 0 A (.lf 1 0) (.lf 17 0)).count),.pv [.lp 0 0],.pv [.d (namesD names)],.pv (n.row.map .d),.pv [.lp 0 0]]) [0,1,2,3,4,5] [0,0,0,0,0,0] false rfl rfl hch rfl rfl rfl rfl rfl rfl rfl ⟨rfl,rfl,rfl,rfl,rfl,rfl,trivial⟩ (.inl rfl) rfl (fun h=>nomatch h) rfl rfl ?_|fail)
 rw[Nat.zero_add]
 refine W.ret ?_
 exact RetR.own (ob':=loI ns ((Pt.n3 12 0 A (.lf 1 0) (.lf 17 0)).on L) ((Pt.n3 12 0 A (.lf 1 0) (.lf 17 0)).count)++envA names n) ⟨[0,1,2,3,4],[0,0,0,0,0],6⟩ (.inl rfl) rfl rO rfl rfl rfl rfl rfl rfl ⟨by simp[Ob.ren,Rn.of,Rn.ix,T.renL,T.ren]<;>rfl,by simp[Ob.ren,Rn.of,Rn.ix,T.renL,T.ren]<;>rfl,rfl,rfl,rfl,trivial⟩ rfl ⟨rfl,rfl⟩
theorem callOneMap_fn (ns:List Nd)(n:Nd)(names:List ByteArray)(A:Pt)(L:List Co)(hA:CloI ns 43 [.lp 2 0,.lp 4 0,.lp 3 0] (envA names n) A ((Pt.n1 8 (.lf 1 0)).on L))(hl:L.length+A.count≤90000):
 FunQ env.P 56 [.lp 0 0,.d (dS mapS),.clo 43 [.lp 2 0,.lp 4 0,.lp 3 0]] (loI ns L 0++envA names n) (just (.d (dI (plc ((Pt.n1 10 (Pt.n2 3 0 [] (Pt.n1 8 (.lf 1 0)) A)).on L)))) (loI ns ((Pt.n1 10 (Pt.n2 3 0 [] (Pt.n1 8 (.lf 1 0)) A)).on L) ((Pt.n1 10 (Pt.n2 3 0 [] (Pt.n1 8 (.lf 1 0)) A)).count)++envA names n)):=by
 have q1:=Pt.on_length (.lf 1 0) L
 have q2:=Pt.on_length (Pt.n1 8 (.lf 1 0)) L
 have q3:=Pt.on_length A ((Pt.n1 8 (.lf 1 0)).on L)
 have q4:=Pt.on_length (Pt.n2 3 0 [] (Pt.n1 8 (.lf 1 0)) A) L
 rw[n2_count] at q4
 rw[n1_count,lf_count] at q2 q4
 rw[lf_count] at q1
 have p1:=putLeafI ns L 1 0 (by omega)
 have p2:=eachI_fn ns L (.lf 1 0) (by omega)
 have p3:=put2I ns L ⟨3,0,0,0,0,[]⟩ (Pt.n1 8 (.lf 1 0)) A (by omega)
 have p4:=put1I ns L ⟨10,0,0,0,0,[]⟩ (Pt.n2 3 0 [] (Pt.n1 8 (.lf 1 0)) A) (by omega)
 have hcnt:(Pt.n1 10 (Pt.n2 3 0 [] (Pt.n1 8 (.lf 1 0)) A)).count=0+1+1+A.count+1+1:=by rw[n1_count,n2_count,n1_count,lf_count]<;>omega
 rw[hcnt]
 clear hcnt
 unfold CloI at hA
 refine FunQ.intro Tryz.func56 rfl (by kernel_rfl) rfl ?_
 unfold Go.Proofs.YtmmjbpgdkokjgaaGreatDoor.loI
 repeat'(first|refine W.dre' (id:=6) [3,4,6] (fun f=>bif bt f 4 then [.pv [.d (nodesD ns),.og 1 (0+1+1)],.x (neC (((Pt.n1 8 (.lf 1 0)).on L).map coN) none) (0+1+1),.pv [.lp 0 0],.pv [.d (namesD names)],.pv (n.row.map .d),.pv [.lp 0 0],.pv [.d (dI 3),.d (dI (plc ((Pt.n1 8 (.lf 1 0)).on L))),.d (dI 0),.d (dI 0),.d (dI 0),.d (.nl 5)],.dead] else bif bt f 2 then [.pv [.d (nodesD ns),.og 1 (0+1+1)],.x (neC (((Pt.n1 8 (.lf 1 0)).on L).map coN) none) (0+1+1),.pv [.lp 0 0],.pv [.d (namesD names)],.pv (n.row.map .d),.pv [.lp 0 0],.pv [.d (dI 3),.d (dI 0),.d (dI 0),.d (dI 0),.d (dI 0),.d (.nl 5)],.dead] else bif bt f 1 then [.pv [.d (nodesD ns),.og 1 (0+1)],.x (neC (((Pt.lf 1 0).on L).map coN) none) (0+1),.pv [.lp 0 0],.pv [.d (namesD names)],.pv (n.row.map .d),.pv [.lp 0 0],.pv [.d (dI 3),.d (dI 0),.d (dI 0),.d (dI 0),.d (dI 0),.d (.nl 5)],.dead] else [.pv [.d (nodesD ns),.og 1 (0)],.x (neC (L.map coN) none) (0),.pv [.lp 0 0],.pv [.d (namesD names)],.pv (n.row.map .d),.pv [.lp 0 0],.pv [.d (dI 3),.d (dI 0),.d (dI 0),.d (dI 0),.d (dI 0),.d (.nl 5)]]) [(0,[0,1]),(0,[0]),(0,[0]),(1,[0]),(2,[1]),(0,[3]),(4,[3])] [.pv [.d (nodesD ns),.og 1 (0+1+1)],.x (neC (((Pt.n1 8 (.lf 1 0)).on L).map coN) none) (0+1+1),.pv [.lp 0 0],.pv [.d (namesD names)],.pv (n.row.map .d),.pv [.lp 0 0],.pv [.d (dI 3),.d (dI (plc ((Pt.n1 8 (.lf 1 0)).on L))),.d (dI 0),.d (dI 0),.d (dI 0),.d (.nl 5)],.dead] ?_|refine W.dre' (id:=8) [3,5] (fun f=>bif bt f 2 then [.pv [.d (nodesD ns),.og 1 (0+1+1+A.count+1+1)],.x (neC (((Pt.n1 10 (Pt.n2 3 0 [] (Pt.n1 8 (.lf 1 0)) A)).on L).map coN) none) (0+1+1+A.count+1+1),.pv [.lp 0 0],.pv [.d (namesD names)],.pv (n.row.map .d),.pv [.lp 0 0],.pv [.d (dI 3),.d (dI (plc ((Pt.n1 8 (.lf 1 0)).on L))),.d (dI (plc (A.on ((Pt.n1 8 (.lf 1 0)).on L)))),.d (dI 0),.d (dI 0),.d (.nl 5)],.dead,.dead,.dead] else bif bt f 1 then [.pv [.d (nodesD ns),.og 1 (0+1+1+A.count+1)],.x (neC (((Pt.n2 3 0 [] (Pt.n1 8 (.lf 1 0)) A).on L).map coN) none) (0+1+1+A.count+1),.pv [.lp 0 0],.pv [.d (namesD names)],.pv (n.row.map .d),.pv [.lp 0 0],.pv [.d (dI 3),.d (dI (plc ((Pt.n1 8 (.lf 1 0)).on L))),.d (dI (plc (A.on ((Pt.n1 8 (.lf 1 0)).on L)))),.d (dI 0),.d (dI 0),.d (.nl 5)],.dead,.dead] else [.pv [.d (nodesD ns),.og 1 (0+1+1+A.count)],.x (neC ((A.on ((Pt.n1 8 (.lf 1 0)).on L)).map coN) none) (0+1+1+A.count),.pv [.lp 0 0],.pv [.d (namesD names)],.pv (n.row.map .d),.pv [.lp 0 0],.pv [.d (dI 3),.d (dI (plc ((Pt.n1 8 (.lf 1 0)).on L))),.d (dI (plc (A.on ((Pt.n1 8 (.lf 1 0)).on L)))),.d (dI 0),.d (dI 0),.d (.nl 5)],.dead]) [(0,[0,1]),(0,[0]),(0,[0]),(1,[0]),(0,[1]),(2,[1]),(0,[3])] [.pv [.d (nodesD ns),.og 1 (0+1+1+A.count+1+1)],.x (neC (((Pt.n1 10 (Pt.n2 3 0 [] (Pt.n1 8 (.lf 1 0)) A)).on L).map coN) none) (0+1+1+A.count+1+1),.pv [.lp 0 0],.pv [.d (namesD names)],.pv (n.row.map .d),.pv [.lp 0 0],.pv [.d (dI 3),.d (dI (plc ((Pt.n1 8 (.lf 1 0)).on L))),.d (dI (plc (A.on ((Pt.n1 8 (.lf 1 0)).on L)))),.d (dI 0),.d (dI 0),.d (.nl 5)],.dead,.dead,.dead] ?_|refine WE.mkd (.d (dI (plc ((Pt.lf 1 0).on L)))) ?_ (.c (OpS1.cqA (E:=env) 22 5 5 132 [0,1,7] [0,0,0] rfl rfl (p1) rfl rfl (by simp) rfl rfl rfl rfl rfl rfl ⟨rfl,rfl,rfl,trivial⟩ rfl rfl rfl) .n)|refine WE.mkd (.d (dI (plc ((Pt.n1 8 (.lf 1 0)).on L)))) ?_ (.c (OpS1.cqM (E:=env) [0,1] [0,0+1] rfl rfl p2 rfl rfl rfl rfl rfl rfl rfl ⟨rfl,rfl,trivial⟩ rfl rfl rfl) .n)|refine WE.mkd (.d (dI (plc ((Pt.n2 3 0 [] (Pt.n1 8 (.lf 1 0)) A).on L)))) ?_ (.c (OpS1.cqA (E:=env) 31 5 5 132 [0,1,8] [0,0+1+1+A.count,0] rfl rfl (p3) rfl rfl (by simp) rfl rfl rfl rfl rfl rfl ⟨rfl,rfl,rfl,trivial⟩ rfl rfl rfl) .n)|refine WE.mkd (.d (dI (plc ((Pt.n1 10 (Pt.n2 3 0 [] (Pt.n1 8 (.lf 1 0)) A)).on L)))) ?_ (.c (OpS1.cqA (E:=env) 33 5 5 132 [0,1,9] [0,0+1+1+A.count+1,0] rfl rfl (p4) rfl rfl (by simp) rfl rfl rfl rfl rfl rfl ⟨rfl,rfl,rfl,trivial⟩ rfl rfl rfl) .n)|refine WE.bd' ?_|refine Z2 ?_|refine Z1 ?_|refine WG.cq (E:=env) (t':=.d (dI (plc (A.on ((Pt.n1 8 (.lf 1 0)).on L))))) (ob2:=[.pv [.d (nodesD ns),.og 1 (0+1+1+A.count)],.x (neC ((A.on ((Pt.n1 8 (.lf 1 0)).on L)).map coN) none) (0+1+1+A.count),.pv [.lp 0 0],.pv [.d (namesD names)],.pv (n.row.map .d),.pv [.lp 0 0],.pv [.d (dI 3),.d (dI (plc ((Pt.n1 8 (.lf 1 0)).on L))),.d (dI 0),.d (dI 0),.d (dI 0),.d (.nl 5)],.dead]) [0,1,2,3,4] [0,0+1+1,0,0,0] false rfl rfl hA rfl rfl rfl rfl rfl rfl rfl ⟨rfl,rfl,rfl,rfl,rfl,trivial⟩ (.inl rfl) rfl (fun h=>nomatch h) rfl rfl ?_|fail)
 refine W.ret ?_
 exact RetR.own (ob':=loI ns ((Pt.n1 10 (Pt.n2 3 0 [] (Pt.n1 8 (.lf 1 0)) A)).on L) (0+1+1+A.count+1+1)++envA names n) ⟨[0,1,2,3,4],[0,0,0,0,0],10⟩ (.inl rfl) rfl rO rfl rfl rfl rfl rfl rfl ⟨by simp[Ob.ren,Rn.of,Rn.ix,T.renL,T.ren]<;>rfl,by simp[Ob.ren,Rn.of,Rn.ix,T.renL,T.ren]<;>rfl,rfl,rfl,rfl,trivial⟩ rfl ⟨rfl,rfl⟩
theorem callOneRange_fn (ns:List Nd)(n:Nd)(names:List ByteArray)(A:Pt)(L:List Co)(t:ByteArray)(t1:t≠selectS)(t2:t≠mapS)(hA:CloI ns 43 [.lp 2 0,.lp 4 0,.lp 3 0] (envA names n) A L)(hl:L.length+A.count≤90000):
 FunQ env.P 56 [.lp 0 0,.d (dS t),.clo 43 [.lp 2 0,.lp 4 0,.lp 3 0]] (loI ns L 0++envA names n) (just (.d (dI (plc ((Pt.n2 3 0 [] A (Pt.n1 8 (.lf 16 6))).on L)))) (loI ns ((Pt.n2 3 0 [] A (Pt.n1 8 (.lf 16 6))).on L) ((Pt.n2 3 0 [] A (Pt.n1 8 (.lf 16 6))).count)++envA names n)):=by
 have q1:=Pt.on_length A L
 have q2:=Pt.on_length (.lf 16 6) (A.on L)
 have q3:=Pt.on_length (Pt.n1 8 (.lf 16 6)) (A.on L)
 rw[n1_count,lf_count] at q3
 rw[lf_count] at q2
 have p1:=doI_fn ns (A.on L) 6 (by omega)
 have p2:=eachI_fn ns (A.on L) (.lf 16 6) (by omega)
 have p3:=put2I ns L ⟨3,0,0,0,0,[]⟩ A (Pt.n1 8 (.lf 16 6)) (by omega)
 have hcnt:(Pt.n2 3 0 [] A (Pt.n1 8 (.lf 16 6))).count=0+A.count+1+1+1:=by rw[n2_count,n1_count,lf_count]<;>omega
 rw[hcnt]
 clear hcnt
 unfold CloI at hA
 refine FunQ.intro Tryz.func56 rfl (by kernel_rfl) rfl ?_
 unfold Go.Proofs.YtmmjbpgdkokjgaaGreatDoor.loI
 repeat'(first|refine W.dre' (id:=11) [2,3,5] (fun f=>bif bt f 4 then [.pv [.d (nodesD ns),.og 1 (0+A.count+1+1)],.x (neC (((Pt.n1 8 (.lf 16 6)).on (A.on L)).map coN) none) (0+A.count+1+1),.pv [.lp 0 0],.pv [.d (namesD names)],.pv (n.row.map .d),.pv [.lp 0 0],.pv [.d (dI 3),.d (dI (plc (A.on L))),.d (dI (plc ((Pt.n1 8 (.lf 16 6)).on (A.on L)))),.d (dI 0),.d (dI 0),.d (.nl 5)]] else bif bt f 2 then [.pv [.d (nodesD ns),.og 1 (0+A.count+1+1)],.x (neC (((Pt.n1 8 (.lf 16 6)).on (A.on L)).map coN) none) (0+A.count+1+1),.pv [.lp 0 0],.pv [.d (namesD names)],.pv (n.row.map .d),.pv [.lp 0 0],.pv [.d (dI 3),.d (dI (plc (A.on L))),.d (dI 0),.d (dI 0),.d (dI 0),.d (.nl 5)]] else bif bt f 1 then [.pv [.d (nodesD ns),.og 1 (0+A.count+1)],.x (neC (((Pt.lf 16 6).on (A.on L)).map coN) none) (0+A.count+1),.pv [.lp 0 0],.pv [.d (namesD names)],.pv (n.row.map .d),.pv [.lp 0 0],.pv [.d (dI 3),.d (dI (plc (A.on L))),.d (dI 0),.d (dI 0),.d (dI 0),.d (.nl 5)]] else [.pv [.d (nodesD ns),.og 1 (0+A.count)],.x (neC ((A.on L).map coN) none) (0+A.count),.pv [.lp 0 0],.pv [.d (namesD names)],.pv (n.row.map .d),.pv [.lp 0 0],.pv [.d (dI 3),.d (dI (plc (A.on L))),.d (dI 0),.d (dI 0),.d (dI 0),.d (.nl 5)]]) [(0,[0,1]),(0,[0]),(1,[0]),(2,[1]),(0,[3]),(4,[3])] [.pv [.d (nodesD ns),.og 1 (0+A.count+1+1)],.x (neC (((Pt.n1 8 (.lf 16 6)).on (A.on L)).map coN) none) (0+A.count+1+1),.pv [.lp 0 0],.pv [.d (namesD names)],.pv (n.row.map .d),.pv [.lp 0 0],.pv [.d (dI 3),.d (dI (plc (A.on L))),.d (dI (plc ((Pt.n1 8 (.lf 16 6)).on (A.on L)))),.d (dI 0),.d (dI 0),.d (.nl 5)]] ?_|refine WE.mkd (.d (dI (plc ((Pt.lf 16 6).on (A.on L))))) ?_ (.c (OpS1.cqM (E:=env) [0,1] [0,0+A.count] rfl rfl p1 rfl rfl rfl rfl rfl rfl rfl ⟨rfl,rfl,trivial⟩ rfl rfl rfl) .n)|refine WE.mkd (.d (dI (plc ((Pt.n1 8 (.lf 16 6)).on (A.on L))))) ?_ (.c (OpS1.cqM (E:=env) [0,1] [0,0+A.count+1] rfl rfl p2 rfl rfl rfl rfl rfl rfl rfl ⟨rfl,rfl,trivial⟩ rfl rfl rfl) .n)|refine Z2 ?_|refine Z1 ?_|refine WG.cq (E:=env) (t':=.d (dI (plc (A.on L)))) (ob2:=[.pv [.d (nodesD ns),.og 1 (0+A.count)],.x (neC ((A.on L).map coN) none) (0+A.count),.pv [.lp 0 0],.pv [.d (namesD names)],.pv (n.row.map .d),.pv [.lp 0 0],.pv [.d (dI 3),.d (dI 0),.d (dI 0),.d (dI 0),.d (dI 0),.d (.nl 5)]]) [0,1,2,3,4] [0,0,0,0,0] false rfl rfl hA rfl rfl rfl rfl rfl rfl rfl ⟨rfl,rfl,rfl,rfl,rfl,trivial⟩ (.inl rfl) rfl (fun h=>nomatch h) rfl rfl ?_|refine WG.adoptD 45 5 5 132 rfl rfl rfl ?_|refine WG.loT (R:=[_,_,_,_,_]) (v:=[]) rfl rfl p3 rfl rfl ?_|fail|((refine SP (fun h=>?_) fun h=>?_)<;>(try(exfalso;first|contradiction|omega))))
 all_goals first|(exfalso;contradiction)|skip
 refine W.ret ?_
 exact RetR.own (ob':=loI ns ((Pt.n2 3 0 [] A (Pt.n1 8 (.lf 16 6))).on L) (0+A.count+1+1+1)++envA names n) ⟨[0,1,2,3,4],[0,0,0,0,0],8⟩ (.inl rfl) rfl rO rfl rfl rfl rfl rfl rfl ⟨by simp[Ob.ren,Rn.of,Rn.ix,T.renL,T.ren]<;>rfl,by simp[Ob.ren,Rn.of,Rn.ix,T.renL,T.ren]<;>rfl,rfl,rfl,rfl,trivial⟩ rfl ⟨rfl,rfl⟩
theorem plainM_fn (op:Int):Fun env.P 41 [dI op] (.d (dI (plainM op))) []:=by
 refine Fun.intro Tryz.func41 rfl (by kernel_rfl) rfl ?_
 repeat'(first|refine Z1 ?_|((refine SP (fun h=>?_) fun h=>?_)<;>(try(exfalso;first|contradiction|omega))))
 all_goals (refine W.ret ?_;(first|refine RetQ.i' ?_))
 all_goals simp [plainM, *]
theorem textLw_fn (s:ByteArray):Fun env.P 47 [dS s] (.d (.agg (V.mk 4 0 s [] []).rowP)) []:=by
 refine Fun.intro Tryz.func47 rfl (by kernel_rfl) rfl ?_
 repeat'(first|refine Z1 ?_)
 (refine W.ret ?_;(first|refine RetQ.d' ?_))
 rfl
theorem sizeNm_fn (names:List ByteArray):Fun env.P 101 [namesD names] (.d (dI names.length)) []:=by
 have hl:(names.map txtRow).length=names.length:=by simp
 refine Fun.intro Tryz.func101 rfl (by kernel_rfl) rfl ?_
 repeat'(first|refine Z1 ?_)
 (refine W.ret ?_;(first|refine RetQ.i' ?_))
 rw[hl]
theorem cellsTxt_fn (t:ByteArray)(h:okText t=true):Fun env.P 102 [.agg (V.mk 4 0 t [] []).rowP] (.og 0 0) [.gr 5 132 ((cellT t).map Cell.row) 0 false]:=
 cellsP_fn 1 (V.mk 4 0 t [] []) (by simp[V.count,V.counts]) (by omega) ⟨⟨by decide,by decide⟩,fun h=>absurd rfl h,fun _=>rfl,fun h=>absurd rfl h,by decide,h,fun h=>absurd h (by decide),fun _=>rfl,(fun _ h=>by cases h),trivial,trivial⟩
theorem cellsNum_fn (n:Int)(h:0≤n∧n≤1000000000000000):Fun env.P 102 [.agg (V.mk 3 n noS [] []).rowP] (.og 0 0) [.gr 5 132 ((cellN n).map Cell.row) 0 false]:=
 cellsP_fn 1 (V.mk 3 n noS [] []) (by simp[V.count,V.counts]) (by omega) ⟨⟨by decide,by decide⟩,fun _=>rfl,fun h=>absurd rfl h,fun h=>absurd rfl h,by omega,rfl,fun h=>absurd h (by decide),fun _=>rfl,(fun _ h=>by cases h),trivial,trivial⟩
def PutP (ns:List Nd)(L:List Co)(kids:List Pt)(op a b c:Int)(L':List Co)(w:Nat):Prop:=
 ∀(num:Int) (val:List Cell),FunQ env.P 103 (putA op a b c num) (putO ns L' val) (just (.d (dI (plc ((Pt.mk ⟨op,0,0,0,num,val⟩ kids).on L)))) (loI ns ((Pt.mk ⟨op,0,0,0,num,val⟩ kids).on L) 1++[.dead]))∧(Pt.mk ⟨op,0,0,0,num,val⟩ kids).count=w+1
theorem plainI_fn {ns:List Nd}{n:Nd}{names:List ByteArray}{A B C:List ByteArray→Pt}{ca cb cc:Nat}(hA:1≤arN n.op→GoI ns n.a A ca)(hB:2≤arN n.op→GoI ns n.b B cb)(hC:3≤arN n.op→GoI ns n.c C cc)(htx:n.op=17→okText n.text=true)(L:List Co)
 (hnl:names.length+((if 1≤arN n.op then ca else 0)+(if 2≤arN n.op then cb else 0)+(if 3≤arN n.op then cc else 0)+1)≤10000) (hl:L.length+5*((if 1≤arN n.op then ca else 0)+(if 2≤arN n.op then cb else 0)+(if 3≤arN n.op then cc else 0)+1)≤5000):
 FunQ env.P 42 [.lp 0 0,.d (dI (plainM n.op)),.d (.agg n.row),.d (namesD names)] (loI ns L 0)
  (just (.d (dI (plc ((Pt.mk (plainN n names) ([A (inT n 0 names),B (inT n 1 names),C (inT n 2 names)].take (arN n.op))).on L)))) (loI ns ((Pt.mk (plainN n names) ([A (inT n 0 names),B (inT n 1 names),C (inT n 2 names)].take (arN n.op))).on L) (Pt.mk (plainN n names) ([A (inT n 0 names),B (inT n 1 names),C (inT n 2 names)].take (arN n.op))).count)):=by
 have hr3:=arN_le n.op
 have hnm:=named_fn n
 have hlen:=named_length n
 have hlm:(n.named.map intRow).length=n.named.length:=by simp
 have hnd:n.named=[n.a,n.b,n.c].take (arN n.op):=rfl
 have hsz:=sizeNm_fn names
 have htp:=textLw_fn n.text
 have hcl:=cloneNs_fn names (by omega)
 have hi0:inT n 0 names=names:=by unfold inT;rw[if_neg (by omega)]
 have hi1:n.op=20→inT n 1 names=names++[n.text]:=fun h=>by unfold inT;rw[if_pos (.inl ⟨h,rfl⟩)]
 have hj1:n.op≠20→inT n 1 names=names:=fun h=>by unfold inT;rw[if_neg (by omega)]
 have hi2:n.op=19→inT n 2 names=names++[n.text]:=fun h=>by unfold inT;rw[if_pos (.inr ⟨h,rfl⟩)]
 have hj2:n.op≠19→inT n 2 names=names:=fun h=>by unfold inT;rw[if_neg (by omega)]
 have hin: ∀i,(inT n i names).length≤names.length+1:=fun i=>by unfold inT;split<;>simp
 have hN:plainN n names=⟨plainM n.op,0,0,0,if n.op=10 then n.num else if n.op=19∨n.op=20 then names.length else if n.op=21 then slotM names n.text else 0,if n.op=17 then cellT n.text else []⟩:=rfl
 have hbs:(.sl 1 (names.map txtRow++[[dS n.text]]):D)=namesD (names++[n.text]):=by simp[namesD]
 rw[hN]
 clear hN
 generalize hnum:(if n.op=10 then n.num else if n.op=19∨n.op=20 then(names.length:Int) else if n.op=21 then slotM names n.text else 0)=num
 generalize hval:(if n.op=17 then cellT n.text else [])=val
 replace hnum:=hnum.symm
 replace hval:=hval.symm
 generalize plainM n.op=p at*
 generalize arN n.op=r at*
 generalize n.named=nl at*
 have q0:1≤r→nl.getD (Int.toNat 0) default=n.a:=fun h=>by
  rw[hnd];obtain⟨r',rfl⟩: ∃r',r=r'+1:=⟨r - 1,by omega⟩;rfl
 have q1:2≤r→nl.getD (Int.toNat 1) default=n.b:=fun h=>by
  rw[hnd];obtain⟨r',rfl⟩: ∃r',r=r'+2:=⟨r - 2,by omega⟩;rfl
 have q2:3≤r→nl.getD (Int.toNat 2) default=n.c:=fun h=>by
  rw[hnd];obtain⟨r',rfl⟩: ∃r',r=r'+3:=⟨r - 3,by omega⟩;rfl
 have b0:L.length+5≤5000:=by omega
 have hnb:names.length≤10000:=by omega
 have b1:1≤r→names.length+ca+1≤10000∧L.length+5*ca+5≤5000:=fun h=>by
  rw[if_pos h] at hnl hl;omega
 have b2:2≤r→names.length+ca+cb+1≤10000∧L.length+5*ca+5*cb+5≤5000:=fun h=>by
  rw[if_pos (show 1≤r by omega),if_pos h] at hnl hl;omega
 have b3:3≤r→names.length+ca+cb+cc+1≤10000∧L.length+5*ca+5*cb+5*cc+5≤5000:=fun h=>by
  rw[if_pos (show 1≤r by omega),if_pos (show 2≤r by omega),if_pos h] at hnl hl;omega
 clear hnl hl hnd
 have k0:=hin 0
 have k1:=hin 1
 have k2:=hin 2
 have gA:1≤r→FunQ env.P 16 [.lp 0 0,.d (dI (nl.getD (Int.toNat 0) default)),.d (namesD (inT n 0 names))] (loI ns L 0) (just (.d (dI (plc ((A (inT n 0 names)).on L)))) (loI ns ((A (inT n 0 names)).on L) (A (inT n 0 names)).count))∧(A (inT n 0 names)).count≤5*ca:=fun h=>by
  have g:=hA h
  have:=b1 h
  rw[q0 h]
  exact⟨g.2 _ L (by omega) (by omega),g.1 _⟩
 have gB:2≤r→FunQ env.P 16 [.lp 0 0,.d (dI (nl.getD (Int.toNat 1) default)),.d (namesD (inT n 1 names))] (loI ns ((A (inT n 0 names)).on L) 0) (just (.d (dI (plc ((B (inT n 1 names)).on ((A (inT n 0 names)).on L))))) (loI ns ((B (inT n 1 names)).on ((A (inT n 0 names)).on L)) (B (inT n 1 names)).count))∧(B (inT n 1 names)).count≤5*cb:=fun h=>by
  have g:=hB h
  have:=b2 h
  have:=(gA (by omega)).2
  have:=Pt.on_length (A (inT n 0 names)) L
  rw[q1 h]
  exact⟨g.2 _ _ (by omega) (by omega),g.1 _⟩
 have gC:3≤r→FunQ env.P 16 [.lp 0 0,.d (dI (nl.getD (Int.toNat 2) default)),.d (namesD (inT n 2 names))] (loI ns ((B (inT n 1 names)).on ((A (inT n 0 names)).on L)) 0) (just (.d (dI (plc ((C (inT n 2 names)).on ((B (inT n 1 names)).on ((A (inT n 0 names)).on L)))))) (loI ns ((C (inT n 2 names)).on ((B (inT n 1 names)).on ((A (inT n 0 names)).on L))) (C (inT n 2 names)).count))∧(C (inT n 2 names)).count≤5*cc:=fun h=>by
  have g:=hC h
  have:=b3 h
  have:=(gA (by omega)).2
  have:=(gB (by omega)).2
  have:=Pt.on_length (A (inT n 0 names)) L
  have:=Pt.on_length (B (inT n 1 names)) ((A (inT n 0 names)).on L)
  rw[q2 h]
  exact⟨g.2 _ _ (by omega) (by omega),g.1 _⟩
 clear hA hB hC k0 k1 k2 hin
 rw[hi0] at*
 generalize A names=P0 at*
 generalize B (inT n 1 names)=P1 at*
 generalize C (inT n 2 names)=P2 at*
 have l1:=Pt.on_length P0 L
 have l2:=Pt.on_length P1 (P0.on L)
 have l3:=Pt.on_length P2 (P1.on (P0.on L))
 refine FunQ.intro Tryz.func42 rfl (by kernel_rfl) rfl ?_
 unfold Go.Proofs.YtmmjbpgdkokjgaaGreatDoor.loI
 repeat'(first|refine W.stopAt 1 ?_|refine Z1 ?_|fail|((refine SP (fun h=>?_) fun h=>?_)<;>(try(exfalso;first|contradiction|omega))))
 refine⟨?_⟩
 refine W.rg ?_
 refine WG.runN (E:=env) 2 ?_
 repeat'(first|refine W.stopAt 3 ?_|refine WG.bsP (E:=env) rfl rfl rfl rfl rfl rfl rfl rfl rfl rfl rfl rfl ?_|refine WG.ixPs (E:=env) rfl rfl rfl rfl rfl rfl rfl ⟨by decide,by decide⟩ ?_|refine Z1 ?_|fail|((refine SP (fun h=>?_) fun h=>?_)<;>(try(exfalso;first|contradiction|omega))))
 refine⟨?_⟩
 refine W.imp (St.imp.of_le (S':=⟨ofL [(0,.lp 0 0),(3,.d (namesD names)),(6,.lp 2 0),(9,.lp 4 0),(10,.ps 3 3)],[.pv [.d (nodesD ns),.og 1 (0)],.x (neC (L.map coN) none) (0),.pv (n.row.map .d),.pv [.lp 4 1,.lp 4 2,.lp 4 3],.pv [.d (dI p),.d (dI 0),.d (dI 0),.d (dI 0),.d (dI 0),.d (.nl 5)]]⟩) (by(refine le_ofL rfl ?_ ?_<;>(repeat(first|exact trivial|refine⟨⟨rfl,rfl⟩,?_⟩|refine⟨rfl,.inl rfl,?_⟩|refine⟨rfl,.inr rfl,?_⟩))))) ?_
 repeat'(first|refine Z1 ?_|refine WG.c (E:=env) rfl rfl (hnm) rfl rfl ?_|((refine SP (fun h=>?_) fun h=>?_)<;>(try(exfalso;first|contradiction|omega))))
 refine W.loopI (fun m S=> ∃i:Nat,m=r - i∧i≤r∧((i=0∧S=⟨ofL [(0,.lp 0 0),(3,.d (namesD names)),(6,.lp 2 0),(9,.lp 4 0),(10,.ps 3 3),(29,.d (.sl 1 (nl.map intRow))),(30,vI .i64 (nl.map intRow).length),(31,vI .i64 0)],[.pv [.d (nodesD ns),.og 1 (0)],.x (neC (L.map coN) none) (0),.pv (n.row.map .d),.pv [.lp 4 1,.lp 4 2,.lp 4 3],.pv [.d (dI p),.d (dI 0),.d (dI 0),.d (dI 0),.d (dI 0),.d (.nl 5)]]⟩)∨(i=1∧S=⟨ofL [(0,.lp 0 0),(3,.d (namesD names)),(6,.lp 2 0),(9,.lp 4 0),(10,.ps 3 3),(29,.d (.sl 1 (nl.map intRow))),(30,vI .i64 (nl.map intRow).length),(31,vI .i64 1)],[.pv [.d (nodesD ns),.og 1 (0+P0.count)],.x (neC ((P0.on L).map coN) none) (0+P0.count),.pv (n.row.map .d),.pv [.lp 4 1,.lp 4 2,.lp 4 3],.pv [.d (dI p),.d (dI (plc (P0.on L))),.d (dI 0),.d (dI 0),.d (dI 0),.d (.nl 5)]]⟩)∨(i=2∧S=⟨ofL [(0,.lp 0 0),(3,.d (namesD names)),(6,.lp 2 0),(9,.lp 4 0),(10,.ps 3 3),(29,.d (.sl 1 (nl.map intRow))),(30,vI .i64 (nl.map intRow).length),(31,vI .i64 2)],[.pv [.d (nodesD ns),.og 1 (0+P0.count+P1.count)],.x (neC ((P1.on (P0.on L)).map coN) none) (0+P0.count+P1.count),.pv (n.row.map .d),.pv [.lp 4 1,.lp 4 2,.lp 4 3],.pv [.d (dI p),.d (dI (plc (P0.on L))),.d (dI (plc (P1.on (P0.on L)))),.d (dI 0),.d (dI 0),.d (.nl 5)]]⟩)∨(i=3∧S=⟨ofL [(0,.lp 0 0),(3,.d (namesD names)),(6,.lp 2 0),(9,.lp 4 0),(10,.ps 3 3),(29,.d (.sl 1 (nl.map intRow))),(30,vI .i64 (nl.map intRow).length),(31,vI .i64 3)],[.pv [.d (nodesD ns),.og 1 (0+P0.count+P1.count+P2.count)],.x (neC ((P2.on (P1.on (P0.on L))).map coN) none) (0+P0.count+P1.count+P2.count),.pv (n.row.map .d),.pv [.lp 4 1,.lp 4 2,.lp 4 3],.pv [.d (dI p),.d (dI (plc (P0.on L))),.d (dI (plc (P1.on (P0.on L)))),.d (dI (plc (P2.on (P1.on (P0.on L))))),.d (dI 0),.d (.nl 5)]]⟩))) _ _ ⟨0,rfl,by omega,.inl ⟨rfl,rfl⟩⟩ (St.imp.of_le lE) ?_
 rintro m S ⟨i,rfl,hi,hS⟩
 by_cases hir:i<r
 ·rcases hS with⟨rfl,rfl⟩|⟨rfl,rfl⟩|⟨rfl,rfl⟩|⟨rfl,rfl⟩
  ·have gA:=gA (by omega)
   repeat'(first|(refine W.dre' (id:=9) [7,9] (fun f=>bif bt f 2 then [.pv [.d (nodesD ns),.og 1 (0+P0.count)],.x (neC ((P0.on L).map coN) none) (0+P0.count),.pv (n.row.map .d),.pv [.lp 4 1,.lp 4 2,.lp 4 3],.pv [.d (dI p),.d (dI (plc (P0.on L))),.d (dI 0),.d (dI 0),.d (dI 0),.d (.nl 5)]] else bif bt f 1 then [.pv [.d (nodesD ns),.og 1 (0+P0.count)],.x (neC ((P0.on L).map coN) none) (0+P0.count),.pv (n.row.map .d),.pv [.lp 4 1,.lp 4 2,.lp 4 3],.pv [.d (dI p),.d (dI 0),.d (dI 0),.d (dI 0),.d (dI 0),.d (.nl 5)]] else [.pv [.d (nodesD ns),.og 1 (0)],.x (neC (L.map coN) none) (0),.pv (n.row.map .d),.pv [.lp 4 1,.lp 4 2,.lp 4 3],.pv [.d (dI p),.d (dI 0),.d (dI 0),.d (dI 0),.d (dI 0),.d (.nl 5)]]) [(0,[0,1]),(0,[0,1]),(0,[0,1]),(0,[0,1]),(0,[0]),(0,[0]),(0,[0]),(1,[0]),(0,[1]),(2,[1])] [.pv [.d (nodesD ns),.og 1 (0+P0.count)],.x (neC ((P0.on L).map coN) none) (0+P0.count),.pv (n.row.map .d),.pv [.lp 4 1,.lp 4 2,.lp 4 3],.pv [.d (dI p),.d (dI (plc (P0.on L))),.d (dI 0),.d (dI 0),.d (dI 0),.d (.nl 5)]] ?_)|refine Z2 ?_|refine WE.s' (E:=env) (t:=.ps _ _) ?_|refine WE.mkd (.lp 3 0) ?_ (.c (OpS1.ixPs (E:=env) (i:=0) rfl rfl rfl rfl rfl rfl rfl ⟨by decide,by decide⟩) (.c (OpS1.ixPs (E:=env) (i:=0) rfl rfl rfl rfl rfl rfl rfl ⟨by decide,by decide⟩) .n))|refine WE.mkd (.d (dI (plc (P0.on L)))) ?_ (.c (OpS1.cqM (E:=env) [0,1] [0,0] rfl rfl (gA.1) rfl rfl rfl rfl rfl rfl rfl ⟨rfl,rfl,trivial⟩ rfl rfl rfl) .n)|refine Z1 ?_|fail|((refine SP (fun h=>?_) fun h=>?_)<;>(try(exfalso;first|contradiction|omega))))
   all_goals first|(exfalso;omega)|skip
   all_goals exact ⟨_,_,by omega,⟨1,rfl,by omega,.inr (.inl ⟨rfl,rfl⟩)⟩,(St.imp.of_le lE)⟩
  ·have gB:=gB (by omega)
   have gA:=gA (by omega)
   by_cases hb:n.op=20
   ·have e1:=hi1 hb
    rw[e1,←hbs] at gB
    repeat'(first|(refine W.dre' (id:=8) [1,5] (fun f=>bif bt f 2 then [.pv [.d (nodesD ns),.og 1 (0+P0.count)],.x (neC ((P0.on L).map coN) none) (0+P0.count),.pv (n.row.map .d),.pv [.lp 4 1,.lp 4 2,.lp 4 3],.pv [.d (dI p),.d (dI (plc (P0.on L))),.d (dI 0),.d (dI 0),.d (dI 0),.d (.nl 5)],.gr 1 9 (names.map txtRow++[[dS n.text]]) 1 false] else bif bt f 1 then [.pv [.d (nodesD ns),.og 1 (0+P0.count)],.x (neC ((P0.on L).map coN) none) (0+P0.count),.pv (n.row.map .d),.pv [.lp 4 1,.lp 4 2,.lp 4 3],.pv [.d (dI p),.d (dI (plc (P0.on L))),.d (dI 0),.d (dI 0),.d (dI 0),.d (.nl 5)],.gr 1 9 (names.map txtRow) 0 false] else [.pv [.d (nodesD ns),.og 1 (0+P0.count)],.x (neC ((P0.on L).map coN) none) (0+P0.count),.pv (n.row.map .d),.pv [.lp 4 1,.lp 4 2,.lp 4 3],.pv [.d (dI p),.d (dI (plc (P0.on L))),.d (dI 0),.d (dI 0),.d (dI 0),.d (.nl 5)]]) [(0,[0]),(1,[0]),(0,[0,1]),(0,[0,1]),(0,[0,1]),(2,[1]),(0,[3])] [.pv [.d (nodesD ns),.og 1 (0+P0.count)],.x (neC ((P0.on L).map coN) none) (0+P0.count),.pv (n.row.map .d),.pv [.lp 4 1,.lp 4 2,.lp 4 3],.pv [.d (dI p),.d (dI (plc (P0.on L))),.d (dI 0),.d (dI 0),.d (dI 0),.d (.nl 5)],.gr 1 9 (names.map txtRow++[[dS n.text]]) 1 false] ?_)|refine W.pubD 5 rfl ?_|refine WE.mkd (.og 5 0) ?_ (.c (OpS1.coG rfl rfl hcl rfl rfl rfl) .n)|(refine W.dre' (id:=9) [7,9] (fun f=>bif bt f 2 then [.pv [.d (nodesD ns),.og 1 (0+P0.count+P1.count)],.x (neC ((P1.on (P0.on L)).map coN) none) (0+P0.count+P1.count),.pv (n.row.map .d),.pv [.lp 4 1,.lp 4 2,.lp 4 3],.pv [.d (dI p),.d (dI (plc (P0.on L))),.d (dI (plc (P1.on (P0.on L)))),.d (dI 0),.d (dI 0),.d (.nl 5)],.gr 1 9 (names.map txtRow++[[dS n.text]]) 1 true] else bif bt f 1 then [.pv [.d (nodesD ns),.og 1 (0+P0.count+P1.count)],.x (neC ((P1.on (P0.on L)).map coN) none) (0+P0.count+P1.count),.pv (n.row.map .d),.pv [.lp 4 1,.lp 4 2,.lp 4 3],.pv [.d (dI p),.d (dI (plc (P0.on L))),.d (dI 0),.d (dI 0),.d (dI 0),.d (.nl 5)],.gr 1 9 (names.map txtRow++[[dS n.text]]) 1 true] else [.pv [.d (nodesD ns),.og 1 (0+P0.count)],.x (neC ((P0.on L).map coN) none) (0+P0.count),.pv (n.row.map .d),.pv [.lp 4 1,.lp 4 2,.lp 4 3],.pv [.d (dI p),.d (dI (plc (P0.on L))),.d (dI 0),.d (dI 0),.d (dI 0),.d (.nl 5)],.gr 1 9 (names.map txtRow++[[dS n.text]]) 1 true]) [(0,[0,1]),(0,[0,1]),(0,[0,1]),(0,[0,1]),(0,[0]),(0,[0]),(0,[0]),(1,[0]),(0,[1]),(2,[1])] [.pv [.d (nodesD ns),.og 1 (0+P0.count+P1.count)],.x (neC ((P1.on (P0.on L)).map coN) none) (0+P0.count+P1.count),.pv (n.row.map .d),.pv [.lp 4 1,.lp 4 2,.lp 4 3],.pv [.d (dI p),.d (dI (plc (P0.on L))),.d (dI (plc (P1.on (P0.on L)))),.d (dI 0),.d (dI 0),.d (.nl 5)],.gr 1 9 (names.map txtRow++[[dS n.text]]) 1 true] ?_)|refine Z2 ?_|refine WE.s' (E:=env) (t:=.ps _ _) ?_|refine WE.mkd (.lp 3 1) ?_ (.c (OpS1.ixPs (E:=env) (i:=1) rfl rfl rfl rfl rfl rfl rfl ⟨by decide,by decide⟩) (.c (OpS1.ixPs (E:=env) (i:=1) rfl rfl rfl rfl rfl rfl rfl ⟨by decide,by decide⟩) .n))|refine WE.mkd (.d (dI (plc (P1.on (P0.on L))))) ?_ (.c (OpS1.cqM (E:=env) [0,1] [0,0+P0.count] rfl rfl (gB.1) rfl rfl rfl rfl rfl rfl rfl ⟨rfl,rfl,trivial⟩ rfl rfl rfl) .n)|refine Z1 ?_|fail|((refine SP (fun h=>?_) fun h=>?_)<;>(try(exfalso;first|contradiction|omega))))
    all_goals first|(exfalso;omega)|skip
    all_goals exact ⟨_,_,by omega,⟨2,rfl,by omega,.inr (.inr (.inl ⟨rfl,rfl⟩))⟩,(St.imp.of_le lE)⟩
   ·have e1:=hj1 hb
    rw[e1] at gB
    repeat'(first|(refine W.dre' (id:=9) [7,9] (fun f=>bif bt f 2 then [.pv [.d (nodesD ns),.og 1 (0+P0.count+P1.count)],.x (neC ((P1.on (P0.on L)).map coN) none) (0+P0.count+P1.count),.pv (n.row.map .d),.pv [.lp 4 1,.lp 4 2,.lp 4 3],.pv [.d (dI p),.d (dI (plc (P0.on L))),.d (dI (plc (P1.on (P0.on L)))),.d (dI 0),.d (dI 0),.d (.nl 5)]] else bif bt f 1 then [.pv [.d (nodesD ns),.og 1 (0+P0.count+P1.count)],.x (neC ((P1.on (P0.on L)).map coN) none) (0+P0.count+P1.count),.pv (n.row.map .d),.pv [.lp 4 1,.lp 4 2,.lp 4 3],.pv [.d (dI p),.d (dI (plc (P0.on L))),.d (dI 0),.d (dI 0),.d (dI 0),.d (.nl 5)]] else [.pv [.d (nodesD ns),.og 1 (0+P0.count)],.x (neC ((P0.on L).map coN) none) (0+P0.count),.pv (n.row.map .d),.pv [.lp 4 1,.lp 4 2,.lp 4 3],.pv [.d (dI p),.d (dI (plc (P0.on L))),.d (dI 0),.d (dI 0),.d (dI 0),.d (.nl 5)]]) [(0,[0,1]),(0,[0,1]),(0,[0,1]),(0,[0,1]),(0,[0]),(0,[0]),(0,[0]),(1,[0]),(0,[1]),(2,[1])] [.pv [.d (nodesD ns),.og 1 (0+P0.count+P1.count)],.x (neC ((P1.on (P0.on L)).map coN) none) (0+P0.count+P1.count),.pv (n.row.map .d),.pv [.lp 4 1,.lp 4 2,.lp 4 3],.pv [.d (dI p),.d (dI (plc (P0.on L))),.d (dI (plc (P1.on (P0.on L)))),.d (dI 0),.d (dI 0),.d (.nl 5)]] ?_)|refine Z2 ?_|refine WE.s' (E:=env) (t:=.ps _ _) ?_|refine WE.mkd (.lp 3 1) ?_ (.c (OpS1.ixPs (E:=env) (i:=1) rfl rfl rfl rfl rfl rfl rfl ⟨by decide,by decide⟩) (.c (OpS1.ixPs (E:=env) (i:=1) rfl rfl rfl rfl rfl rfl rfl ⟨by decide,by decide⟩) .n))|refine WE.mkd (.d (dI (plc (P1.on (P0.on L))))) ?_ (.c (OpS1.cqM (E:=env) [0,1] [0,0+P0.count] rfl rfl (gB.1) rfl rfl rfl rfl rfl rfl rfl ⟨rfl,rfl,trivial⟩ rfl rfl rfl) .n)|refine Z1 ?_|fail|((refine SP (fun h=>?_) fun h=>?_)<;>(try(exfalso;first|contradiction|omega))))
    all_goals first|(exfalso;omega)|skip
    all_goals exact ⟨_,_,by omega,⟨2,rfl,by omega,.inr (.inr (.inl ⟨rfl,rfl⟩))⟩,(St.imp.of_le lE)⟩
  ·have gC:=gC (by omega)
   have gB:=gB (by omega)
   have gA:=gA (by omega)
   by_cases hb:n.op=19
   ·have e2:=hi2 hb
    rw[e2,←hbs] at gC
    repeat'(first|(refine W.dre' (id:=8) [1,5] (fun f=>bif bt f 2 then [.pv [.d (nodesD ns),.og 1 (0+P0.count+P1.count)],.x (neC ((P1.on (P0.on L)).map coN) none) (0+P0.count+P1.count),.pv (n.row.map .d),.pv [.lp 4 1,.lp 4 2,.lp 4 3],.pv [.d (dI p),.d (dI (plc (P0.on L))),.d (dI (plc (P1.on (P0.on L)))),.d (dI 0),.d (dI 0),.d (.nl 5)],.gr 1 9 (names.map txtRow++[[dS n.text]]) 1 false] else bif bt f 1 then [.pv [.d (nodesD ns),.og 1 (0+P0.count+P1.count)],.x (neC ((P1.on (P0.on L)).map coN) none) (0+P0.count+P1.count),.pv (n.row.map .d),.pv [.lp 4 1,.lp 4 2,.lp 4 3],.pv [.d (dI p),.d (dI (plc (P0.on L))),.d (dI (plc (P1.on (P0.on L)))),.d (dI 0),.d (dI 0),.d (.nl 5)],.gr 1 9 (names.map txtRow) 0 false] else [.pv [.d (nodesD ns),.og 1 (0+P0.count+P1.count)],.x (neC ((P1.on (P0.on L)).map coN) none) (0+P0.count+P1.count),.pv (n.row.map .d),.pv [.lp 4 1,.lp 4 2,.lp 4 3],.pv [.d (dI p),.d (dI (plc (P0.on L))),.d (dI (plc (P1.on (P0.on L)))),.d (dI 0),.d (dI 0),.d (.nl 5)]]) [(0,[0]),(1,[0]),(0,[0,1]),(0,[0,1]),(0,[0,1]),(2,[1]),(0,[3])] [.pv [.d (nodesD ns),.og 1 (0+P0.count+P1.count)],.x (neC ((P1.on (P0.on L)).map coN) none) (0+P0.count+P1.count),.pv (n.row.map .d),.pv [.lp 4 1,.lp 4 2,.lp 4 3],.pv [.d (dI p),.d (dI (plc (P0.on L))),.d (dI (plc (P1.on (P0.on L)))),.d (dI 0),.d (dI 0),.d (.nl 5)],.gr 1 9 (names.map txtRow++[[dS n.text]]) 1 false] ?_)|refine W.pubD 5 rfl ?_|refine WE.mkd (.og 5 0) ?_ (.c (OpS1.coG rfl rfl hcl rfl rfl rfl) .n)|(refine W.dre' (id:=9) [7,9] (fun f=>bif bt f 2 then [.pv [.d (nodesD ns),.og 1 (0+P0.count+P1.count+P2.count)],.x (neC ((P2.on (P1.on (P0.on L))).map coN) none) (0+P0.count+P1.count+P2.count),.pv (n.row.map .d),.pv [.lp 4 1,.lp 4 2,.lp 4 3],.pv [.d (dI p),.d (dI (plc (P0.on L))),.d (dI (plc (P1.on (P0.on L)))),.d (dI (plc (P2.on (P1.on (P0.on L))))),.d (dI 0),.d (.nl 5)],.gr 1 9 (names.map txtRow++[[dS n.text]]) 1 true] else bif bt f 1 then [.pv [.d (nodesD ns),.og 1 (0+P0.count+P1.count+P2.count)],.x (neC ((P2.on (P1.on (P0.on L))).map coN) none) (0+P0.count+P1.count+P2.count),.pv (n.row.map .d),.pv [.lp 4 1,.lp 4 2,.lp 4 3],.pv [.d (dI p),.d (dI (plc (P0.on L))),.d (dI (plc (P1.on (P0.on L)))),.d (dI 0),.d (dI 0),.d (.nl 5)],.gr 1 9 (names.map txtRow++[[dS n.text]]) 1 true] else [.pv [.d (nodesD ns),.og 1 (0+P0.count+P1.count)],.x (neC ((P1.on (P0.on L)).map coN) none) (0+P0.count+P1.count),.pv (n.row.map .d),.pv [.lp 4 1,.lp 4 2,.lp 4 3],.pv [.d (dI p),.d (dI (plc (P0.on L))),.d (dI (plc (P1.on (P0.on L)))),.d (dI 0),.d (dI 0),.d (.nl 5)],.gr 1 9 (names.map txtRow++[[dS n.text]]) 1 true]) [(0,[0,1]),(0,[0,1]),(0,[0,1]),(0,[0,1]),(0,[0]),(0,[0]),(0,[0]),(1,[0]),(0,[1]),(2,[1])] [.pv [.d (nodesD ns),.og 1 (0+P0.count+P1.count+P2.count)],.x (neC ((P2.on (P1.on (P0.on L))).map coN) none) (0+P0.count+P1.count+P2.count),.pv (n.row.map .d),.pv [.lp 4 1,.lp 4 2,.lp 4 3],.pv [.d (dI p),.d (dI (plc (P0.on L))),.d (dI (plc (P1.on (P0.on L)))),.d (dI (plc (P2.on (P1.on (P0.on L))))),.d (dI 0),.d (.nl 5)],.gr 1 9 (names.map txtRow++[[dS n.text]]) 1 true] ?_)|refine Z2 ?_|refine WE.s' (E:=env) (t:=.ps _ _) ?_|refine WE.mkd (.lp 3 2) ?_ (.c (OpS1.ixPs (E:=env) (i:=2) rfl rfl rfl rfl rfl rfl rfl ⟨by decide,by decide⟩) (.c (OpS1.ixPs (E:=env) (i:=2) rfl rfl rfl rfl rfl rfl rfl ⟨by decide,by decide⟩) .n))|refine WE.mkd (.d (dI (plc (P2.on (P1.on (P0.on L)))))) ?_ (.c (OpS1.cqM (E:=env) [0,1] [0,0+P0.count+P1.count] rfl rfl (gC.1) rfl rfl rfl rfl rfl rfl rfl ⟨rfl,rfl,trivial⟩ rfl rfl rfl) .n)|refine Z1 ?_|fail|((refine SP (fun h=>?_) fun h=>?_)<;>(try(exfalso;first|contradiction|omega))))
    all_goals first|(exfalso;omega)|skip
    all_goals exact ⟨_,_,by omega,⟨3,rfl,by omega,.inr (.inr (.inr ⟨rfl,rfl⟩))⟩,(St.imp.of_le lE)⟩
   ·have e2:=hj2 hb
    rw[e2] at gC
    repeat'(first|(refine W.dre' (id:=9) [7,9] (fun f=>bif bt f 2 then [.pv [.d (nodesD ns),.og 1 (0+P0.count+P1.count+P2.count)],.x (neC ((P2.on (P1.on (P0.on L))).map coN) none) (0+P0.count+P1.count+P2.count),.pv (n.row.map .d),.pv [.lp 4 1,.lp 4 2,.lp 4 3],.pv [.d (dI p),.d (dI (plc (P0.on L))),.d (dI (plc (P1.on (P0.on L)))),.d (dI (plc (P2.on (P1.on (P0.on L))))),.d (dI 0),.d (.nl 5)]] else bif bt f 1 then [.pv [.d (nodesD ns),.og 1 (0+P0.count+P1.count+P2.count)],.x (neC ((P2.on (P1.on (P0.on L))).map coN) none) (0+P0.count+P1.count+P2.count),.pv (n.row.map .d),.pv [.lp 4 1,.lp 4 2,.lp 4 3],.pv [.d (dI p),.d (dI (plc (P0.on L))),.d (dI (plc (P1.on (P0.on L)))),.d (dI 0),.d (dI 0),.d (.nl 5)]] else [.pv [.d (nodesD ns),.og 1 (0+P0.count+P1.count)],.x (neC ((P1.on (P0.on L)).map coN) none) (0+P0.count+P1.count),.pv (n.row.map .d),.pv [.lp 4 1,.lp 4 2,.lp 4 3],.pv [.d (dI p),.d (dI (plc (P0.on L))),.d (dI (plc (P1.on (P0.on L)))),.d (dI 0),.d (dI 0),.d (.nl 5)]]) [(0,[0,1]),(0,[0,1]),(0,[0,1]),(0,[0,1]),(0,[0]),(0,[0]),(0,[0]),(1,[0]),(0,[1]),(2,[1])] [.pv [.d (nodesD ns),.og 1 (0+P0.count+P1.count+P2.count)],.x (neC ((P2.on (P1.on (P0.on L))).map coN) none) (0+P0.count+P1.count+P2.count),.pv (n.row.map .d),.pv [.lp 4 1,.lp 4 2,.lp 4 3],.pv [.d (dI p),.d (dI (plc (P0.on L))),.d (dI (plc (P1.on (P0.on L)))),.d (dI (plc (P2.on (P1.on (P0.on L))))),.d (dI 0),.d (.nl 5)]] ?_)|refine Z2 ?_|refine WE.s' (E:=env) (t:=.ps _ _) ?_|refine WE.mkd (.lp 3 2) ?_ (.c (OpS1.ixPs (E:=env) (i:=2) rfl rfl rfl rfl rfl rfl rfl ⟨by decide,by decide⟩) (.c (OpS1.ixPs (E:=env) (i:=2) rfl rfl rfl rfl rfl rfl rfl ⟨by decide,by decide⟩) .n))|refine WE.mkd (.d (dI (plc (P2.on (P1.on (P0.on L)))))) ?_ (.c (OpS1.cqM (E:=env) [0,1] [0,0+P0.count+P1.count] rfl rfl (gC.1) rfl rfl rfl rfl rfl rfl rfl ⟨rfl,rfl,trivial⟩ rfl rfl rfl) .n)|refine Z1 ?_|fail|((refine SP (fun h=>?_) fun h=>?_)<;>(try(exfalso;first|contradiction|omega))))
    all_goals first|(exfalso;omega)|skip
    all_goals exact ⟨_,_,by omega,⟨3,rfl,by omega,.inr (.inr (.inr ⟨rfl,rfl⟩))⟩,(St.imp.of_le lE)⟩
  ·exfalso;omega
 ·obtain⟨a,b,c,x,L',w,hS2,hL2,hput⟩: ∃(a b c x:Int) (L':List Co) (w:Nat),S=⟨ofL [(0,.lp 0 0),(3,.d (namesD names)),(6,.lp 2 0),(9,.lp 4 0),(10,.ps 3 3),(29,.d (.sl 1 (nl.map intRow))),(30,vI .i64 (nl.map intRow).length),(31,vI .i64 x)],[.pv [.d (nodesD ns),.og 1 w],.x (neC (L'.map coN) none) w,.pv (n.row.map .d),.pv [.lp 4 1,.lp 4 2,.lp 4 3],.pv [.d (dI p),.d (dI a),.d (dI b),.d (dI c),.d (dI (0)),.d (.nl 5)]]⟩∧x=(i:Int)∧PutP ns L ([P0,P1,P2].take r) p a b c L' w:=by
   obtain rfl:r=i:=by omega
   rcases hS with⟨rfl,rfl⟩|⟨rfl,rfl⟩|⟨rfl,rfl⟩|⟨rfl,rfl⟩
   ·exact⟨0,0,0,_,L,0,rfl,rfl,fun num val=>⟨by have:=putI_fn ns L ⟨p,0,0,0,num,val⟩ (by omega);rw[Pt.on_leaf] at this;exact this,rfl⟩⟩
   ·have gA:=gA (by omega)
    have:=b1 (by omega)
    exact⟨_,0,0,_,P0.on L,_,rfl,rfl,fun num val=>⟨put1I ns L ⟨p,0,0,0,num,val⟩ P0 (by omega),by simp[Pt.count,Pt.counts]⟩⟩
   ·have gA:=gA (by omega)
    have gB:=gB (by omega)
    have:=b2 (by omega)
    exact⟨_,_,0,_,P1.on (P0.on L),_,rfl,rfl,fun num val=>⟨put2I ns L ⟨p,0,0,0,num,val⟩ P0 P1 (by omega),by simp[Pt.count,Pt.counts]⟩⟩
   ·have gA:=gA (by omega)
    have gB:=gB (by omega)
    have gC:=gC (by omega)
    have:=b3 (by omega)
    exact⟨_,_,_,_,P2.on (P1.on (P0.on L)),_,rfl,rfl,fun num val=>⟨put3I ns L ⟨p,0,0,0,num,val⟩ P0 P1 P2 (by omega),by simp[Pt.count,Pt.counts];omega⟩⟩
  subst hS2
  clear hS gA gB gC hcl hbs hi1 hi2 hj1 hj2 q0 q1 q2 b1 b2 b3 l1 l2 l3 hnm
  generalize [P0,P1,P2].take r=kids at*
  by_cases h21:n.op=21
  ·obtain rfl:num=slotM names n.text:=by rw[hnum,if_neg (by omega),if_neg (by omega),if_pos h21]
   obtain rfl:val=[]:=by rw[hval,if_neg (by omega)]
   have hp:=hput (slotM names n.text) []
   repeat'(first|refine Z1 ?_|((refine SP (fun h=>?_) fun h=>?_)<;>(try(exfalso;first|contradiction|omega))))
   all_goals first|(exfalso;omega)|skip
   refine W.loopI (fun m S=> ∃j:Nat,m=names.length - j∧j≤names.length∧S=⟨ofL [(0,.lp 0 0),(6,.lp 2 0),(9,.lp 4 0),(84,.d (namesD names)),(85,vI .i64 (names.map txtRow).length),(86,vI .i64 j)],[.pv [.d (nodesD ns),.og 1 w],.x (neC (L'.map coN) none) w,.pv (n.row.map .d),.pv [.lp 4 1,.lp 4 2,.lp 4 3],.pv [.d (dI p),.d (dI a),.d (dI b),.d (dI c),.d (dI (slotL n.text names j)),.d (.nl 5)]]⟩) _ _ ⟨0,rfl,by omega,rfl⟩ (St.imp.of_le lE) ?_
   rintro m S ⟨j,rfl,hj,rfl⟩
   by_cases hlt:j<names.length
   ·have hs:slotL n.text names (j+1)=if names.getD (Int.toNat (j:Int)) default=n.text then(j:Int) else slotL n.text names j:=by rw[Int.toNat_natCast];rfl
    repeat'(first|refine Z1 ?_|((refine SP (fun h=>?_) fun h=>?_)<;>(try(exfalso;first|contradiction|omega))))
    all_goals first|(exfalso;omega)|skip
    ·rw[if_pos (by assumption)] at hs
     exact⟨_,_,by omega,⟨j+1,rfl,by omega,by rw[hs]⟩,(St.imp.of_le lE)⟩
    ·rw[if_neg (by assumption)] at hs
     exact⟨_,_,by omega,⟨j+1,rfl,by omega,by rw[hs]⟩,(St.imp.of_le lE)⟩
   ·obtain rfl:j=names.length:=by omega
    repeat'(first|refine Z1 ?_|refine WG.adoptD 106 5 5 132 rfl rfl rfl ?_|refine WG.loT (R:=[_,_,_]) (v:=[]) rfl rfl (hp.1) rfl rfl ?_|fail|((refine SP (fun h=>?_) fun h=>?_)<;>(try(exfalso;first|contradiction|omega))))
    all_goals first|(exfalso;omega)|skip
    all_goals (refine W.ret ?_;exact RetR.loI (.inl rfl) rfl rO rfl rfl rfl hp.2.symm rfl _ (Nat.le_of_ble_eq_true rfl))
  ·by_cases h17:n.op=17
   ·have hct:=cellsTxt_fn n.text (htx h17)
    obtain rfl:num=0:=by rw[hnum,if_neg (by omega),if_neg (by omega),if_neg h21]
    obtain rfl:val=cellT n.text:=by rw[hval,if_pos h17]
    have hp:=hput 0 (cellT n.text)
    repeat'(first|refine Z1 ?_|refine WG.coG' (E:=env) rfl rfl hct rfl ?_|refine WG.loT (R:=[_,_,_]) (v:=cellT n.text) rfl rfl (hp.1) rfl rfl ?_|refine WG.c (E:=env) rfl rfl (htp) rfl rfl ?_|((refine SP (fun h=>?_) fun h=>?_)<;>(try(exfalso;first|contradiction|omega))))
    all_goals first|(exfalso;omega)|skip
    all_goals (refine W.ret ?_;exact RetR.loI (.inl rfl) rfl rO rfl rfl rfl hp.2.symm rfl _ (Nat.le_of_ble_eq_true rfl))
   ·obtain rfl:val=[]:=by rw[hval,if_neg h17]
    have hp:=hput num []
    by_cases h10:n.op=10
    ·obtain rfl:num=n.num:=by rw[hnum,if_pos h10]
     repeat'(first|refine Z1 ?_|refine WG.adoptD 106 5 5 132 rfl rfl rfl ?_|refine WG.loT (R:=[_,_,_]) (v:=[]) rfl rfl (hp.1) rfl rfl ?_|fail|((refine SP (fun h=>?_) fun h=>?_)<;>(try(exfalso;first|contradiction|omega))))
     all_goals first|(exfalso;omega)|skip
     all_goals (refine W.ret ?_;exact RetR.loI (.inl rfl) rfl rO rfl rfl rfl hp.2.symm rfl _ (Nat.le_of_ble_eq_true rfl))
    ·by_cases h1920:n.op=19∨n.op=20
     ·obtain rfl:num=names.length:=by rw[hnum,if_neg h10,if_pos h1920]
      repeat'(first|refine Z1 ?_|refine WG.adoptD 106 5 5 132 rfl rfl rfl ?_|refine WG.loT (R:=[_,_,_]) (v:=[]) rfl rfl (hp.1) rfl rfl ?_|refine WG.c (E:=env) rfl rfl (hsz) rfl rfl ?_|((refine SP (fun h=>?_) fun h=>?_)<;>(try(exfalso;first|contradiction|omega))))
      all_goals first|(exfalso;omega)|skip
      all_goals (refine W.ret ?_;exact RetR.loI (.inl rfl) rfl rO rfl rfl rfl hp.2.symm rfl _ (Nat.le_of_ble_eq_true rfl))
     ·obtain rfl:num=0:=by rw[hnum,if_neg h10,if_neg h1920,if_neg h21]
      repeat'(first|refine Z1 ?_|refine WG.adoptD 106 5 5 132 rfl rfl rfl ?_|refine WG.loT (R:=[_,_,_]) (v:=[]) rfl rfl (hp.1) rfl rfl ?_|fail|((refine SP (fun h=>?_) fun h=>?_)<;>(try(exfalso;first|contradiction|omega))))
      all_goals first|(exfalso;omega)|skip
      all_goals (refine W.ret ?_;exact RetR.loI (.inl rfl) rfl rO rfl rfl rfl hp.2.symm rfl _ (Nat.le_of_ble_eq_true rfl))
theorem WE.ixP' {N:Nm}{K:(Nat→T)→Prop}{tm:Nat→T}{ops l:List Oper}{ty:TypeId}{pos:String}{after:Array Edge}{gd:Option (Nat×Bool)}{d w:Nat}{ps:List (Nat×List Nat)}{p:List Nat}{obF:Nat→List Ob}{xs:List V}{t:TypeId}{x ix:Operand}{i:Int}
 (k:WE env.P N ops obF K ps l (upd tm d (.ea (V.rowP (xs.getD i.toNat default)) 0)))
 (h:AllF p (fun g=>OpS1 env.P N ops ⟨some d,.indexAddr t x ix,ty,pos,after,gd⟩ tm (.ea (V.rowP (xs.getD i.toNat default)) 0) (obF g) (obF (g+w))):=by first|exact .n|(refine .c (OpS1.ixm (E:=env) (f:=V.row) (by exact rfl) (by exact rfl) (by exact rfl) (by exact rfl) (by exact rfl) (by exact rfl) (by exact rfl) (by exact V.row_eq) (by first|exact trivial|(simp only[inRange,List.length_map,List.length_set];omega)|omega|assumption)) ?_;first|exact .n|(refine .c (OpS1.ixm (E:=env) (f:=V.row) (by exact rfl) (by exact rfl) (by exact rfl) (by exact rfl) (by exact rfl) (by exact rfl) (by exact rfl) (by exact V.row_eq) (by first|exact trivial|(simp only[inRange,List.length_map,List.length_set];omega)|omega|assumption)) ?_;first|exact .n|(refine .c (OpS1.ixm (E:=env) (f:=V.row) (by exact rfl) (by exact rfl) (by exact rfl) (by exact rfl) (by exact rfl) (by exact rfl) (by exact rfl) (by exact V.row_eq) (by first|exact trivial|(simp only[inRange,List.length_map,List.length_set];omega)|omega|assumption)) ?_;first|exact .n|(refine .c (OpS1.ixm (E:=env) (f:=V.row) (by exact rfl) (by exact rfl) (by exact rfl) (by exact rfl) (by exact rfl) (by exact rfl) (by exact rfl) (by exact V.row_eq) (by first|exact trivial|(simp only[inRange,List.length_map,List.length_set];omega)|omega|assumption)) ?_;first|exact .n|(refine .c (OpS1.ixm (E:=env) (f:=V.row) (by exact rfl) (by exact rfl) (by exact rfl) (by exact rfl) (by exact rfl) (by exact rfl) (by exact rfl) (by exact V.row_eq) (by first|exact trivial|(simp only[inRange,List.length_map,List.length_set];omega)|omega|assumption)) ?_;first|exact .n|(refine .c (OpS1.ixm (E:=env) (f:=V.row) (by exact rfl) (by exact rfl) (by exact rfl) (by exact rfl) (by exact rfl) (by exact rfl) (by exact rfl) (by exact V.row_eq) (by first|exact trivial|(simp only[inRange,List.length_map,List.length_set];omega)|omega|assumption)) ?_;first|exact .n|(refine .c (OpS1.ixm (E:=env) (f:=V.row) (by exact rfl) (by exact rfl) (by exact rfl) (by exact rfl) (by exact rfl) (by exact rfl) (by exact rfl) (by exact V.row_eq) (by first|exact trivial|(simp only[inRange,List.length_map,List.length_set];omega)|omega|assumption)) ?_;first|exact .n|(refine .c (OpS1.ixm (E:=env) (f:=V.row) (by exact rfl) (by exact rfl) (by exact rfl) (by exact rfl) (by exact rfl) (by exact rfl) (by exact rfl) (by exact V.row_eq) (by first|exact trivial|(simp only[inRange,List.length_map,List.length_set];omega)|omega|assumption)) ?_;exact .n))))))))):
 WE env.P N ops obF K ((w,p)::ps) (⟨some d,.indexAddr t x ix,ty,pos,after,gd⟩::l) tm:=
 .mk _ h k
def objV (ks:List ByteArray)(vs:List V):V:=.mk 6 0 noS ks vs
def objK (keys:List ByteArray):Nat→List ByteArray
 |0=>[]
 |i+1=>insK (keys.getD i default) (objK keys i)
def objX {α:Type} [Inhabited α](keys:List ByteArray)(vals:List α):Nat→List α
 |0=>[]
 |i+1=>insX (keys.getD i default) (vals.getD i default) (objK keys i) (objX keys vals i)
end Go.Proofs.YtmmjbpgdkokjgaaGreatDoor
