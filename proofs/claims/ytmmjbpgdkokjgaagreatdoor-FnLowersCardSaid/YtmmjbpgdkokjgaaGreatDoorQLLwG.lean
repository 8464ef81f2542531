/-
  A text of this claim. Conditions: none.
-/
import Derived.Test.YtmmjbpgdkokjgaaGreatDoorQLPgE
import Derived.Test.YtmmjbpgdkokjgaaGreatDoorQLTr4
import Derived.Test.YtmmjbpgdkokjgaaGreatDoorQLLw5
import Derived.Test.YtmmjbpgdkokjgaaGreatDoorQLCp2
import Derived.Maps.Range
import Derived.Maps.Views
set_option linter.unusedVariables false
set_option linter.unusedSimpArgs false
set_option maxRecDepth 100000
set_option maxHeartbeats 16000000
namespace Go.Proofs.YtmmjbpgdkokjgaaGreatDoor
open Go.RowKit
def partsT (S:St):Nat→List (Nat×Operand)→Option (List T)
 |_,[]=>some []
 |i,(j,x)::r=>bif Nat.beq i j then(match partsT S (i+1) r with|some ts=>some (S.ev x::ts)|none=>none) else none
theorem partsT_at {S:St}: ∀ {parts:List (Nat×Operand)} {i:Nat} {ts:List T},partsT S i parts=some ts→ts.length=parts.length∧ ∀(j:Nat) (p:Nat×Operand),parts[j]? =some p→p.1=i+j∧ts[j]? =some (S.ev p.2)
 |[],i,ts,h=>by
  simp only[partsT,Option.some.injEq] at h
  subst h
  exact⟨rfl,fun j p hp=>by simp at hp⟩
 |(k,x)::r,i,ts,h=>by
  unfold partsT at h
  cases hb:Nat.beq i k with
  |false=>rw[hb] at h;cases h
  |true=>
   rw[hb,cond_true] at h
   cases hr:partsT S (i+1) r with
   |none=>rw[hr] at h;cases h
   |some us=>
    rw[hr] at h
    simp only[Option.some.injEq] at h
    subst h
    obtain⟨h1,h2⟩:=partsT_at hr
    refine⟨by simp[h1],fun j p hp=>?_⟩
    cases j with
    |zero=>
     simp at hp
     subst hp
     exact⟨(Nat.eq_of_beq_eq_true hb).symm,rfl⟩
    |succ j=>
     obtain⟨h3,h4⟩:=h2 j p (by simpa using hp)
     exact⟨by omega,by simpa using h4⟩
theorem one_cells {v:Value}(h:v.oneCell'=true):v.cells= #[v]:=by cases v<;>first|rfl|cases h
theorem run_buildP {E:Env}{a:Act}{w:World}{d:Option Nat}{ty:TypeId}{pos:String}{after:Array Edge}{gd:Option (Nat×Bool)}{t e:TypeId}{len:Nat}{parts:List (Nat×Operand)}
 (ht:(E.ty t).kind=.slice e) (he:(E.ty e).known=true) (hz:(E.ty e).size=1) (hlen:parts.length=len) (h0:0<len) (hmax:len≤16777216) (hp: ∀(j:Nat) (p:Nat×Operand),parts[j]? =some p→p.1=j∧(a.eval p.2).oneCell'=true):
 (execOp a.eval ⟨d,.buildSlice t len parts.toArray,ty,pos,after,gd⟩).run E.P w=.ok (.value (.slice (some ⟨w.heap.size,0,none⟩) len len)) (w.alloc (.cells (parts.map fun p=>a.eval p.2).toArray e)):=by
 obtain⟨inf,zz,hinf,hsz,_,hzv,hzs,hzc⟩:=E.info he
 let vals:List (Nat×Value):=parts.map fun p=>(p.1,a.eval p.2)
 have hval: ∀(j:Nat) (p:Nat×Value),vals[j]? =some p→p.1=0+j∧p.2.cells.size=1:=fun j p hj=>by
  simp only[vals,List.getElem?_map,Option.map_eq_some_iff] at hj
  obtain⟨q,hq,rfl⟩:=hj
  obtain⟨h1,h2⟩:=hp j q hq
  exact⟨by rw[h1];omega,by rw[one_cells h2];rfl⟩
 have hfl:(vals.flatMap fun p=>p.2.cells.toList)=parts.map fun p=>a.eval p.2:=by
  have key: ∀l:List (Nat×Operand),(∀p∈l,(a.eval p.2).oneCell'=true)→((l.map fun p=>(p.1,a.eval p.2)).flatMap fun p=>p.2.cells.toList)=l.map fun p=>a.eval p.2:=by
   intro l
   induction l with
   |nil=>intro _;rfl
   |cons q r ih=>
    intro hh
    rw[List.map_cons,List.flatMap_cons,ih fun p hp=>hh p (List.mem_cons_of_mem _ hp),one_cells (hh q (List.mem_cons_self ..))]
    rfl
  refine key parts fun p hpm=>?_
  obtain⟨j,hj⟩:=List.getElem?_of_mem hpm
  exact(hp j p hj).2
 have hlt:vals.length=len:=by simp[vals,hlen]
 let zc:Array Value:=if len*1=0 then #[] else zz.cells
 have hfill:=fill_rows (z:=1) (len:=len) vals 0 [] (((Array.range (len*1)).map fun i=>zc[i % zc.size]!).toList) (by simp) hval (by simp[hlt])
 simp only[List.nil_append,Array.toArray_toList] at hfill
 rw[hfl] at hfill
 have hn0:¬len*1=0:=by omega
 have hrun:(Instr.buildSlice t len (parts.toArray.map fun(i,x)=>(i,a.eval x))).run E.P w=
  .ok (.slice (some ⟨w.heap.size,0,none⟩) len len) (w.alloc (.cells (parts.map fun p=>a.eval p.2).toArray e)):=by
  have e1:(parts.toArray.map fun(x:Nat×Operand)=>(x.1,a.eval x.2)).toList=vals:=by simp[vals]
  have hnot:¬len*1>2 ^ 24:=by omega
  unfold Instr.buildSlice
  simp only[Sem.run_bind,run_underlying (E.slice ht),Result.andThen_ok,sizeOf,typeInfo,run_program,hinf,Sem.run_pure,hsz,hz]
  rw[if_neg hnot]
  simp only[Sem.run_bind,Result.andThen_ok,Sem.run_pure,pure_bind]
  simp only[hn0,if_false,zeroValue,typeInfo,Sem.run_bind,run_program,hinf,Result.andThen_ok,Sem.run_pure,hzv]
  have hzc0:zc=zz.cells:=if_neg hn0
  rw[hzc0] at hfill
  rw[e1]
  simp only[hfill]
  simp[newRow]
 simp only[execOp,Sem.run_bind,hrun,Result.andThen_ok,Sem.run_pure]
section
variable {E:Env}{N:Nm}{Q:Exit→St→Prop}{S:St}{ops l:List Oper}{ty:TypeId}{pos:String}{after:Array Edge}{gd:Option (Nat×Bool)}{d:Nat}{tm:Nat→T}{ob ob':List Ob}{G:List Nat}
theorem WL.bsP {t e:TypeId}{len:Nat}{parts:List (Nat×Operand)}{cs:List T}(hw:S.want ops ⟨some d,.buildSlice t len parts.toArray,ty,pos,after,gd⟩=some true)(hd:Nat.blt d N.n=true)
 (ht:(E.ty t).kind=.slice e) (he:(E.ty e).known=true) (hz:(E.ty e).size=1) (hlen:Nat.beq parts.length len=true) (h0:Nat.blt 0 len=true) (hmax:Nat.ble len 16777216=true) (hc:partsT S 0 parts=some cs) (h1:onesT cs=true) (h2:cursT S.ob cs=true)
 (k:WL E.P N ops l Q ⟨(S.set d (.ps S.ob.length len)).tm,S.ob++[.pv cs]⟩):WL E.P N ops (⟨some d,.buildSlice t len parts.toArray,ty,pos,after,gd⟩::l) Q S:=
 WL.eff (by simp) hw hd (fun w0 σ0 a w g R=>by
  obtain⟨hl,hat⟩:=partsT_at hc
  have hlen':=Nat.eq_of_beq_eq_true hlen
  have hone: ∀(j:Nat) (p:Nat×Operand),parts[j]? =some p→(a.eval p.2).oneCell'=true:=fun j p hj=>by
   have hj2:=(hat j p hj).2
   have key: ∀(l:List T),onesT l=true→cursT S.ob l=true→ ∀(j:Nat) (x:T),l[j]? =some x→oneT x=true∧curT S.ob x=true:=by
    intro l
    induction l with
    |nil=>intro _ _ j x hx;simp at hx
    |cons y r ih=>
     intro h1 h2 j x hx
     simp only[onesT,cursT,Bool.and_eq_true] at h1 h2
     cases j with
     |zero=>simp at hx;subst hx;exact⟨h1.1,h2.1⟩
     |succ j=>exact ih h1.2 h2.2 j x (by simpa using hx)
   obtain⟨q1,q2⟩:=key cs h1 h2 j _ hj2
   exact R.inv.one q1 q2 (R.ev p.2)
  have hrun:=run_buildP (E:=E) (a:=a) (w:=w) (d:=some d) (ty:=ty) (pos:=pos) (after:=after) (gd:=gd) (t:=t) (e:=e) (len:=len) (parts:=parts) ht he hz hlen' (by simpa using h0) (Nat.le_of_ble_eq_true hmax) fun j p hj=>⟨by have:=(hat j p hj).1;omega,hone j p hj⟩
  obtain⟨g',hle,I',htt⟩:=R.inv.addPv (by rw[R.hm];exact R.hl) e cs (parts.map fun p=>a.eval p.2) (by simpa using hl) (fun i x u hx hu=>by
   simp only[List.getElem?_map,Option.map_eq_some_iff] at hu
   obtain⟨p,hp,rfl⟩:=hu
   have:=(hat i p hp).2
   rw[hx] at this
   cases this
   exact R.ev p.2) (fun u hu=>by
   obtain⟨p,hp,rfl⟩:=List.mem_map.1 hu
   obtain⟨j,hj⟩:=List.getElem?_of_mem hp
   exact hone j p hj)
  obtain⟨b,h3,h4,h5⟩:=htt.inv_lp
  refine⟨_,_,g',hrun,hle,I',?_⟩
  injection h5 with h5
  injection h5 with h5
  injection h5 with h5 _ _
  subst h5
  exact .ps _ len _ h3 h4) k
theorem WL.ixPs {t e:TypeId}{x ix:Operand}{L n:Nat}{k:IntKind}{i:Int}(hw:S.want ops ⟨some d,.indexAddr t x ix,ty,pos,after,gd⟩=some true)(hd:Nat.blt d N.n=true)
 (ht:(E.ty t).kind=.slice e) (he:(E.ty e).known=true) (hz:(E.ty e).size=1) (hx:S.ev x=.ps L n) (hi:S.ev ix=.d (.v (.int k i))) (hb:0≤i∧i<n)
 (kk:WL E.P N ops l Q (S.set d (.lp L i.toNat))):WL E.P N ops (⟨some d,.indexAddr t x ix,ty,pos,after,gd⟩::l) Q S:=
 WL.val hw hd (fun w0 σ0 a w g R=>by
  have h1:=R.ev x
  rw[hx] at h1
  obtain⟨b,h0,hγ,h1'⟩:=h1.inv_ps
  have h2:=R.ev ix
  rw[hi] at h2
  have h2':=h2.inv_v
  obtain⟨inf,zz,hinf,hsz,_⟩:=E.info he
  refine⟨_,by simp only[execOp,Sem.run_bind,h1',h2',run_indexAt (E.slice ht) hinf b 0 n n k i hb,Result.andThen_ok,Sem.run_pure];rfl,?_⟩
  rw[hsz,hz,Nat.zero_add,Nat.mul_one]
  exact .lp L i.toNat b h0 hγ) kk
theorem WG.bsP {t e:TypeId}{len K:Nat}{parts:List (Nat×Operand)}{cs:List T}(hw:St.want ⟨tm,ob⟩ ops ⟨some d,.buildSlice t len parts.toArray,ty,pos,after,gd⟩=some true)(hd:Nat.blt d N.n=true)
 (ht:(E.ty t).kind=.slice e) (he:(E.ty e).known=true) (hz:(E.ty e).size=1) (hlen:Nat.beq parts.length len=true) (h0:Nat.blt 0 len=true) (hmax:Nat.ble len 16777216=true) (hc:partsT ⟨tm,ob⟩ 0 parts=some cs) (h1:onesT cs=true) (h2:cursT ob cs=true) (hK:ob.length=K)
 (k:WG G E.P N ops l Q ⟨upd tm d (.ps K len),ob++[.pv cs]⟩):WG G E.P N ops (⟨some d,.buildSlice t len parts.toArray,ty,pos,after,gd⟩::l) Q ⟨tm,ob⟩:=by
 subst hK
 exact WL.bsP (S:=⟨tm,ob⟩) hw hd ht he hz hlen h0 hmax hc h1 h2 k
theorem WG.ixPs {t e:TypeId}{x ix:Operand}{L n:Nat}{k:IntKind}{i:Int}(hw:St.want ⟨tm,ob⟩ ops ⟨some d,.indexAddr t x ix,ty,pos,after,gd⟩=some true)(hd:Nat.blt d N.n=true)
 (ht:(E.ty t).kind=.slice e) (he:(E.ty e).known=true) (hz:(E.ty e).size=1) (hx:St.ev ⟨tm,ob⟩ x=.ps L n) (hi:St.ev ⟨tm,ob⟩ ix=.d (.v (.int k i))) (hb:0≤i∧i<n)
 (kk:WG G E.P N ops l Q ⟨upd tm d (.lp L i.toNat),ob⟩):WG G E.P N ops (⟨some d,.indexAddr t x ix,ty,pos,after,gd⟩::l) Q ⟨tm,ob⟩:=
 WL.ixPs (S:=⟨tm,ob⟩) hw hd ht he hz hx hi hb kk
theorem OpS1.ixPs {t e:TypeId}{x ix:Operand}{L n:Nat}{k:IntKind}{i:Int}(hw:St.want ⟨tm,ob⟩ ops ⟨some d,.indexAddr t x ix,ty,pos,after,gd⟩=some true)(hd:Nat.blt d N.n=true)
 (ht:(E.ty t).kind=.slice e) (he:(E.ty e).known=true) (hz:(E.ty e).size=1) (hx:St.ev ⟨tm,ob⟩ x=.ps L n) (hi:St.ev ⟨tm,ob⟩ ix=.d (.v (.int k i))) (hb:0≤i∧i<n):
 OpS1 E.P N ops ⟨some d,.indexAddr t x ix,ty,pos,after,gd⟩ tm (.lp L i.toNat) ob ob:=fun tm' hag l Q k'=>
 WL.ixPs (S:=⟨tm',ob⟩) (by rw[want_agree hag];exact hw) hd ht he hz (by rw[ev_agree hag (by simp[Op.operands])];exact hx) (by rw[ev_agree hag (by simp[Op.operands])];exact hi) hb k'
end
mutual
def Pt.ok :Pt→Prop
 |.mk n kids=>n.val.length≤1048576∧kids.length≤3∧Pt.oks kids
def Pt.oks :List Pt→Prop
 |[]=>True
 |p::r=>p.ok∧Pt.oks r
end
abbrev loI (ns:List Nd)(L:List Co)(v:Nat):List Ob:=[.pv [.d (nodesD ns),.og 1 v],.x (neC (L.map coN) none) v]
theorem sizeN_core (R:List NR):FunQ env.P 21 [.og 0 0] [.x (neC R none) 0] (just (.d (dI R.length)) [.x (neC R none) 0]):=by
 refine FunQ.intro Tryz.func21 rfl (by kernel_rfl) rfl ?_
 repeat'(first|refine WG.lenN' (E:=env) ?_|refine Z1 ?_|fail)
 refine W.ret ?_
 exact RetR.own (ob':=[.x (neC R none) 0]) ⟨[0],[0],1⟩ (.inl rfl) rfl rO rfl rfl rfl rfl rfl rfl ⟨rfl,trivial⟩ rfl ⟨rfl,rfl⟩
theorem putI_fn (ns:List Nd)(L:List Co)(n:Co)(hl:L.length≤100000):FunQ env.P 103 [.lp 0 0,.agg [.d (dI n.op),.d (dI n.a),.d (dI n.b),.d (dI n.c),.d (dI n.num),.og 2 0]] [.pv [.d (nodesD ns),.og 1 0],.x (neC (L.map coN) none) 0,.gr 5 132 (n.val.map Cell.row) 0 false]
 (just (.d (dI (plc (L++[n])))) [.pv [.d (nodesD ns),.og 1 1],.x (neC ((L++[n]).map coN) none) 1,.dead]):=by
 have hr:(L++[n]).map coN=L.map coN++[coN n]:=by simp
 have hl2:(L.map coN++[coN n]).length=L.length+1:=by simp
 have hp:plc (L++[n])=(((L.map coN++[coN n]).length:Nat):Int) - 1:=by rw[←hr,List.length_map];rfl
 have hsz:=sizeN_core (L.map coN++[coN n])
 rw[hp,hr]
 have hlm:(L.map coN).length=L.length:=by simp
 refine FunQ.intro Tryz.func103 rfl (by kernel_rfl) rfl ?_
 generalize L.map coN=R at*
 repeat'(first|refine W.dre' (id:=1) [6,7,10] (fun f=>bif bt f 4 then [.pv [.d (nodesD ns),.og 1 1],.x (neC (R++[coN n]) none) 1,.dead,.pv [.d (dI n.op),.d (dI n.a),.d (dI n.b),.d (dI n.c),.d (dI n.num),.og 2 0]] else bif bt f 2 then [.pv [.d (nodesD ns),.og 1 0],.x (neC (R++[coN n]) none) 1,.dead,.pv [.d (dI n.op),.d (dI n.a),.d (dI n.b),.d (dI n.c),.d (dI n.num),.og 2 0]] else bif bt f 1 then [.pv [.d (nodesD ns),.og 1 0],.x (neC R none) 0,.x (neC [coN n] none) 1,.pv [.d (dI n.op),.d (dI n.a),.d (dI n.b),.d (dI n.c),.d (dI n.num),.og 2 0]] else [.pv [.d (nodesD ns),.og 1 0],.x (neC R none) 0,.gr 5 132 (n.val.map Cell.row) 0 false,.pv [.d (dI n.op),.d (dI n.a),.d (dI n.b),.d (dI n.c),.d (dI n.num),.og 2 0]]) [(0,[0,1,3]),(0,[0,1]),(0,[0,1]),(0,[0,1]),(0,[0,1]),(0,[0]),(1,[0]),(2,[1]),(0,[3]),(0,[3]),(4,[3])] [.pv [.d (nodesD ns),.og 1 1],.x (neC (R++[coN n]) none) 1,.dead,.pv [.d (dI n.op),.d (dI n.a),.d (dI n.b),.d (dI n.c),.d (dI n.num),.og 2 0]] ?_|refine WE.mkd (.og 2 1) ?_ (.c (OpS1.bsN (E:=env) (j0:=5) (K:=2) rfl rfl rfl rfl rfl rfl rfl rfl rfl rfl rfl rfl rfl rfl) .n)|refine WE.mkd (.og 1 1) ?_ (.c (OpS1.apN (E:=env) rfl rfl rfl rfl rfl rfl rfl rfl rfl rfl rfl rfl (by refine Nat.le_trans (Nat.mul_le_mul_right _ (m:=2097152) ?_) (Nat.le_of_ble_eq_true rfl);simp only[List.length_cons,List.length_nil];omega) rfl) .n)|refine Z2 ?_|refine Z1 ?_|refine WG.cq (E:=env) [1] [1] false rfl rfl (hsz) rfl rfl rfl rfl rfl rfl rfl (by first|exact trivial|exact⟨rfl,trivial⟩|exact⟨rfl,rfl,trivial⟩) (.inl rfl) rfl (fun h=>nomatch h) rfl rfl ?_)
 refine W.ret ?_
 exact RetQ.r (t:=.d (dI ((((R++[coN n]).length:Nat):Int) - 1))) (ob:=[.pv [.d (nodesD ns),.og 1 1],.x (neC (R++[coN n]) none) 1,.dead]) ⟨rfl,rfl⟩ (RetQ.mk (.inl rfl) rfl rO rfl rfl ⟨rfl,.inl rfl,rfl,.inl rfl,rfl,.inl rfl,trivial⟩ rfl)
theorem RetR.loI {fn:Func}{e:Exit}{S:St}{ts:List T}{ns:List Nd}{L L':List Co}{w c:Nat}{x x':Int}{rest:List Ob}(he:e=.ret∨e=.normal)(hts:resL S fn.results.toList=some ts)(hok:resOK env.P S fn.results.toList)
 (hn:norm S.ob (resT ts)=.d (dI x)) (hob:S.ob=.pv [.d (nodesD ns),.og 1 w]:: .x (neC (L.map coN) none) w::rest) (hL:L=L') (hv:w=c) (hx:x=x'): ∀m:Nat,2≤m→RetR env.P fn m (just (.d (dI x')) (Go.Proofs.YtmmjbpgdkokjgaaGreatDoor.loI ns L' c)) e S:=fun m hm=>by
 subst hL;subst hv;subst hx
 refine RetR.own (t:=.d (dI x)) (ob':=Go.Proofs.YtmmjbpgdkokjgaaGreatDoor.loI ns L w) ⟨[0,1],[0,0],S.ob.length⟩ he hts hok hn rfl rfl rfl rfl ?_ ⟨?_,?_,trivial⟩ ?_ ⟨rfl,rfl⟩
 ·simp[renOKL,Ob.renOK,Rn.of,T.lpOKL,T.lpOK]
 ·rw[hob];simp[Ob.ren,Rn.of,Rn.ix,T.renL,T.ren]
 ·rw[hob];simp[Ob.ren,Rn.of,Rn.ix]
 ·have h2: ∀m,idxOK ⟨[0,1],[0,0],S.ob.length⟩ m=true:=fun m=>by
   induction m with
   |zero=>rfl
   |succ m ih=>
    rw[idxOK,ih,Bool.true_and]
    rcases m with _|_|m
    ·rfl
    ·rfl
    ·rw[Bool.or_eq_true];left;rw[Nat.ble_eq];show 2≤m+1+1;omega
  exact h2 m
section
variable (ns:List Nd)(L:List Co)
abbrev putA (op a b c num:Int):List T:=[.lp 0 0,.agg [.d (dI op),.d (dI a),.d (dI b),.d (dI c),.d (dI num),.og 2 0]]
abbrev putO (v:List Cell):List Ob:=[.pv [.d (nodesD ns),.og 1 0],.x (neC (L.map coN) none) 0,.gr 5 132 (v.map Cell.row) 0 false]
theorem putLeafI (op num:Int)(hl:L.length≤100000):FunQ env.P 103 (putA op 0 0 0 num) (putO ns L []) (just (.d (dI (plc ((Pt.lf op num).on L)))) (loI ns ((Pt.lf op num).on L) 1++[.dead])):=by
 have:=putI_fn ns L ⟨op,0,0,0,num,[]⟩ hl
 rw[Pt.on_leaf] at this
 exact this
theorem putCvI (v:List Cell)(hl:L.length≤100000):FunQ env.P 103 (putA 2 0 0 0 0) (putO ns L v) (just (.d (dI (plc ((Pt.cv v).on L)))) (loI ns ((Pt.cv v).on L) 1++[.dead])):=by
 have:=putI_fn ns L ⟨2,0,0,0,0,v⟩ hl
 rw[Pt.on_leaf] at this
 exact this
theorem put1I (m:Co)(A:Pt)(hl:(A.on L).length≤100000):FunQ env.P 103 (putA m.op (plc (A.on L)) m.b m.c m.num) (putO ns (A.on L) m.val) (just (.d (dI (plc ((Pt.mk m [A]).on L)))) (loI ns ((Pt.mk m [A]).on L) 1++[.dead])):=by
 have:=putI_fn ns (A.on L) ⟨m.op,plc (A.on L),m.b,m.c,m.num,m.val⟩ hl
 rw[Pt.on_1 m] at this
 exact this
theorem put2I (m:Co)(A B:Pt)(hl:(B.on (A.on L)).length≤100000):FunQ env.P 103 (putA m.op (plc (A.on L)) (plc (B.on (A.on L))) m.c m.num) (putO ns (B.on (A.on L)) m.val) (just (.d (dI (plc ((Pt.mk m [A,B]).on L)))) (loI ns ((Pt.mk m [A,B]).on L) 1++[.dead])):=by
 have:=putI_fn ns (B.on (A.on L)) ⟨m.op,plc (A.on L),plc (B.on (A.on L)),m.c,m.num,m.val⟩ hl
 rw[Pt.on_2 m] at this
 exact this
theorem put3I (m:Co)(A B C:Pt)(hl:(C.on (B.on (A.on L))).length≤100000):FunQ env.P 103 (putA m.op (plc (A.on L)) (plc (B.on (A.on L))) (plc (C.on (B.on (A.on L)))) m.num) (putO ns (C.on (B.on (A.on L))) m.val) (just (.d (dI (plc ((Pt.mk m [A,B,C]).on L)))) (loI ns ((Pt.mk m [A,B,C]).on L) 1++[.dead])):=by
 have:=putI_fn ns (C.on (B.on (A.on L))) ⟨m.op,plc (A.on L),plc (B.on (A.on L)),plc (C.on (B.on (A.on L))),m.num,m.val⟩ hl
 rw[Pt.on_3 m] at this
 exact this
end
section
variable {N:Nm}{Q:Exit→St→Prop}{tm:Nat→T}{R:List Ob}{ops l:List Oper}{ty:TypeId}{pos:String}{after:Array Edge}{gd:Option (Nat×Bool)}{d:Nat}{G:List Nat}
theorem WG.loI {ns:List Nd}{L L':List Co}{w c:Nat}{x:Int}{f:FuncId}{xs:List Operand}{tys:List TypeId}{args:List T}
 (hw:St.want ⟨tm,.pv [.d (nodesD ns),.og 1 w]:: .x (neC (L.map coN) none) w::R⟩ ops ⟨some d,.call ⟨.value (.func f),xs.toArray,tys.toArray⟩,ty,pos,after,gd⟩=some true) (hd:Nat.blt d N.n=true)
 (hc:FunQ env.P f args (Go.Proofs.YtmmjbpgdkokjgaaGreatDoor.loI ns L 0) (just (.d (dI x)) (Go.Proofs.YtmmjbpgdkokjgaaGreatDoor.loI ns L' c))) (ha:argsT env ⟨tm,.pv [.d (nodesD ns),.og 1 w]:: .x (neC (L.map coN) none) w::R⟩ false xs tys++[]=T.renL ⟨[0,1],[0,w],R.length+2⟩ args)
 (hlp:T.lpOKL ⟨[0,1],[0,w],R.length+2⟩ args=true)
 (k:WG G env.P N ops l Q ⟨upd tm d (.d (dI x)),.pv [.d (nodesD ns),.og 1 (w+c)]:: .x (neC (L'.map coN) none) (w+c)::R⟩):
 WG G env.P N ops (⟨some d,.call ⟨.value (.func f),xs.toArray,tys.toArray⟩,ty,pos,after,gd⟩::l) Q ⟨tm,.pv [.d (nodesD ns),.og 1 w]:: .x (neC (L.map coN) none) w::R⟩:=by
 refine WG.cq (E:=env) (K:=R.length+2) (t':=.d (dI x)) (ob2:=.pv [.d (nodesD ns),.og 1 (w+c)]:: .x (neC (L'.map coN) none) (w+c)::R) [0,1] [0,w] false hw hd hc rfl (by simp) ha hlp rfl rfl (by simp[startL,Ob.start,Ob.renOK,T.lpOKL,T.lpOK,Rn.of]) ⟨rfl,rfl,trivial⟩ (.inl rfl) rfl (fun h=>nomatch h) rfl ?_ k
 simp[mergeO,renFrom,Ob.ren,T.renL,T.ren,Rn.ix,Rn.of]
theorem WG.loT {ns:List Nd}{L L':List Co}{w c:Nat}{x:Int}{v:List Cell}{f:FuncId}{xs:List Operand}{tys:List TypeId}{args:List T}
 (hw:St.want ⟨tm,.pv [.d (nodesD ns),.og 1 w]:: .x (neC (L.map coN) none) w::(R++[.gr 5 132 (v.map Cell.row) 0 false])⟩ ops ⟨some d,.call ⟨.value (.func f),xs.toArray,tys.toArray⟩,ty,pos,after,gd⟩=some true) (hd:Nat.blt d N.n=true)
 (hc:FunQ env.P f args (Go.Proofs.YtmmjbpgdkokjgaaGreatDoor.loI ns L 0++[.gr 5 132 (v.map Cell.row) 0 false]) (just (.d (dI x)) (Go.Proofs.YtmmjbpgdkokjgaaGreatDoor.loI ns L' c++[.dead]))) (ha:argsT env ⟨tm,.pv [.d (nodesD ns),.og 1 w]:: .x (neC (L.map coN) none) w::(R++[.gr 5 132 (v.map Cell.row) 0 false])⟩ false xs tys++[]=T.renL ⟨[0,1,R.length+2],[0,w,0],R.length+3⟩ args)
 (hlp:T.lpOKL ⟨[0,1,R.length+2],[0,w,0],R.length+3⟩ args=true)
 (k:WG G env.P N ops l Q ⟨upd tm d (.d (dI x)),.pv [.d (nodesD ns),.og 1 (w+c)]:: .x (neC (L'.map coN) none) (w+c)::(R++[.dead])⟩):
 WG G env.P N ops (⟨some d,.call ⟨.value (.func f),xs.toArray,tys.toArray⟩,ty,pos,after,gd⟩::l) Q ⟨tm,.pv [.d (nodesD ns),.og 1 w]:: .x (neC (L.map coN) none) w::(R++[.gr 5 132 (v.map Cell.row) 0 false])⟩:=by
 refine WG.cq (E:=env) (K:=R.length+3) (t':=.d (dI x)) (ob2:=.pv [.d (nodesD ns),.og 1 (w+c)]:: .x (neC (L'.map coN) none) (w+c)::(R++[.dead])) [0,1,R.length+2] [0,w,0] false hw hd hc rfl (by simp) ha hlp (by simp[nodupB];exact⟨⟨rfl,rfl⟩,rfl⟩) rfl (by simp[startL,Ob.start,Ob.renOK,T.lpOKL,T.lpOK,Rn.of]) ⟨rfl,rfl,?_,trivial⟩ (.inl rfl) rfl (fun h=>nomatch h) rfl ?_ k
 ·simp[Rn.ix,Rn.of,Ob.ren]
 ·simp[mergeO,renFrom,Ob.ren,T.renL,T.ren,Rn.ix,Rn.of]
end
theorem doI_fn (ns:List Nd)(L:List Co)(num:Int)(hl:L.length≤100000):FunQ env.P 51 [.lp 0 0,.d (dI num)] (loI ns L 0) (just (.d (dI (plc ((Pt.lf 16 num).on L)))) (loI ns ((Pt.lf 16 num).on L) 1)):=by
 refine FunQ.intro Tryz.func51 rfl (by kernel_rfl) rfl ?_
 unfold Go.Proofs.YtmmjbpgdkokjgaaGreatDoor.loI
 repeat'(first|refine Z3 ?_|refine WG.adoptD 7 5 5 132 rfl rfl rfl ?_|refine WG.loT (R:=[]) (v:=[]) rfl rfl (putLeafI ns L 16 num hl) rfl rfl ?_)
 refine W.ret ?_
 exact RetR.loI (.inl rfl) rfl rO rfl rfl rfl rfl rfl _ (Nat.le_of_ble_eq_true rfl)
theorem eachI_fn (ns:List Nd)(L:List Co)(A:Pt)(hl:(A.on L).length≤100000):FunQ env.P 50 [.lp 0 0,.d (dI (plc (A.on L)))] (loI ns (A.on L) 0) (just (.d (dI (plc ((Pt.n1 8 A).on L)))) (loI ns ((Pt.n1 8 A).on L) 1)):=by
 refine FunQ.intro Tryz.func50 rfl (by kernel_rfl) rfl ?_
 unfold Go.Proofs.YtmmjbpgdkokjgaaGreatDoor.loI
 repeat'(first|refine Z3 ?_|refine WG.adoptD 7 5 5 132 rfl rfl rfl ?_|refine WG.loT (R:=[]) (v:=[]) rfl rfl (put1I ns L ⟨8,0,0,0,0,[]⟩ A hl) rfl rfl ?_)
 refine W.ret ?_
 exact RetR.loI (.inl rfl) rfl rO rfl rfl rfl rfl rfl _ (Nat.le_of_ble_eq_true rfl)
theorem constI_fn (ns:List Nd)(L:List Co)(x:V)(v:List Cell)(hc:Fun env.P 102 [.agg x.rowP] (.og 0 0) [.gr 5 132 (v.map Cell.row) 0 false])(hl:L.length≤100000):FunQ env.P 45 [.lp 0 0,.d (.agg x.rowP)] (loI ns L 0) (just (.d (dI (plc ((Pt.cv v).on L)))) (loI ns ((Pt.cv v).on L) 1)):=by
 refine FunQ.intro Tryz.func45 rfl (by kernel_rfl) rfl ?_
 unfold Go.Proofs.YtmmjbpgdkokjgaaGreatDoor.loI
 repeat'(first|refine Z3 ?_|refine WG.loT (R:=[_]) (v:=v) rfl rfl (putCvI ns L v hl) rfl rfl ?_|refine WG.coG' (E:=env) rfl rfl hc rfl ?_)
 refine W.ret ?_
 exact RetR.loI (.inl rfl) rfl rO rfl rfl rfl rfl rfl _ (Nat.le_of_ble_eq_true rfl)
theorem truthP_fn (x:Bool):Fun env.P 105 [dB x] (.d (.agg (V.mk (if x then 2 else 1) 0 noS [] []).rowP)) []:=by
 cases x<;>
 ·refine Fun.intro Tryz.func105 rfl (by kernel_rfl) rfl ?_
  repeat'(first|refine Z1 ?_)
  (refine W.ret ?_;(first|refine RetQ.d' ?_))
  rfl
abbrev truO (b:Bool):List Ob:=[.pv [.lp 0 0],.pv [.d (dB b)]]
theorem truthC_fn (ns:List Nd)(L:List Co)(b:Bool):FunQ env.P 53 [.lp 0 0,.d (dB b)] (loI ns L 0) (just (.clo 104 [.lp 2 0,.lp 3 0]) (loI ns L 0++truO b)):=by
 refine FunQ.intro Tryz.func53 rfl (by kernel_rfl) rfl ?_
 unfold Go.Proofs.YtmmjbpgdkokjgaaGreatDoor.loI
 repeat'(first|refine Z1 ?_)
 refine W.ret ?_
 exact RetR.own (ob':=loI ns L 0++truO b) ⟨[0,1,2,3],[0,0,0,0],4⟩ (.inl rfl) rfl rO rfl rfl rfl rfl rfl rfl ⟨rfl,rfl,rfl,rfl,trivial⟩ rfl ⟨rfl,rfl⟩
theorem truthF_fn (ns:List Nd)(L:List Co)(b:Bool)(hc:Fun env.P 102 [.agg (V.mk (if b then 2 else 1) 0 noS [] []).rowP] (.og 0 0) [.gr 5 132 ((cellK (if b then 2 else 1)).map Cell.row) 0 false])(hl:L.length≤100000):
 FunQ env.P 104 [.lp 2 0,.lp 3 0] (loI ns L 0++truO b) (just (.d (dI (plc ((truP b).on L)))) (loI ns ((truP b).on L) 1++truO b)):=by
 have ht:=truthP_fn b
 have hk:=constI_fn ns L _ _ hc hl
 refine FunQ.intro Tryz.func104 rfl (by kernel_rfl) rfl ?_
 unfold Go.Proofs.YtmmjbpgdkokjgaaGreatDoor.loI
 repeat'(first|refine W.dre' (id:=1) [3] (fun f=>bif bt f 1 then [.pv [.d (nodesD ns),.og 1 1],.x (neC (((truP b).on L).map coN) none) 1,.pv [.lp 0 0],.pv [.d (dB b)]] else [.pv [.d (nodesD ns),.og 1 0],.x (neC (L.map coN) none) 0,.pv [.lp 0 0],.pv [.d (dB b)]]) [(0,[0]),(0,[0]),(0,[0]),(1,[0]),(0,[1])] [.pv [.d (nodesD ns),.og 1 1],.x (neC (((truP b).on L).map coN) none) 1,.pv [.lp 0 0],.pv [.d (dB b)]] ?_|refine WE.c' ht ?_|refine WE.mkd (.d (dI (plc ((truP b).on L)))) ?_ (.c (OpS1.cqM (E:=env) [0,1] [0,0] rfl rfl hk rfl rfl rfl rfl rfl rfl rfl ⟨rfl,rfl,trivial⟩ rfl rfl rfl) .n)|refine Z2 ?_|refine Z1 ?_|fail)
 refine W.ret ?_
 exact RetR.own (ob':=loI ns ((truP b).on L) 1++truO b) ⟨[0,1,2,3],[0,0,0,0],4⟩ (.inl rfl) rfl rO rfl rfl rfl rfl rfl rfl ⟨rfl,rfl,rfl,rfl,trivial⟩ rfl ⟨rfl,rfl⟩
abbrev bxL :Ob:=.pv [.lp 0 0]
abbrev bxV (names:List ByteArray):Ob:=.pv [.d (namesD names)]
abbrev bxN (n:Nd):Ob:=.pv (n.row.map .d)
abbrev bxB :Ob:=.pv [.clo 44 [.lp 2 0,.lp 4 0,.lp 3 0]]
abbrev bxT (b:Bool):Ob:=.pv [.d (dB b)]
abbrev envA (names:List ByteArray)(n:Nd):List Ob:=[bxL,bxV names,bxN n]
abbrev envB (names:List ByteArray)(n:Nd):List Ob:=[bxL,bxV names,bxN n,bxB]
def CloI (ns:List Nd)(f:FuncId)(cap:List T)(E:List Ob)(p:Pt)(L:List Co):Prop:=FunQ env.P f cap (loI ns L 0++E) (just (.d (dI (plc (p.on L)))) (loI ns (p.on L) p.count++E))
theorem choiceOr_fn (ns:List Nd)(names:List ByteArray)(n:Nd)(L:List Co)(A B C:Pt)(h1:CloI ns 43 [.lp 2 0,.lp 4 0,.lp 3 0] (envA names n) A L)(h2:CloI ns 104 [.lp 2 0,.lp 3 0] (truO true) B (A.on L))(h3:CloI ns 54 [.lp 2 0,.lp 5 0] (envB names n) C (B.on (A.on L)))(hl:(C.on (B.on (A.on L))).length≤100000):
 FunQ env.P 52 [.lp 0 0,.clo 43 [.lp 2 0,.lp 4 0,.lp 3 0],.clo 104 [.lp 6 0,.lp 7 0],.clo 54 [.lp 2 0,.lp 5 0]] (loI ns L 0++[bxL,bxV names,bxN n,bxB,bxL,bxT true]) (just (.d (dI (plc ((Pt.n3 12 0 A B C).on L)))) (loI ns ((Pt.n3 12 0 A B C).on L) (Pt.n3 12 0 A B C).count++[bxL,bxV names,bxN n,bxB,bxL,bxT true])):=by
 have hcnt:(Pt.n3 12 0 A B C).count=0+A.count+B.count+C.count+1:=by rw[n3_count];omega
 rw[hcnt]
 clear hcnt
 unfold CloI at h1 h2 h3
 refine FunQ.intro Tryz.func52 rfl (by kernel_rfl) rfl ?_
 unfold Go.Proofs.YtmmjbpgdkokjgaaGreatDoor.loI
 repeat'(first|refine Z3 ?_|refine WG.cq (E:=env) (t':=.d (dI (plc (A.on L)))) (ob2:=[.pv [.d (nodesD ns),.og 1 (0+A.count)],.x (neC ((A.on L).map coN) none) (0+A.count),.pv [.lp 0 0],.pv [.d (namesD names)],.pv (n.row.map .d),.pv [.clo 44 [.lp 2 0,.lp 4 0,.lp 3 0]],.pv [.lp 0 0],.pv [.d (dB true)],.pv [.d (dI 12),.d (dI 0),.d (dI 0),.d (dI 0),.d (dI 0),.d (.nl 5)]]) [0,1,2,3,4] [0,0,0,0,0] false rfl rfl h1 rfl rfl rfl rfl rfl rfl rfl ⟨rfl,rfl,rfl,rfl,rfl,trivial⟩ (.inl rfl) rfl (fun h=>nomatch h) rfl rfl ?_|refine WG.cq (E:=env) (t':=.d (dI (plc (B.on (A.on L))))) (ob2:=[.pv [.d (nodesD ns),.og 1 (0+A.count+B.count)],.x (neC ((B.on (A.on L)).map coN) none) (0+A.count+B.count),.pv [.lp 0 0],.pv [.d (namesD names)],.pv (n.row.map .d),.pv [.clo 44 [.lp 2 0,.lp 4 0,.lp 3 0]],.pv [.lp 0 0],.pv [.d (dB true)],.pv [.d (dI 12),.d (dI (plc (A.on L))),.d (dI 0),.d (dI 0),.d (dI 0),.d (.nl 5)]]) [0,1,6,7] [0,(0+A.count),0,0] false rfl rfl h2 rfl rfl rfl rfl rfl rfl rfl ⟨rfl,rfl,rfl,rfl,trivial⟩ (.inl rfl) rfl (fun h=>nomatch h) rfl rfl ?_|refine WG.cq (E:=env) (t':=.d (dI (plc (C.on (B.on (A.on L)))))) (ob2:=[.pv [.d (nodesD ns),.og 1 (0+A.count+B.count+C.count)],.x (neC ((C.on (B.on (A.on L))).map coN) none) (0+A.count+B.count+C.count),.pv [.lp 0 0],.pv [.d (namesD names)],.pv (n.row.map .d),.pv [.clo 44 [.lp 2 0,.lp 4 0,.lp 3 0]],.pv [.lp 0 0],.pv [.d (dB true)],.pv [.d (dI 12),.d (dI (plc (A.on L))),.d (dI (plc (B.on (A.on L)))),.d (dI 0),.d (dI 0),.d (.nl 5)]]) [0,1,2,3,4,5] [0,(0+A.count+B.count),0,0,0,0] false rfl rfl h3 rfl rfl rfl rfl rfl rfl rfl ⟨rfl,rfl,rfl,rfl,rfl,rfl,trivial⟩ (.inl rfl) rfl (fun h=>nomatch h) rfl rfl ?_|refine WG.adoptD 21 5 5 132 rfl rfl rfl ?_|refine WG.loT (R:=[_,_,_,_,_,_,_]) (v:=[]) rfl rfl (put3I ns L ⟨12,0,0,0,0,[]⟩ A B C hl) rfl rfl ?_)
 refine W.ret ?_
 exact RetR.own (ob':=loI ns ((Pt.n3 12 0 A B C).on L) (0+A.count+B.count+C.count+1)++[bxL,bxV names,bxN n,bxB,bxL,bxT true]) ⟨[0,1,2,3,4,5,6,7],[0,0,0,0,0,0,0,0],10⟩ (.inl rfl) rfl rO rfl rfl rfl rfl rfl rfl ⟨(by simp[Ob.ren,Rn.of,Rn.ix,T.renL,T.ren]<;>rfl),(by simp[Ob.ren,Rn.of,Rn.ix,T.renL,T.ren]<;>rfl),rfl,rfl,rfl,rfl,rfl,rfl,trivial⟩ rfl ⟨rfl,rfl⟩
theorem choiceAnd_fn (ns:List Nd)(names:List ByteArray)(n:Nd)(L:List Co)(A B C:Pt)(h1:CloI ns 43 [.lp 2 0,.lp 4 0,.lp 3 0] (envA names n) A L)(h2:CloI ns 55 [.lp 2 0,.lp 5 0] (envB names n) B (A.on L))(h3:CloI ns 104 [.lp 2 0,.lp 3 0] (truO false) C (B.on (A.on L)))(hl:(C.on (B.on (A.on L))).length≤100000):
 FunQ env.P 52 [.lp 0 0,.clo 43 [.lp 2 0,.lp 4 0,.lp 3 0],.clo 55 [.lp 2 0,.lp 5 0],.clo 104 [.lp 6 0,.lp 7 0]] (loI ns L 0++[bxL,bxV names,bxN n,bxB,bxL,bxT false]) (just (.d (dI (plc ((Pt.n3 12 0 A B C).on L)))) (loI ns ((Pt.n3 12 0 A B C).on L) (Pt.n3 12 0 A B C).count++[bxL,bxV names,bxN n,bxB,bxL,bxT false])):=by
 have hcnt:(Pt.n3 12 0 A B C).count=0+A.count+B.count+C.count+1:=by rw[n3_count];omega
 rw[hcnt]
 clear hcnt
 unfold CloI at h1 h2 h3
 refine FunQ.intro Tryz.func52 rfl (by kernel_rfl) rfl ?_
 unfold Go.Proofs.YtmmjbpgdkokjgaaGreatDoor.loI
 repeat'(first|refine Z3 ?_|refine WG.cq (E:=env) (t':=.d (dI (plc (A.on L)))) (ob2:=[.pv [.d (nodesD ns),.og 1 (0+A.count)],.x (neC ((A.on L).map coN) none) (0+A.count),.pv [.lp 0 0],.pv [.d (namesD names)],.pv (n.row.map .d),.pv [.clo 44 [.lp 2 0,.lp 4 0,.lp 3 0]],.pv [.lp 0 0],.pv [.d (dB false)],.pv [.d (dI 12),.d (dI 0),.d (dI 0),.d (dI 0),.d (dI 0),.d (.nl 5)]]) [0,1,2,3,4] [0,0,0,0,0] false rfl rfl h1 rfl rfl rfl rfl rfl rfl rfl ⟨rfl,rfl,rfl,rfl,rfl,trivial⟩ (.inl rfl) rfl (fun h=>nomatch h) rfl rfl ?_|refine WG.cq (E:=env) (t':=.d (dI (plc (B.on (A.on L))))) (ob2:=[.pv [.d (nodesD ns),.og 1 (0+A.count+B.count)],.x (neC ((B.on (A.on L)).map coN) none) (0+A.count+B.count),.pv [.lp 0 0],.pv [.d (namesD names)],.pv (n.row.map .d),.pv [.clo 44 [.lp 2 0,.lp 4 0,.lp 3 0]],.pv [.lp 0 0],.pv [.d (dB false)],.pv [.d (dI 12),.d (dI (plc (A.on L))),.d (dI 0),.d (dI 0),.d (dI 0),.d (.nl 5)]]) [0,1,2,3,4,5] [0,(0+A.count),0,0,0,0] false rfl rfl h2 rfl rfl rfl rfl rfl rfl rfl ⟨rfl,rfl,rfl,rfl,rfl,rfl,trivial⟩ (.inl rfl) rfl (fun h=>nomatch h) rfl rfl ?_|refine WG.cq (E:=env) (t':=.d (dI (plc (C.on (B.on (A.on L)))))) (ob2:=[.pv [.d (nodesD ns),.og 1 (0+A.count+B.count+C.count)],.x (neC ((C.on (B.on (A.on L))).map coN) none) (0+A.count+B.count+C.count),.pv [.lp 0 0],.pv [.d (namesD names)],.pv (n.row.map .d),.pv [.clo 44 [.lp 2 0,.lp 4 0,.lp 3 0]],.pv [.lp 0 0],.pv [.d (dB false)],.pv [.d (dI 12),.d (dI (plc (A.on L))),.d (dI (plc (B.on (A.on L)))),.d (dI 0),.d (dI 0),.d (.nl 5)]]) [0,1,6,7] [0,(0+A.count+B.count),0,0] false rfl rfl h3 rfl rfl rfl rfl rfl rfl rfl ⟨rfl,rfl,rfl,rfl,trivial⟩ (.inl rfl) rfl (fun h=>nomatch h) rfl rfl ?_|refine WG.adoptD 21 5 5 132 rfl rfl rfl ?_|refine WG.loT (R:=[_,_,_,_,_,_,_]) (v:=[]) rfl rfl (put3I ns L ⟨12,0,0,0,0,[]⟩ A B C hl) rfl rfl ?_)
 refine W.ret ?_
 exact RetR.own (ob':=loI ns ((Pt.n3 12 0 A B C).on L) (0+A.count+B.count+C.count+1)++[bxL,bxV names,bxN n,bxB,bxL,bxT false]) ⟨[0,1,2,3,4,5,6,7],[0,0,0,0,0,0,0,0],10⟩ (.inl rfl) rfl rO rfl rfl rfl rfl rfl rfl ⟨(by simp[Ob.ren,Rn.of,Rn.ix,T.renL,T.ren]<;>rfl),(by simp[Ob.ren,Rn.of,Rn.ix,T.renL,T.ren]<;>rfl),rfl,rfl,rfl,rfl,rfl,rfl,trivial⟩ rfl ⟨rfl,rfl⟩
theorem choiceIn_fn (ns:List Nd)(names:List ByteArray)(n:Nd)(L:List Co)(A B C:Pt)(h1:CloI ns 44 [.lp 2 0,.lp 4 0,.lp 3 0] (envA names n) A L)(h2:CloI ns 104 [.lp 2 0,.lp 3 0] (truO true) B (A.on L))(h3:CloI ns 104 [.lp 2 0,.lp 3 0] (truO false) C (B.on (A.on L)))(hl:(C.on (B.on (A.on L))).length≤100000):
 FunQ env.P 52 [.lp 0 0,.clo 44 [.lp 2 0,.lp 4 0,.lp 3 0],.clo 104 [.lp 6 0,.lp 7 0],.clo 104 [.lp 8 0,.lp 9 0]] (loI ns L 0++[bxL,bxV names,bxN n,bxB,bxL,bxT true,bxL,bxT false]) (just (.d (dI (plc ((Pt.n3 12 0 A B C).on L)))) (loI ns ((Pt.n3 12 0 A B C).on L) (Pt.n3 12 0 A B C).count++[bxL,bxV names,bxN n,bxB,bxL,bxT true,bxL,bxT false])):=by
 have hcnt:(Pt.n3 12 0 A B C).count=0+A.count+B.count+C.count+1:=by rw[n3_count];omega
 rw[hcnt]
 clear hcnt
 unfold CloI at h1 h2 h3
 refine FunQ.intro Tryz.func52 rfl (by kernel_rfl) rfl ?_
 unfold Go.Proofs.YtmmjbpgdkokjgaaGreatDoor.loI
 repeat'(first|refine Z3 ?_|refine WG.cq (E:=env) (t':=.d (dI (plc (A.on L)))) (ob2:=[.pv [.d (nodesD ns),.og 1 (0+A.count)],.x (neC ((A.on L).map coN) none) (0+A.count),.pv [.lp 0 0],.pv [.d (namesD names)],.pv (n.row.map .d),.pv [.clo 44 [.lp 2 0,.lp 4 0,.lp 3 0]],.pv [.lp 0 0],.pv [.d (dB true)],.pv [.lp 0 0],.pv [.d (dB false)],.pv [.d (dI 12),.d (dI 0),.d (dI 0),.d (dI 0),.d (dI 0),.d (.nl 5)]]) [0,1,2,3,4] [0,0,0,0,0] false rfl rfl h1 rfl rfl rfl rfl rfl rfl rfl ⟨rfl,rfl,rfl,rfl,rfl,trivial⟩ (.inl rfl) rfl (fun h=>nomatch h) rfl rfl ?_|refine WG.cq (E:=env) (t':=.d (dI (plc (B.on (A.on L))))) (ob2:=[.pv [.d (nodesD ns),.og 1 (0+A.count+B.count)],.x (neC ((B.on (A.on L)).map coN) none) (0+A.count+B.count),.pv [.lp 0 0],.pv [.d (namesD names)],.pv (n.row.map .d),.pv [.clo 44 [.lp 2 0,.lp 4 0,.lp 3 0]],.pv [.lp 0 0],.pv [.d (dB true)],.pv [.lp 0 0],.pv [.d (dB false)],.pv [.d (dI 12),.d (dI (plc (A.on L))),.d (dI 0),.d (dI 0),.d (dI 0),.d (.nl 5)]]) [0,1,6,7] [0,(0+A.count),0,0] false rfl rfl h2 rfl rfl rfl rfl rfl rfl rfl ⟨rfl,rfl,rfl,rfl,trivial⟩ (.inl rfl) rfl (fun h=>nomatch h) rfl rfl ?_|refine WG.cq (E:=env) (t':=.d (dI (plc (C.on (B.on (A.on L)))))) (ob2:=[.pv [.d (nodesD ns),.og 1 (0+A.count+B.count+C.count)],.x (neC ((C.on (B.on (A.on L))).map coN) none) (0+A.count+B.count+C.count),.pv [.lp 0 0],.pv [.d (namesD names)],.pv (n.row.map .d),.pv [.clo 44 [.lp 2 0,.lp 4 0,.lp 3 0]],.pv [.lp 0 0],.pv [.d (dB true)],.pv [.lp 0 0],.pv [.d (dB false)],.pv [.d (dI 12),.d (dI (plc (A.on L))),.d (dI (plc (B.on (A.on L)))),.d (dI 0),.d (dI 0),.d (.nl 5)]]) [0,1,8,9] [0,(0+A.count+B.count),0,0] false rfl rfl h3 rfl rfl rfl rfl rfl rfl rfl ⟨rfl,rfl,rfl,rfl,trivial⟩ (.inl rfl) rfl (fun h=>nomatch h) rfl rfl ?_|refine WG.adoptD 21 5 5 132 rfl rfl rfl ?_|refine WG.loT (R:=[_,_,_,_,_,_,_,_,_]) (v:=[]) rfl rfl (put3I ns L ⟨12,0,0,0,0,[]⟩ A B C hl) rfl rfl ?_)
 refine W.ret ?_
 exact RetR.own (ob':=loI ns ((Pt.n3 12 0 A B C).on L) (0+A.count+B.count+C.count+1)++[bxL,bxV names,bxN n,bxB,bxL,bxT true,bxL,bxT false]) ⟨[0,1,2,3,4,5,6,7,8,9],[0,0,0,0,0,0,0,0,0,0],12⟩ (.inl rfl) rfl rO rfl rfl rfl rfl rfl rfl ⟨(by simp[Ob.ren,Rn.of,Rn.ix,T.renL,T.ren]<;>rfl),(by simp[Ob.ren,Rn.of,Rn.ix,T.renL,T.ren]<;>rfl),rfl,rfl,rfl,rfl,rfl,rfl,rfl,rfl,trivial⟩ rfl ⟨rfl,rfl⟩
theorem choiceNot_fn (ns:List Nd)(names:List ByteArray)(n:Nd)(L:List Co)(A B C:Pt)(h1:CloI ns 108 [.lp 2 0] ([bxL]) A L)(h2:CloI ns 104 [.lp 2 0,.lp 3 0] (truO false) B (A.on L))(h3:CloI ns 104 [.lp 2 0,.lp 3 0] (truO true) C (B.on (A.on L)))(hl:(C.on (B.on (A.on L))).length≤100000):
 FunQ env.P 52 [.lp 0 0,.clo 108 [.lp 2 0],.clo 104 [.lp 3 0,.lp 4 0],.clo 104 [.lp 5 0,.lp 6 0]] (loI ns L 0++[bxL,bxL,bxT false,bxL,bxT true]) (just (.d (dI (plc ((Pt.n3 12 0 A B C).on L)))) (loI ns ((Pt.n3 12 0 A B C).on L) (Pt.n3 12 0 A B C).count++[bxL,bxL,bxT false,bxL,bxT true])):=by
 have hcnt:(Pt.n3 12 0 A B C).count=0+A.count+B.count+C.count+1:=by rw[n3_count];omega
 rw[hcnt]
 clear hcnt
 unfold CloI at h1 h2 h3
 refine FunQ.intro Tryz.func52 rfl (by kernel_rfl) rfl ?_
 unfold Go.Proofs.YtmmjbpgdkokjgaaGreatDoor.loI
 repeat'(first|refine Z3 ?_|refine WG.cq (E:=env) (t':=.d (dI (plc (A.on L)))) (ob2:=[.pv [.d (nodesD ns),.og 1 (0+A.count)],.x (neC ((A.on L).map coN) none) (0+A.count),.pv [.lp 0 0],.pv [.lp 0 0],.pv [.d (dB false)],.pv [.lp 0 0],.pv [.d (dB true)],.pv [.d (dI 12),.d (dI 0),.d (dI 0),.d (dI 0),.d (dI 0),.d (.nl 5)]]) [0,1,2] [0,0,0] false rfl rfl h1 rfl rfl rfl rfl rfl rfl rfl ⟨rfl,rfl,rfl,trivial⟩ (.inl rfl) rfl (fun h=>nomatch h) rfl rfl ?_|refine WG.cq (E:=env) (t':=.d (dI (plc (B.on (A.on L))))) (ob2:=[.pv [.d (nodesD ns),.og 1 (0+A.count+B.count)],.x (neC ((B.on (A.on L)).map coN) none) (0+A.count+B.count),.pv [.lp 0 0],.pv [.lp 0 0],.pv [.d (dB false)],.pv [.lp 0 0],.pv [.d (dB true)],.pv [.d (dI 12),.d (dI (plc (A.on L))),.d (dI 0),.d (dI 0),.d (dI 0),.d (.nl 5)]]) [0,1,3,4] [0,(0+A.count),0,0] false rfl rfl h2 rfl rfl rfl rfl rfl rfl rfl ⟨rfl,rfl,rfl,rfl,trivial⟩ (.inl rfl) rfl (fun h=>nomatch h) rfl rfl ?_|refine WG.cq (E:=env) (t':=.d (dI (plc (C.on (B.on (A.on L)))))) (ob2:=[.pv [.d (nodesD ns),.og 1 (0+A.count+B.count+C.count)],.x (neC ((C.on (B.on (A.on L))).map coN) none) (0+A.count+B.count+C.count),.pv [.lp 0 0],.pv [.lp 0 0],.pv [.d (dB false)],.pv [.lp 0 0],.pv [.d (dB true)],.pv [.d (dI 12),.d (dI (plc (A.on L))),.d (dI (plc (B.on (A.on L)))),.d (dI 0),.d (dI 0),.d (.nl 5)]]) [0,1,5,6] [0,(0+A.count+B.count),0,0] false rfl rfl h3 rfl rfl rfl rfl rfl rfl rfl ⟨rfl,rfl,rfl,rfl,trivial⟩ (.inl rfl) rfl (fun h=>nomatch h) rfl rfl ?_|refine WG.adoptD 21 5 5 132 rfl rfl rfl ?_|refine WG.loT (R:=[_,_,_,_,_,_]) (v:=[]) rfl rfl (put3I ns L ⟨12,0,0,0,0,[]⟩ A B C hl) rfl rfl ?_)
 refine W.ret ?_
 exact RetR.own (ob':=loI ns ((Pt.n3 12 0 A B C).on L) (0+A.count+B.count+C.count+1)++[bxL,bxL,bxT false,bxL,bxT true]) ⟨[0,1,2,3,4,5,6],[0,0,0,0,0,0,0],9⟩ (.inl rfl) rfl rO rfl rfl rfl rfl rfl rfl ⟨(by simp[Ob.ren,Rn.of,Rn.ix,T.renL,T.ren]<;>rfl),(by simp[Ob.ren,Rn.of,Rn.ix,T.renL,T.ren]<;>rfl),rfl,rfl,rfl,rfl,rfl,trivial⟩ rfl ⟨rfl,rfl⟩
theorem choiceSel_fn (ns:List Nd)(names:List ByteArray)(n:Nd)(L:List Co)(A B C:Pt)(h1:CloI ns 43 [.lp 2 0,.lp 4 0,.lp 3 0] (envA names n) A L)(h2:CloI ns 106 [.lp 2 0] ([bxL]) B (A.on L))(h3:CloI ns 107 [.lp 2 0] ([bxL]) C (B.on (A.on L)))(hl:(C.on (B.on (A.on L))).length≤100000):
 FunQ env.P 52 [.lp 0 0,.clo 43 [.lp 2 0,.lp 4 0,.lp 3 0],.clo 106 [.lp 5 0],.clo 107 [.lp 5 0]] (loI ns L 0++[bxL,bxV names,bxN n,bxL]) (just (.d (dI (plc ((Pt.n3 12 0 A B C).on L)))) (loI ns ((Pt.n3 12 0 A B C).on L) (Pt.n3 12 0 A B C).count++[bxL,bxV names,bxN n,bxL])):=by
 have hcnt:(Pt.n3 12 0 A B C).count=0+A.count+B.count+C.count+1:=by rw[n3_count];omega
 rw[hcnt]
 clear hcnt
 unfold CloI at h1 h2 h3
 refine FunQ.intro Tryz.func52 rfl (by kernel_rfl) rfl ?_
 unfold Go.Proofs.YtmmjbpgdkokjgaaGreatDoor.loI
 repeat'(first|refine Z3 ?_|refine WG.cq (E:=env) (t':=.d (dI (plc (A.on L)))) (ob2:=[.pv [.d (nodesD ns),.og 1 (0+A.count)],.x (neC ((A.on L).map coN) none) (0+A.count),.pv [.lp 0 0],.pv [.d (namesD names)],.pv (n.row.map .d),.pv [.lp 0 0],.pv [.d (dI 12),.d (dI 0),.d (dI 0),.d (dI 0),.d (dI 0),.d (.nl 5)]]) [0,1,2,3,4] [0,0,0,0,0] false rfl rfl h1 rfl rfl rfl rfl rfl rfl rfl ⟨rfl,rfl,rfl,rfl,rfl,trivial⟩ (.inl rfl) rfl (fun h=>nomatch h) rfl rfl ?_|refine WG.cq (E:=env) (t':=.d (dI (plc (B.on (A.on L))))) (ob2:=[.pv [.d (nodesD ns),.og 1 (0+A.count+B.count)],.x (neC ((B.on (A.on L)).map coN) none) (0+A.count+B.count),.pv [.lp 0 0],.pv [.d (namesD names)],.pv (n.row.map .d),.pv [.lp 0 0],.pv [.d (dI 12),.d (dI (plc (A.on L))),.d (dI 0),.d (dI 0),.d (dI 0),.d (.nl 5)]]) [0,1,5] [0,(0+A.count),0] false rfl rfl h2 rfl rfl rfl rfl rfl rfl rfl ⟨rfl,rfl,rfl,trivial⟩ (.inl rfl) rfl (fun h=>nomatch h) rfl rfl ?_|refine WG.cq (E:=env) (t':=.d (dI (plc (C.on (B.on (A.on L)))))) (ob2:=[.pv [.d (nodesD ns),.og 1 (0+A.count+B.count+C.count)],.x (neC ((C.on (B.on (A.on L))).map coN) none) (0+A.count+B.count+C.count),.pv [.lp 0 0],.pv [.d (namesD names)],.pv (n.row.map .d),.pv [.lp 0 0],.pv [.d (dI 12),.d (dI (plc (A.on L))),.d (dI (plc (B.on (A.on L)))),.d (dI 0),.d (dI 0),.d (.nl 5)]]) [0,1,5] [0,(0+A.count+B.count),0] false rfl rfl h3 rfl rfl rfl rfl rfl rfl rfl ⟨rfl,rfl,rfl,trivial⟩ (.inl rfl) rfl (fun h=>nomatch h) rfl rfl ?_|refine WG.adoptD 21 5 5 132 rfl rfl rfl ?_|refine WG.loT (R:=[_,_,_,_,_]) (v:=[]) rfl rfl (put3I ns L ⟨12,0,0,0,0,[]⟩ A B C hl) rfl rfl ?_)
 refine W.ret ?_
 exact RetR.own (ob':=loI ns ((Pt.n3 12 0 A B C).on L) (0+A.count+B.count+C.count+1)++[bxL,bxV names,bxN n,bxL]) ⟨[0,1,2,3,4,5],[0,0,0,0,0,0],8⟩ (.inl rfl) rfl rO rfl rfl rfl rfl rfl rfl ⟨(by simp[Ob.ren,Rn.of,Rn.ix,T.renL,T.ren]<;>rfl),(by simp[Ob.ren,Rn.of,Rn.ix,T.renL,T.ren]<;>rfl),rfl,rfl,rfl,rfl,trivial⟩ rfl ⟨rfl,rfl⟩
theorem cellsLeaf_fn (k:Int)(hk:0≤k∧k≤5):Fun env.P 102 [.agg (V.mk k 0 noS [] []).rowP] (.og 0 0) [.gr 5 132 ((cellK k).map Cell.row) 0 false]:=
 cellsP_fn 1 (V.mk k 0 noS [] []) (by simp[V.count,V.counts]) (by omega) ⟨⟨hk.1,by omega⟩,fun h=>absurd rfl h,fun h=>absurd rfl h,fun h=>absurd rfl h,by decide,rfl,fun h=>absurd h (by omega),fun _=>rfl,(fun _ h=>by cases h),trivial,trivial⟩
theorem cellsTru_fn (b:Bool):Fun env.P 102 [.agg (V.mk (if b then 2 else 1) 0 noS [] []).rowP] (.og 0 0) [.gr 5 132 ((cellK (if b then 2 else 1)).map Cell.row) 0 false]:=by
 cases b
 ·exact cellsLeaf_fn 1 (by decide)
 ·exact cellsLeaf_fn 2 (by decide)
theorem truthK_fn (ns:List Nd)(L:List Co)(b:Bool)(hl:L.length≤100000):CloI ns 104 [.lp 2 0,.lp 3 0] (truO b) (truP b) L:=truthF_fn ns L b (cellsTru_fn b) hl
theorem call1_fn (ns:List Nd)(L:List Co)(hl:L.length≤100000):CloI ns 108 [.lp 2 0] [bxL] (Pt.lf 1 0) L:=by
 unfold CloI
 refine FunQ.intro Tryz.func108 rfl (by kernel_rfl) rfl ?_
 unfold Go.Proofs.YtmmjbpgdkokjgaaGreatDoor.loI
 repeat'(first|refine Z3 ?_|refine WG.adoptD 3 5 5 132 rfl rfl rfl ?_|refine WG.loT (R:=[_]) (v:=[]) rfl rfl (putLeafI ns L 1 0 hl) rfl rfl ?_)
 refine W.ret ?_
 exact RetR.own (ob':=loI ns ((Pt.lf 1 0).on L) 1++[bxL]) ⟨[0,1,2],[0,0,0],4⟩ (.inl rfl) rfl rO rfl rfl rfl rfl rfl rfl ⟨rfl,rfl,rfl,trivial⟩ rfl ⟨rfl,rfl⟩
theorem callOne1_fn (ns:List Nd)(L:List Co)(hl:L.length≤100000):CloI ns 106 [.lp 2 0] [bxL] (Pt.lf 1 0) L:=by
 unfold CloI
 refine FunQ.intro Tryz.func106 rfl (by kernel_rfl) rfl ?_
 unfold Go.Proofs.YtmmjbpgdkokjgaaGreatDoor.loI
 repeat'(first|refine Z3 ?_|refine WG.adoptD 3 5 5 132 rfl rfl rfl ?_|refine WG.loT (R:=[_]) (v:=[]) rfl rfl (putLeafI ns L 1 0 hl) rfl rfl ?_)
 refine W.ret ?_
 exact RetR.own (ob':=loI ns ((Pt.lf 1 0).on L) 1++[bxL]) ⟨[0,1,2],[0,0,0],4⟩ (.inl rfl) rfl rO rfl rfl rfl rfl rfl rfl ⟨rfl,rfl,rfl,trivial⟩ rfl ⟨rfl,rfl⟩
theorem callOne2_fn (ns:List Nd)(L:List Co)(hl:L.length≤100000):CloI ns 107 [.lp 2 0] [bxL] (Pt.lf 17 0) L:=by
 unfold CloI
 refine FunQ.intro Tryz.func107 rfl (by kernel_rfl) rfl ?_
 unfold Go.Proofs.YtmmjbpgdkokjgaaGreatDoor.loI
 repeat'(first|refine Z3 ?_|refine WG.adoptD 3 5 5 132 rfl rfl rfl ?_|refine WG.loT (R:=[_]) (v:=[]) rfl rfl (putLeafI ns L 17 0 hl) rfl rfl ?_)
 refine W.ret ?_
 exact RetR.own (ob':=loI ns ((Pt.lf 17 0).on L) 1++[bxL]) ⟨[0,1,2],[0,0,0],4⟩ (.inl rfl) rfl rO rfl rfl rfl rfl rfl rfl ⟨rfl,rfl,rfl,trivial⟩ rfl ⟨rfl,rfl⟩
abbrev DV :=DataW Value
def rdU :Value→Option (DV×List MemPlace):=fun v=>some (.held v,[])
abbrev keyL (x:ByteArray):Lit:=.string x.data.toList
theorem keyL_inj {x y:ByteArray}(h:keyL x=keyL y):x=y:=by
 injection h with h
 cases x;cases y
 simp only[ByteArray.mk.injEq]
 exact Array.toList_inj.1 h
theorem keyOf_str {P:Program}{k:TypeId}(hk:P.underlying k=some .string){v:Value}{kl:Lit}(h:keyOf P k v=some kl): ∃x:ByteArray,v=.string x∧kl=keyL x∧x.size≤maxLen:=by
 cases v<;>simp[keyOf,hk,mapKey] at h
 rename_i x
 exact⟨x,rfl,by simpa using h.2.symm,by simpa using h.1⟩
def mapR (σ:Sto)(DD:DV)(m:ByteArray→Option D):Prop:=
 ∀x:ByteArray,x.size≤maxLen→match m x with
  |none=>Maps.has DD (keyL x)=false
  |some d=>Maps.has DD (keyL x)=true∧ ∃u,(∀zd,DD.atKey (keyL x) zd=.held u)∧RD σ d u
theorem mapR.mono {σ σ':Sto}(hs: ∀b o u,σ b o=some u→σ' b o=some u){DD:DV}{m:ByteArray→Option D}(h:mapR σ DD m):mapR σ' DD m:=fun x hx=>by
 have:=h x hx
 split
 ·rename_i e;rw[e] at this;exact this
 ·rename_i d e
  rw[e] at this
  obtain⟨h1,u,h2,h3⟩:=this
  exact⟨h1,u,h2,h3.mono hs⟩
theorem mapR.empty (σ:Sto):mapR σ (.map []) (fun _=>none):=fun x hx=>rfl
theorem mapR.put {σ:Sto}{DD:DV}{m:ByteArray→Option D}(h:mapR σ DD m)(hm:Maps.IsMap DD){s:ByteArray}{d:D}{u:Value}(hu:RD σ d u):mapR σ (DD.put (keyL s) (.held u)) (fun x=>if x=s then some d else m x):=fun x hx=>by
 by_cases e:x=s
 ·subst e
  simp only[if_true]
  exact⟨Maps.has_put_same hm (show WideAt.IsKeyLit (.string _) from trivial) _,u,fun zd=>Maps.atKey_put_same hm (show WideAt.IsKeyLit (.string _) from trivial) _ _,hu⟩
 ·simp only[if_neg e]
  have hne:keyL x≠keyL s:=fun h=>e (keyL_inj h)
  have:=h x hx
  rw[Maps.has_put_other hne]
  split
  ·rename_i e1;rw[e1] at this;exact this
  ·rename_i d1 e1
   rw[e1] at this
   obtain⟨h1,u1,h2,h3⟩:=this
   exact⟨h1,u1,fun zd=>by rw[Maps.atKey_put_other hne];exact h2 zd,h3⟩
theorem ownsMap_swap {w w':World}{P:Program}{k:TypeId}{b n:Nat}{DD:DV}(hb:w'.heap[b]? =w.heap[b]?)(h:w.ownsMap P k rdU b n DD):w'.ownsMap P k rdU b n DD:=by
 obtain⟨es,clock,h1,h2⟩:=h
 exact⟨es,clock,hb.trans h1,h2⟩
theorem ranges_swap {w w':World}{P:Program}{k:TypeId}{b r n:Nat}{DD:DV}{left:Lit→Bool}{cnt:Nat}(hb:w'.heap[b]? =w.heap[b]?)(hr:w'.heap[r]? =w.heap[r]?)(h:w.ranges P k rdU b r n DD left cnt):
 w'.ranges P k rdU b r n DD left cnt:=by
 obtain⟨es,clock,since,seen,c0,h1,h2,h3,h4,h5,h6⟩:=h
 exact⟨es,clock,since,seen,c0,hb.trans h1,h2,h3,h4,hr.trans h5,h6⟩
def mapX (P:Program)(k:TypeId)(b n:Nat)(m:ByteArray→Option D):ObX where
 ok σ h F v:=v=.map (some b)∧(∀c,F c↔c=b)∧ ∃(w:World) (DD:DV),w.heap[b]? =h b∧w.ownsMap P k rdU b n DD∧mapR σ DD m
 mono:=by
  rintro σ σ' h h' F v hs hh ⟨h1,h2,w,DD,h3,h4,h5⟩
  exact⟨h1,h2,w,DD,h3.trans (hh b ((h2 b).2 rfl)).symm,h4,h5.mono hs⟩
 one:=by rintro σ h F v ⟨h1,_⟩;rw[h1];rfl
def itX (P:Program)(k:TypeId)(b r n:Nat)(m:ByteArray→Option D)(lf:ByteArray→Bool)(cnt:Nat)(cur:Option ByteArray):ObX where
 ok σ h F v:=v=.map (some b)∧(∀c,F c↔(c=b∨c=r))∧ ∃(w:World) (DD:DV) (left:Lit→Bool),w.heap[b]? =h b∧w.heap[r]? =h r∧w.ranges P k rdU b r n DD left cnt∧mapR σ DD m∧
  (∀x:ByteArray,x.size≤maxLen→left (keyL x)=lf x)∧
  ∀x,cur=some x→ ∃u,∀w':World,w'.heap[b]? =h b→w'.heap[r]? =h r→(Instr.entry (.pointer (some ⟨r,0,none⟩))).run P w'=.ok (.tuple #[.string x,u]) w'
 mono:=by
  rintro σ σ' h h' F v hs hh ⟨h1,h2,w,DD,left,h3,h4,h5,h6,h7,h8⟩
  have hb:=hh b ((h2 b).2 (.inl rfl))
  have hr:=hh r ((h2 r).2 (.inr rfl))
  exact⟨h1,h2,w,DD,left,h3.trans hb.symm,h4.trans hr.symm,h5,h6.mono hs,h7,fun x hx=>by
   obtain⟨u,hu⟩:=h8 x hx
   exact⟨u,fun w' e1 e2=>hu w' (e1.trans hb) (e2.trans hr)⟩⟩
 one:=by rintro σ h F v ⟨h1,_⟩;rw[h1];rfl
theorem next_it {P:Program}{k:TypeId}{w:World}{b r n:Nat}{DD:DV}{left:Lit→Bool}{cnt:Nat}(h:w.ranges P k rdU b r n DD left cnt)(hk:P.underlying k=some .string)(ty:TypeId):
 (cnt=0∧(∀kl,left kl=false)∧(Instr.next (.pointer (some ⟨r,0,none⟩)) false ty).run P w=.ok (.tuple #[.bool false]) w)∨
 ∃(x:ByteArray) (u:Value) (w':World) (cnt':Nat),x.size≤maxLen∧left (keyL x)=true∧(∀zd,DD.atKey (keyL x) zd=.held u)∧(Instr.next (.pointer (some ⟨r,0,none⟩)) false ty).run P w=.ok (.tuple #[.bool true,.string x,u]) w'∧
  w'.ranges P k rdU b r n DD (fun z=>left z&& !z.sameKey (keyL x)) cnt'∧cnt'<cnt∧w.grownBy w' (some r)∧w'.heap.size=w.heap.size∧
  ∀w2:World,w2.heap[b]? =w'.heap[b]? →w2.heap[r]? =w'.heap[r]? →(Instr.entry (.pointer (some ⟨r,0,none⟩))).run P w2=.ok (.tuple #[.string x,u]) w2:=by
 have K:=Maps.string_keyed hk
 have h0:=h
 obtain⟨es,clock,since,seen,c0,hb,F,hs,_,hr,hold,_,_,_,hsc,hsk⟩:=h0
 rcases h.next K ty with⟨h1,h2,h3⟩|⟨key,v,kl,y,w',cnt',hkey,hlk,hv,hat,hrun,hrg,hlt,hgr,hsz,hen⟩
 ·exact .inl ⟨h1,h2,h3⟩
 ·obtain⟨x,rfl,rfl,hx⟩:=keyOf_str hk hkey
  have hy:y.1=.held v:=by
   have:some (DataW.held v,([]:List MemPlace))=some y:=hv
   rw[←Option.some.inj this]
  refine .inr ⟨x,v,w',cnt',hx,hlk,fun zd=>by rw[hat zd,hy],hrun,hrg,hlt,hgr,hsz,fun w2 e1 e2=>?_⟩
  rcases run_next_at (P:=P) w ty r b since c0 seen es clock hr hb hold hsc with⟨_,hrun0⟩|⟨e,he,w1,hal,hrun1⟩
  ·rw[hrun] at hrun0
   simp at hrun0
  ·rw[hrun] at hrun1
   simp only[Result.ok.injEq,Value.tuple.injEq,Array.mk.injEq,List.cons.injEq,true_and,and_true] at hrun1
   obtain⟨⟨hke,hva⟩,hw⟩:=hrun1
   have hr1:w1.heap[r]? =some (.mapIter (some b) since seen c0):=by rcases hal with rfl|rfl<;>exact hr
   have hb1:w1.heap[b]? =some (.map es clock):=by rcases hal with rfl|rfl<;>exact hb
   have hset:=MapKept.heap_set (o':=.mapIter (some b) since (seen.push e.born) clock) hr1
   have hb':=(hset.2 b (fun e1=>h.ne e1.symm)).trans hb1
   have hem:=(mem_left he).1
   rw[hw] at e1 e2
   have:=run_entry_at (P:=P) w2 r b since seen es clock e (e2.trans hset.1) (e1.trans hb') hem ((MapKept.stamped_iff es clock).1 F.stamped).2.1
   rw[this,←hke,←hva]
section
variable {E:Env}{N:Nm}{Q:Exit→St→Prop}{S:St}{ops l:List Oper}{ty:TypeId}{pos:String}{after:Array Edge}{gd:Option (Nat×Bool)}{d:Nat}
abbrev mpT (b:Nat):T:=.d (.v (.map (some b)))
abbrev itT (r:Nat):T:=.d (.v (.pointer (some ⟨r,0,none⟩)))
theorem WL.makeMap {t kt:TypeId}(hw:S.want ops ⟨some d,.makeMap t none,ty,pos,after,gd⟩=some true)(hd:Nat.blt d N.n=true)
 (k: ∀b,WL E.P N ops l Q ⟨(S.set d (mpT b)).tm,S.ob++[.x (mapX E.P kt b 0 (fun _=>none)) 0]⟩):WL E.P N ops (⟨some d,.makeMap t none,ty,pos,after,gd⟩::l) Q S:=
 WL.oper hw fun w0 σ0 a w g r=>by
  obtain⟨g',hle,hσ,hl1,hγ,I'⟩:=r.inv.addF (below_alloc w (.map #[] 0)) (.x (mapX E.P kt w.heap.size 0 (fun _=>none)) 0) (.map (some w.heap.size)) (fun c=>c=w.heap.size) (fun g' hle hσ hl1 hγ hf=>by
   have hnew:=heap_alloc_new w (.map #[] 0)
   refine⟨⟨hl1,⟨hγ,fun c=>by rw[hf],w.alloc (.map #[] 0),.map [],rfl,World.ownsMap_made w E.P kt rdU,mapR.empty _⟩,fun b hb=>?_⟩,fun b hb=>?_⟩
   ·rw[hf] at hb
    have hb':b=w.heap.size:=hb
    subst hb'
    exact⟨.inl r.inv.below.size,(Array.getElem?_eq_some_iff.1 hnew).1,fun o=>by rw[hσ];exact r.inv.new_none (Nat.le_refl _) o⟩
   ·have hb:g'.foot S.ob.length b:=hb
    rw[hf] at hb
    have hb':b=w.heap.size:=hb
    omega) (by rw[r.hm];exact r.hl)
  unfold Oper.wp Oper.upon
  simp only[execOp,run_makeMap,Sem.run_bind,Option.map_none,Result.andThen_ok]
  have r':Rel N w0 σ0 ⟨S.tm,S.ob++[.x (mapX E.P kt w.heap.size 0 (fun _=>none)) 0]⟩ a (w.alloc (.map #[] 0)) g':=⟨I',r.defers,r.size,r.hm,Nat.le_trans r.hl (by simp),fun i=>(r.tm i).mono hle⟩
  exact k w.heap.size w0 σ0 _ _ g' (r'.set (by simpa using hd) (.d _ _ (.v _)))
theorem WL.mapUpdate {t kt et:TypeId}{x y v:Operand}{b n nn kk:Nat}{s:ByteArray}{dv:D}{m:ByteArray→Option D}(hw:S.want ops ⟨none,.mapUpdate t x y v,ty,pos,after,gd⟩=some true)
 (ht:E.P.underlying t=some (.map kt et)) (hkt:E.P.underlying kt=some .string) (hx:S.ev x=mpT b) (hy:S.ev y=.d (.v (.string s))) (hv:S.ev v=.d dv) (hm:S.ob[kk]? =some (.x (mapX E.P kt b n m) nn)) (hs:s.size≤maxLen) (hn:n<maxLen)
 (k:WL E.P N ops l Q ⟨S.tm,S.ob.set kk (.x (mapX E.P kt b (n+1) (fun x=>if x=s then some dv else m x)) nn)⟩):WL E.P N ops (⟨none,.mapUpdate t x y v,ty,pos,after,gd⟩::l) Q S:=
 WL.effskip (by simp) hw (fun w0 σ0 a w g R=>by
  have hxr:=R.ev x;rw[hx] at hxr
  have hyr:=R.ev y;rw[hy] at hyr
  have hvr:=R.ev v;rw[hv] at hvr
  obtain⟨hlim,⟨h1,h2,w1,DD,hb,hown,hmR⟩,hfoot⟩:=R.inv.obs kk _ hm
  have hown:=ownsMap_swap hb.symm hown
  obtain⟨w',hrun,hown',hg⟩:=hown.update (Maps.string_keyed hkt) ht hn (WideMaps.keyOf_string_mk hkt hs) (val:=a.eval v) (d:=.held (a.eval v)) (ps:=[]) rfl
  refine⟨w',g,?_,Gh.le_refl g,R.inv.turn hm (by intros;simp) (by omega) (Gh.le_refl g) rfl (fun _ _=>⟨rfl,rfl⟩) hg.os hg.tape hg.output hg.size (fun b' hb' hn'=>hg.block b' hb' fun e=>hn' ((h2 b').2 (Option.some.inj e))) ?_ (fun _ h=>.inl h)⟩
  ·simp[execOp,hxr.inv_v,hyr.inv_v,hrun]
  ·exact⟨hlim,⟨h1,h2,w',_,rfl,hown',hmR.put hown.isMap hvr.inv_d⟩,fun b' hb'=>⟨(hfoot b' hb').1,Nat.lt_of_lt_of_le (hfoot b' hb').2.1 hg.size,(hfoot b' hb').2.2⟩⟩) k
theorem WL.rangeM {t kt et:TypeId}{x:Operand}{b n nn kk:Nat}{m:ByteArray→Option D}(hw:S.want ops ⟨some d,.range t x,ty,pos,after,gd⟩=some true)(hd:Nat.blt d N.n=true)
 (ht:E.P.underlying t=some (.map kt et)) (hkt:E.P.underlying kt=some .string) (hx:S.ev x=mpT b) (hm:S.ob[kk]? =some (.x (mapX E.P kt b n m) nn))
 (k: ∀r cnt,WL E.P N ops l Q ⟨(S.set d (itT r)).tm,S.ob.set kk (.x (itX E.P kt b r n m (fun x=>(m x).isSome) cnt none) nn)⟩):WL E.P N ops (⟨some d,.range t x,ty,pos,after,gd⟩::l) Q S:=
 WL.oper hw fun w0 σ0 a w g R=>by
  have hxr:=R.ev x;rw[hx] at hxr
  obtain⟨hlim,⟨h1,h2,w1,DD,hb,hown,hmR⟩,hfoot⟩:=R.inv.obs kk _ hm
  have hown:=ownsMap_swap hb.symm hown
  obtain⟨w',hrun,hrg,hg,hsz⟩:=hown.range (Maps.string_keyed hkt) ht
  let g':Gh:={ g with foot:=fun j=>if j=kk then(fun c=>c=b∨c=w.heap.size) else g.foot j }
  have hle:g.le g':=⟨fun _ _ _ h=>h,fun _ _ h=>⟨h,rfl⟩⟩
  have I':Inv w0 σ0 (S.ob.set kk (.x (itX E.P kt b w.heap.size n m (fun x=>(m x).isSome) (Maps.size DD) none) nn)) w' g':=by
   refine R.inv.turn hm (by intros;simp) (by omega) hle rfl (fun j hj=>⟨rfl,by simp[g',hj]⟩) hg.os hg.tape hg.output hg.size (fun b' hb' _=>hg.block b' hb' (by simp)) ⟨hlim,⟨h1,fun c=>by simp[g'],w',DD,Maps.has DD,rfl,rfl,hrg,hmR,fun z hz=>?_,fun z hz=>by cases hz⟩,fun b' hb'=>?_⟩ (fun b' hb'=>?_)
   ·have:=hmR z hz
    cases e:m z with
    |none=>simp only[e] at this ⊢;exact this
    |some d1=>simp only[e] at this ⊢;exact this.1
   ·have hb':g'.foot kk b':=hb'
    simp only[g',if_true] at hb'
    rcases hb' with rfl|rfl
    ·have:=hfoot b' ((h2 b').2 rfl)
     exact⟨this.1,Nat.lt_of_lt_of_le this.2.1 hg.size,this.2.2⟩
    ·exact⟨.inl R.inv.below.size,by omega,fun o=>R.inv.new_none (Nat.le_refl _) o⟩
   ·have hb':g'.foot kk b':=hb'
    simp only[g',if_true] at hb'
    rcases hb' with rfl|rfl
    ·exact .inl ((h2 b').2 rfl)
    ·exact .inr (Nat.le_refl _)
  unfold Oper.wp Oper.upon
  simp only[execOp,hxr.inv_v,hrun,Sem.run_bind,Result.andThen_ok]
  have r':Rel N w0 σ0 ⟨S.tm,S.ob.set kk (.x (itX E.P kt b w.heap.size n m (fun x=>(m x).isSome) (Maps.size DD) none) nn)⟩ a w' g':=⟨I',R.defers,R.size,R.hm,Nat.le_trans R.hl (by simp),fun i=>(R.tm i).mono hle⟩
  exact k w.heap.size (Maps.size DD) w0 σ0 _ _ g' (r'.set (by simpa using hd) (.d _ _ (.v _)))
theorem WL.nextM {kt:TypeId}{x:Operand}{b r n nn kk cnt:Nat}{m:ByteArray→Option D}{lf:ByteArray→Bool}{cur:Option ByteArray}(hw:S.want ops ⟨some d,.next x false,ty,pos,after,gd⟩=some true)(hd:Nat.blt d N.n=true)
 (hkt:E.P.underlying kt=some .string) (hx:S.ev x=itT r) (hm:S.ob[kk]? =some (.x (itX E.P kt b r n m lf cnt cur) nn))
 (k0:(∀y:ByteArray,y.size≤maxLen→lf y=false)→WL E.P N ops l Q ⟨(S.set d (.tup [.d (.v (.bool false))])).tm,S.ob⟩)
 (k1: ∀(y:ByteArray) (cnt':Nat),y.size≤maxLen→lf y=true→(m y).isSome=true→cnt'<cnt→
   WL E.P N ops l Q ⟨(S.set d (.tup [.d (.v (.bool true)),.d (.v (.string y)),.any])).tm,S.ob.set kk (.x (itX E.P kt b r n m (fun z=>lf z&& !decide (z=y)) cnt' (some y)) nn)⟩):
 WL E.P N ops (⟨some d,.next x false,ty,pos,after,gd⟩::l) Q S:=
 WL.oper hw fun w0 σ0 a w g R=>by
  have hxr:=R.ev x;rw[hx] at hxr
  obtain⟨hlim,⟨h1,h2,w1,DD,left,hb,hr,hrg,hmR,hlf,_⟩,hfoot⟩:=R.inv.obs kk _ hm
  have hrg:=ranges_swap hb.symm hr.symm hrg
  unfold Oper.wp Oper.upon
  rcases next_it hrg hkt ty with⟨e0,hall,hrun⟩|⟨y,u,w',cnt',hys,hly,hat,hrun,hrg',hlt,hg,hsz,hen⟩
  ·simp only[execOp,hxr.inv_v,hrun,Sem.run_bind,Result.andThen_ok]
   exact k0 (fun y hy=>by rw[←hlf y hy,hall]) w0 σ0 _ _ g (R.set (by simpa using hd) (.tup [.d (.v (.bool false))] [.bool false] rfl fun i t v ht hv=>by
    match i with
    |0=>simp at ht hv;subst ht;subst hv;exact .d _ _ (.v _)
    |i+1=>simp at ht))
  ·have I':Inv w0 σ0 (S.ob.set kk (.x (itX E.P kt b r n m (fun z=>lf z&& !decide (z=y)) cnt' (some y)) nn)) w' g:=by
    refine R.inv.turn hm (by intros;simp) (by omega) (Gh.le_refl g) rfl (fun j hj=>⟨rfl,rfl⟩) hg.os hg.tape hg.output hg.size (fun b' hb' hn=>hg.block b' hb' fun e=>hn ((h2 b').2 (.inr (Option.some.inj e))))
     ⟨hlim,⟨h1,h2,w',DD,_,rfl,rfl,hrg',hmR,fun z hz=>?_,fun z hz=>?_⟩,fun b' hb'=>⟨(hfoot b' hb').1,by rw[hsz];exact(hfoot b' hb').2.1,(hfoot b' hb').2.2⟩⟩ (fun b' hb'=>.inl hb')
    ·simp only[hlf z hz]
     congr 2
     by_cases e:z=y
     ·subst e
      rw[WideAt.sameKey_self (show WideAt.IsKeyLit (.string _) from trivial)];simp
     ·rw[Maps.sameKey_ne fun h=>e (keyL_inj h)];simp[e]
    ·cases hz
     exact⟨u,hen⟩
   have hsome:(m y).isSome=true:=by
    have:=hmR y hys
    cases e:m y with
    |none=>
     rw[e] at this
     have h:=hat .nil
     rw[Maps.atKey_of_not_has this] at h
     cases h
    |some d1=>rfl
   simp only[execOp,hxr.inv_v,hrun,Sem.run_bind,Result.andThen_ok]
   have r':Rel N w0 σ0 ⟨S.tm,S.ob.set kk (.x (itX E.P kt b r n m (fun z=>lf z&& !decide (z=y)) cnt' (some y)) nn)⟩ a w' g:=⟨I',R.defers,R.size,R.hm,Nat.le_trans R.hl (by simp),R.tm⟩
   exact k1 y cnt' hys (by rw[←hlf y hys];exact hly) hsome hlt w0 σ0 _ _ g (r'.set (by simpa using hd) (.tup [.d (.v (.bool true)),.d (.v (.string y)),.any] [.bool true,.string y,u] rfl fun i t v ht hv=>by
    match i with
    |0=>simp at ht hv;subst ht;subst hv;exact .d _ _ (.v _)
    |1=>simp at ht hv;subst ht;subst hv;exact .d _ _ (.v _)
    |2=>simp at ht hv;subst ht;exact .any _
    |i+3=>simp at ht))
theorem WL.entryM {kt:TypeId}{x:Operand}{b r n nn kk cnt:Nat}{m:ByteArray→Option D}{lf:ByteArray→Bool}{y:ByteArray}(hw:S.want ops ⟨some d,.entry x,ty,pos,after,gd⟩=some true)(hd:Nat.blt d N.n=true)
 (hx:S.ev x=itT r) (hm:S.ob[kk]? =some (.x (itX E.P kt b r n m lf cnt (some y)) nn))
 (k:WL E.P N ops l Q (S.set d (.tup [.d (.v (.string y)),.any]))):WL E.P N ops (⟨some d,.entry x,ty,pos,after,gd⟩::l) Q S:=
 WL.val hw hd (fun w0 σ0 a w g R=>by
  have hxr:=R.ev x;rw[hx] at hxr
  obtain⟨hlim,⟨h1,h2,w1,DD,left,hb,hr,hrg,hmR,hlf,hen⟩,hfoot⟩:=R.inv.obs kk _ hm
  obtain⟨u,hu⟩:=hen y rfl
  refine⟨.tuple #[.string y,u],?_,.tup [.d (.v (.string y)),.any] [.string y,u] rfl fun i t v ht hv=>?_⟩
  ·simp[execOp,hxr.inv_v,hu w rfl rfl]
  ·match i with
   |0=>simp at ht hv;subst ht;subst hv;exact .d _ _ (.v _)
   |1=>simp at ht hv;subst ht;exact .any _
   |i+2=>simp at ht) k
theorem WL.lookupM {t kt et:TypeId}{x y:Operand}{b r n nn kk cnt:Nat}{m:ByteArray→Option D}{lf:ByteArray→Bool}{cur:Option ByteArray}{s:ByteArray}{dv:D}(hw:S.want ops ⟨some d,.lookup t x y false,ty,pos,after,gd⟩=some true)(hd:Nat.blt d N.n=true)
 (ht:E.P.underlying t=some (.map kt et)) (hkt:E.P.underlying kt=some .string) (het:(E.ty et).known=true) (hx:S.ev x=mpT b) (hy:S.ev y=.d (.v (.string s))) (hm:S.ob[kk]? =some (.x (itX E.P kt b r n m lf cnt cur) nn))
 (hs:s.size≤maxLen) (hms:m s=some dv)
 (k:WL E.P N ops l Q (S.set d (.d dv))):WL E.P N ops (⟨some d,.lookup t x y false,ty,pos,after,gd⟩::l) Q S:=
 WL.val hw hd (fun w0 σ0 a w g R=>by
  have hxr:=R.ev x;rw[hx] at hxr
  have hyr:=R.ev y;rw[hy] at hyr
  obtain⟨inf,z,hinf,_,_,hz,_⟩:=E.info het
  obtain⟨hlim,⟨h1,h2,w1,DD,left,hb,hr,hrg,hmR,_⟩,hfoot⟩:=R.inv.obs kk _ hm
  have hown:=ownsMap_swap hb.symm hrg.owns
  have:=hmR s hs
  rw[hms] at this
  obtain⟨_,u,hat,hu⟩:=this
  obtain⟨v,ps,hrun,hv⟩:=hown.lookup (e:=et) (Maps.string_keyed hkt) ht (z:=z) (by simp[zeroValue,typeInfo,hinf,hz]) (zd:=.held z) (zp:=[]) rfl (WideMaps.keyOf_string_mk hkt hs)
  rw[hat] at hv
  have hv:some (DataW.held v,([]:List MemPlace))=some (.held u,ps):=hv
  injection hv with hv
  injection hv with hv _
  injection hv with hv
  subst hv
  exact⟨v,by simp[execOp,hxr.inv_v,hyr.inv_v,hrun],.d _ _ hu⟩) k
end
section
variable {E:Env}{G:List Nat}{N:Nm}{Q:Exit→St→Prop}{tm:Nat→T}{ob:List Ob}{ops l:List Oper}{ty:TypeId}{pos:String}{after:Array Edge}{gd:Option (Nat×Bool)}{d:Nat}
theorem WG.mkM' {t:TypeId}(kt:TypeId)(k: ∀b,WG G E.P N ops l Q ⟨upd tm d (mpT b),ob++[.x (mapX E.P kt b 0 (fun _=>none)) 0]⟩)
 (hw:St.want ⟨tm,ob⟩ ops ⟨some d,.makeMap t none,ty,pos,after,gd⟩=some true:=by exact rfl) (hd:Nat.blt d N.n=true:=by exact rfl):WG G E.P N ops (⟨some d,.makeMap t none,ty,pos,after,gd⟩::l) Q ⟨tm,ob⟩:=
 WL.makeMap (S:=⟨tm,ob⟩) hw hd k
theorem WG.upM' {t kt et:TypeId}{x y v:Operand}{b n nn:Nat}{s:ByteArray}{dv:D}{m:ByteArray→Option D}(kk:Nat)(ht:E.P.underlying t=some (.map kt et))(hkt:E.P.underlying kt=some .string)
 (k:WG G E.P N ops l Q ⟨tm,ob.set kk (.x (mapX E.P kt b (n+1) (fun x=>if x=s then some dv else m x)) nn)⟩)
 (hw:St.want ⟨tm,ob⟩ ops ⟨none,.mapUpdate t x y v,ty,pos,after,gd⟩=some true:=by exact rfl) (hx:St.ev ⟨tm,ob⟩ x=mpT b:=by exact rfl) (hy:St.ev ⟨tm,ob⟩ y=.d (.v (.string s)):=by exact rfl) (hv:St.ev ⟨tm,ob⟩ v=.d dv:=by exact rfl)
 (hm:ob[kk]? =some (.x (mapX E.P kt b n m) nn):=by exact rfl) (hs:s.size≤maxLen:=by first|assumption|omega) (hn:n<maxLen:=by first|assumption|omega):WG G E.P N ops (⟨none,.mapUpdate t x y v,ty,pos,after,gd⟩::l) Q ⟨tm,ob⟩:=
 WL.mapUpdate (S:=⟨tm,ob⟩) hw ht hkt hx hy hv hm hs hn k
theorem WG.rgM' {t kt et:TypeId}{x:Operand}{b n nn:Nat}{m:ByteArray→Option D}(kk:Nat)(ht:E.P.underlying t=some (.map kt et))(hkt:E.P.underlying kt=some .string)
 (k: ∀r cnt,WG G E.P N ops l Q ⟨upd tm d (itT r),ob.set kk (.x (itX E.P kt b r n m (fun x=>(m x).isSome) cnt none) nn)⟩)
 (hw:St.want ⟨tm,ob⟩ ops ⟨some d,.range t x,ty,pos,after,gd⟩=some true:=by exact rfl) (hd:Nat.blt d N.n=true:=by exact rfl) (hx:St.ev ⟨tm,ob⟩ x=mpT b:=by exact rfl) (hm:ob[kk]? =some (.x (mapX E.P kt b n m) nn):=by exact rfl):
 WG G E.P N ops (⟨some d,.range t x,ty,pos,after,gd⟩::l) Q ⟨tm,ob⟩:=WL.rangeM (S:=⟨tm,ob⟩) hw hd ht hkt hx hm k
theorem WG.nxM' {kt:TypeId}{x:Operand}{b r n nn cnt:Nat}{m:ByteArray→Option D}{lf:ByteArray→Bool}{cur:Option ByteArray}(kk:Nat)(hkt:E.P.underlying kt=some .string)
 (k0:(∀y:ByteArray,y.size≤maxLen→lf y=false)→WG G E.P N ops l Q ⟨upd tm d (.tup [.d (.v (.bool false))]),ob⟩)
 (k1: ∀(y:ByteArray) (cnt':Nat),y.size≤maxLen→lf y=true→(m y).isSome=true→cnt'<cnt→
   WG G E.P N ops l Q ⟨upd tm d (.tup [.d (.v (.bool true)),.d (.v (.string y)),.any]),ob.set kk (.x (itX E.P kt b r n m (fun z=>lf z&& !decide (z=y)) cnt' (some y)) nn)⟩)
 (hw:St.want ⟨tm,ob⟩ ops ⟨some d,.next x false,ty,pos,after,gd⟩=some true:=by exact rfl) (hd:Nat.blt d N.n=true:=by exact rfl) (hx:St.ev ⟨tm,ob⟩ x=itT r:=by exact rfl) (hm:ob[kk]? =some (.x (itX E.P kt b r n m lf cnt cur) nn):=by exact rfl):
 WG G E.P N ops (⟨some d,.next x false,ty,pos,after,gd⟩::l) Q ⟨tm,ob⟩:=WL.nextM (S:=⟨tm,ob⟩) hw hd hkt hx hm k0 k1
theorem WG.enM' {kt:TypeId}{x:Operand}{b r n nn cnt:Nat}{m:ByteArray→Option D}{lf:ByteArray→Bool}{y:ByteArray}(kk:Nat)
 (k:WG G E.P N ops l Q ⟨upd tm d (.tup [.d (.v (.string y)),.any]),ob⟩)
 (hw:St.want ⟨tm,ob⟩ ops ⟨some d,.entry x,ty,pos,after,gd⟩=some true:=by exact rfl) (hd:Nat.blt d N.n=true:=by exact rfl) (hx:St.ev ⟨tm,ob⟩ x=itT r:=by exact rfl) (hm:ob[kk]? =some (.x (itX E.P kt b r n m lf cnt (some y)) nn):=by exact rfl):
 WG G E.P N ops (⟨some d,.entry x,ty,pos,after,gd⟩::l) Q ⟨tm,ob⟩:=WL.entryM (S:=⟨tm,ob⟩) hw hd hx hm k
theorem WG.lkM' {t kt et:TypeId}{x y:Operand}{b r n nn cnt:Nat}{m:ByteArray→Option D}{lf:ByteArray→Bool}{cur:Option ByteArray}{s:ByteArray}{dv:D}(kk:Nat)(ht:E.P.underlying t=some (.map kt et))(hkt:E.P.underlying kt=some .string)(hms:m s=some dv)
 (k:WG G E.P N ops l Q ⟨upd tm d (.d dv),ob⟩)
 (hw:St.want ⟨tm,ob⟩ ops ⟨some d,.lookup t x y false,ty,pos,after,gd⟩=some true:=by exact rfl) (hd:Nat.blt d N.n=true:=by exact rfl) (het:(E.ty et).known=true:=by exact rfl) (hx:St.ev ⟨tm,ob⟩ x=mpT b:=by exact rfl) (hy:St.ev ⟨tm,ob⟩ y=.d (.v (.string s)):=by exact rfl)
 (hm:ob[kk]? =some (.x (itX E.P kt b r n m lf cnt cur) nn):=by exact rfl) (hs:s.size≤maxLen:=by first|assumption|omega):WG G E.P N ops (⟨some d,.lookup t x y false,ty,pos,after,gd⟩::l) Q ⟨tm,ob⟩:=WL.lookupM (S:=⟨tm,ob⟩) hw hd ht hkt het hx hy hm hs hms k
end
section
variable {E:Env}{N:Nm}{Q:Exit→St→Prop}{S:St}{ops l:List Oper}{ty:TypeId}{pos:String}{after:Array Edge}{gd:Option (Nat×Bool)}{d:Nat}
theorem WL.insM {t kt et:TypeId}{x y v:Operand}{b n nn kk:Nat}{s:ByteArray}{dv:D}{m:ByteArray→Option D}(hw:S.want ops ⟨none,.insert t x y v,ty,pos,after,gd⟩=some true)
 (ht:E.P.underlying t=some (.map kt et)) (hkt:E.P.underlying kt=some .string) (hx:S.ev x=mpT b) (hy:S.ev y=.d (.v (.string s))) (hv:S.ev v=.d dv) (hm:S.ob[kk]? =some (.x (mapX E.P kt b n m) nn)) (hs:s.size≤maxLen) (hn:n<maxLen)
 (k:WL E.P N ops l Q ⟨S.tm,S.ob.set kk (.x (mapX E.P kt b (n+1) (fun x=>if x=s then some dv else m x)) nn)⟩):WL E.P N ops (⟨none,.insert t x y v,ty,pos,after,gd⟩::l) Q S:=
 WL.effskip (by simp) hw (fun w0 σ0 a w g R=>by
  have hxr:=R.ev x;rw[hx] at hxr
  have hyr:=R.ev y;rw[hy] at hyr
  have hvr:=R.ev v;rw[hv] at hvr
  obtain⟨hlim,⟨h1,h2,w1,DD,hb,hown,hmR⟩,hfoot⟩:=R.inv.obs kk _ hm
  have hown:=ownsMap_swap hb.symm hown
  obtain⟨w',hrun,hown',hg⟩:=hown.update (Maps.string_keyed hkt) ht hn (WideMaps.keyOf_string_mk hkt hs) (val:=a.eval v) (d:=.held (a.eval v)) (ps:=[]) rfl
  refine⟨w',g,?_,Gh.le_refl g,R.inv.turn hm (by intros;simp) (by omega) (Gh.le_refl g) rfl (fun _ _=>⟨rfl,rfl⟩) hg.os hg.tape hg.output hg.size (fun b' hb' hn'=>hg.block b' hb' fun e=>hn' ((h2 b').2 (Option.some.inj e))) ?_ (fun _ h=>.inl h)⟩
  ·simp[execOp,hxr.inv_v,hyr.inv_v,hrun]
  ·exact⟨hlim,⟨h1,h2,w',_,rfl,hown',hmR.put hown.isMap hvr.inv_d⟩,fun b' hb'=>⟨(hfoot b' hb').1,Nat.lt_of_lt_of_le (hfoot b' hb').2.1 hg.size,(hfoot b' hb').2.2⟩⟩) k
theorem WL.lookX {t kt et:TypeId}{x y:Operand}{b n nn kk:Nat}{m:ByteArray→Option D}{s:ByteArray}{dv:D}(hw:S.want ops ⟨some d,.lookup t x y false,ty,pos,after,gd⟩=some true)(hd:Nat.blt d N.n=true)
 (ht:E.P.underlying t=some (.map kt et)) (hkt:E.P.underlying kt=some .string) (het:(E.ty et).known=true) (hx:S.ev x=mpT b) (hy:S.ev y=.d (.v (.string s))) (hm:S.ob[kk]? =some (.x (mapX E.P kt b n m) nn))
 (hs:s.size≤maxLen) (hms:m s=some dv)
 (k:WL E.P N ops l Q (S.set d (.d dv))):WL E.P N ops (⟨some d,.lookup t x y false,ty,pos,after,gd⟩::l) Q S:=
 WL.val hw hd (fun w0 σ0 a w g R=>by
  have hxr:=R.ev x;rw[hx] at hxr
  have hyr:=R.ev y;rw[hy] at hyr
  obtain⟨inf,z,hinf,_,_,hz,_⟩:=E.info het
  obtain⟨hlim,⟨h1,h2,w1,DD,hb,hown,hmR⟩,hfoot⟩:=R.inv.obs kk _ hm
  have hown:=ownsMap_swap hb.symm hown
  have:=hmR s hs
  rw[hms] at this
  obtain⟨_,u,hat,hu⟩:=this
  obtain⟨v,ps,hrun,hv⟩:=hown.lookup (e:=et) (Maps.string_keyed hkt) ht (z:=z) (by simp[zeroValue,typeInfo,hinf,hz]) (zd:=.held z) (zp:=[]) rfl (WideMaps.keyOf_string_mk hkt hs)
  rw[hat] at hv
  have hv:some (DataW.held v,([]:List MemPlace))=some (.held u,ps):=hv
  injection hv with hv
  injection hv with hv _
  injection hv with hv
  subst hv
  exact⟨v,by simp[execOp,hxr.inv_v,hyr.inv_v,hrun],.d _ _ hu⟩) k
end
section
variable {E:Env}{G:List Nat}{N:Nm}{Q:Exit→St→Prop}{tm:Nat→T}{ob:List Ob}{ops l:List Oper}{ty:TypeId}{pos:String}{after:Array Edge}{gd:Option (Nat×Bool)}{d:Nat}
theorem WG.insM' {t kt et:TypeId}{x y v:Operand}{b n nn:Nat}{s:ByteArray}{dv:D}{m:ByteArray→Option D}(kk:Nat)(ht:E.P.underlying t=some (.map kt et))(hkt:E.P.underlying kt=some .string)
 (k:WG G E.P N ops l Q ⟨tm,ob.set kk (.x (mapX E.P kt b (n+1) (fun x=>if x=s then some dv else m x)) nn)⟩)
 (hw:St.want ⟨tm,ob⟩ ops ⟨none,.insert t x y v,ty,pos,after,gd⟩=some true:=by exact rfl) (hx:St.ev ⟨tm,ob⟩ x=mpT b:=by exact rfl) (hy:St.ev ⟨tm,ob⟩ y=.d (.v (.string s)):=by exact rfl) (hv:St.ev ⟨tm,ob⟩ v=.d dv:=by exact rfl)
 (hm:ob[kk]? =some (.x (mapX E.P kt b n m) nn):=by exact rfl) (hs:s.size≤maxLen:=by first|assumption|omega) (hn:n<maxLen:=by first|assumption|omega):WG G E.P N ops (⟨none,.insert t x y v,ty,pos,after,gd⟩::l) Q ⟨tm,ob⟩:=
 WL.insM (S:=⟨tm,ob⟩) hw ht hkt hx hy hv hm hs hn k
theorem WG.lkX' {t kt et:TypeId}{x y:Operand}{b n nn:Nat}{m:ByteArray→Option D}{s:ByteArray}{dv:D}(kk:Nat)(ht:E.P.underlying t=some (.map kt et))(hkt:E.P.underlying kt=some .string)(hms:m s=some dv)
 (k:WG G E.P N ops l Q ⟨upd tm d (.d dv),ob⟩)
 (hw:St.want ⟨tm,ob⟩ ops ⟨some d,.lookup t x y false,ty,pos,after,gd⟩=some true:=by exact rfl) (hd:Nat.blt d N.n=true:=by exact rfl) (het:(E.ty et).known=true:=by exact rfl) (hx:St.ev ⟨tm,ob⟩ x=mpT b:=by exact rfl) (hy:St.ev ⟨tm,ob⟩ y=.d (.v (.string s)):=by exact rfl)
 (hm:ob[kk]? =some (.x (mapX E.P kt b n m) nn):=by exact rfl) (hs:s.size≤maxLen:=by first|assumption|omega):WG G E.P N ops (⟨some d,.lookup t x y false,ty,pos,after,gd⟩::l) Q ⟨tm,ob⟩:=WL.lookX (S:=⟨tm,ob⟩) hw hd ht hkt het hx hy hm hs hms k
end
end Go.Proofs.YtmmjbpgdkokjgaaGreatDoor
