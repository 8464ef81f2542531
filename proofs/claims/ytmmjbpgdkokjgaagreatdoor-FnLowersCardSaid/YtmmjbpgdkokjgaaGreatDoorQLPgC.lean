/-
  A text of this claim. Conditions: none.
-/
import Derived.Test.YtmmjbpgdkokjgaaGreatDoorQLPgB
import Derived.ProofKit
import Derived.OpenShut
import Derived.Below
import Derived.ChangeSame
import Derived.ChangeAgain
import Derived.WideKeyArgs
import Derived.Deep.Slices
import Derived.Deep.Fields
import Derived.Laws.MakeOwn
import Derived.MapKept
import Derived.Deep.Quiet
set_option linter.unusedVariables false
set_option linter.unusedSimpArgs false
set_option maxRecDepth 100000
set_option maxHeartbeats 16000000
namespace Go.Proofs.YtmmjbpgdkokjgaaGreatDoor
open Go.RowKit
def resOKB (E:Env)(S:St):List ResultVar→Bool
 |[]=>true
 |.tmp _::r=>resOKB E S r
 |.cell a t::r=>(E.ty t).agg&&(match S.tm a with
   |.lp l _=>match S.ob[l]? with|some (.pv cs)=>Nat.beq (E.ty t).size cs.length|_=>false
   |_=>false)&&resOKB E S r
theorem resOK_of {E:Env}{S:St}: ∀ {l:List ResultVar},resOKB E S l=true→resOK E.P S l
 |[],_=>trivial
 |.tmp _::r,h=>resOK_of (l:=r) h
 |.cell a t::r,h=>by
  simp only[resOKB,Bool.and_eq_true] at h
  obtain⟨⟨h1,h2⟩,h3⟩:=h
  obtain⟨hk,fs,hu,_⟩:=E.struct h1
  obtain⟨i,_,hi,hs,_⟩:=E.info hk
  refine⟨⟨fs,hu⟩,?_,resOK_of h3⟩
  split at h2
  ·rename_i l off hl
   rw[hl]
   split at h2
   ·rename_i cs hcs
    simp only[hcs]
    refine⟨?_,by rw[hi];rfl⟩
    rw[←Nat.eq_of_beq_eq_true h2]
    simp[Program.cellsOf,hi,hs]
   ·cases h2
  ·cases h2
theorem RetQ.mk {P:Program}{fn:Func}{t:T}{ob:List Ob}{e:Exit}{S:St}{ts:List T}{tt:T}(he:e=.ret∨e=.normal)(hts:resL S fn.results.toList=some ts)(hok:resOK P S fn.results.toList)
 (hn:norm S.ob (resT ts)=tt) (ht:tt=t) (ho:obsLe ob.length ob S.ob) (hu:t.under ob.length=true):RetQ P fn t ob e S:=by
 subst ht;subst hn
 exact⟨he,ts,hts,hok,Fin.norm (Fin.drop ho hu)⟩
theorem RetQ.b {P:Program}{fn:Func}{e:Exit}{S:St}{ts:List T}{x y:Bool}(he:e=.ret∨e=.normal)(hts:resL S fn.results.toList=some ts)(hok:resOK P S fn.results.toList)
 (hn:norm S.ob (resT ts)=.d (.v (.bool x))) (h:x=y):RetR P fn 0 (just (.d (.v (.bool y))) []) e S:=(RetQ.mk (ob:=[]) he hts hok hn (by rw[h]) trivial rfl).r ⟨rfl,rfl⟩
theorem RetQ.b' {P:Program}{fn:Func}{e:Exit}{S:St}{ts:List T}{x y:Bool}(h:x=y)
 (he:e=.ret∨e=.normal:=by exact .inl rfl) (hts:resL S fn.results.toList=some ts:=by exact rfl) (hok:resOK P S fn.results.toList:=by first|trivial|exact resOK_of (by exact rfl)) (hn:norm S.ob (resT ts)=.d (.v (.bool x)):=by exact rfl):RetR P fn 0 (just (.d (.v (.bool y))) []) e S:=
 RetQ.b he hts hok hn h
theorem RetQ.i {P:Program}{fn:Func}{e:Exit}{S:St}{ts:List T}{k k':IntKind}{x y:Int}(he:e=.ret∨e=.normal)(hts:resL S fn.results.toList=some ts)(hok:resOK P S fn.results.toList)
 (hn:norm S.ob (resT ts)=.d (.v (.int k x))) (hk:k=k') (h:x=y):RetR P fn 0 (just (.d (.v (.int k' y))) []) e S:=(RetQ.mk (ob:=[]) he hts hok hn (by rw[h,hk]) trivial rfl).r ⟨rfl,rfl⟩
theorem RetQ.i' {P:Program}{fn:Func}{e:Exit}{S:St}{ts:List T}{k k':IntKind}{x y:Int}(h:x=y)
 (he:e=.ret∨e=.normal:=by exact .inl rfl) (hts:resL S fn.results.toList=some ts:=by exact rfl) (hok:resOK P S fn.results.toList:=by first|trivial|exact resOK_of (by exact rfl)) (hn:norm S.ob (resT ts)=.d (.v (.int k x)):=by exact rfl) (hk:k=k':=by exact rfl):RetR P fn 0 (just (.d (.v (.int k' y))) []) e S:=
 RetQ.i he hts hok hn hk h
theorem RetQ.d {P:Program}{fn:Func}{e:Exit}{S:St}{ts:List T}{x y:D}(he:e=.ret∨e=.normal)(hts:resL S fn.results.toList=some ts)(hok:resOK P S fn.results.toList)
 (hn:norm S.ob (resT ts)=.d x) (h:x=y):RetR P fn 0 (just (.d y) []) e S:=(RetQ.mk (ob:=[]) he hts hok hn (by rw[h]) trivial rfl).r ⟨rfl,rfl⟩
theorem RetQ.d' {P:Program}{fn:Func}{e:Exit}{S:St}{ts:List T}{x y:D}(h:x=y)
 (he:e=.ret∨e=.normal:=by exact .inl rfl) (hts:resL S fn.results.toList=some ts:=by exact rfl) (hok:resOK P S fn.results.toList:=by first|trivial|exact resOK_of (by exact rfl)) (hn:norm S.ob (resT ts)=.d x:=by exact rfl):RetR P fn 0 (just (.d y) []) e S:=
 RetQ.d he hts hok hn h
theorem RetQ.t2 {P:Program}{fn:Func}{e:Exit}{S:St}{ts:List T}{x x' y y':D}(he:e=.ret∨e=.normal)(hts:resL S fn.results.toList=some ts)(hok:resOK P S fn.results.toList)
 (hn:norm S.ob (resT ts)=.tup [.d x,.d x']) (h:x=y) (h':x'=y'):RetR P fn 0 (just (.tup [.d y,.d y']) []) e S:=(RetQ.mk (ob:=[]) he hts hok hn (by rw[h,h']) trivial rfl).r ⟨rfl,rfl⟩
theorem RetQ.t2' {P:Program}{fn:Func}{e:Exit}{S:St}{ts:List T}{x x' y y':D}(h:x=y)(h':x'=y')
 (he:e=.ret∨e=.normal:=by exact .inl rfl) (hts:resL S fn.results.toList=some ts:=by exact rfl) (hok:resOK P S fn.results.toList:=by first|trivial|exact resOK_of (by exact rfl)) (hn:norm S.ob (resT ts)=.tup [.d x,.d x']:=by exact rfl):RetR P fn 0 (just (.tup [.d y,.d y']) []) e S:=
 RetQ.t2 he hts hok hn h h'
theorem RetQ.t3 {P:Program}{fn:Func}{e:Exit}{S:St}{ts:List T}{x x' x2 y y' y2:D}(he:e=.ret∨e=.normal)(hts:resL S fn.results.toList=some ts)(hok:resOK P S fn.results.toList)
 (hn:norm S.ob (resT ts)=.tup [.d x,.d x',.d x2]) (h:x=y) (h':x'=y') (h2:x2=y2):RetR P fn 0 (just (.tup [.d y,.d y',.d y2]) []) e S:=(RetQ.mk (ob:=[]) he hts hok hn (by rw[h,h',h2]) trivial rfl).r ⟨rfl,rfl⟩
theorem RetQ.t3' {P:Program}{fn:Func}{e:Exit}{S:St}{ts:List T}{x x' x2 y y' y2:D}(h:x=y)(h':x'=y')(h2:x2=y2)
 (he:e=.ret∨e=.normal:=by exact .inl rfl) (hts:resL S fn.results.toList=some ts:=by exact rfl) (hok:resOK P S fn.results.toList:=by first|trivial|exact resOK_of (by exact rfl)) (hn:norm S.ob (resT ts)=.tup [.d x,.d x',.d x2]:=by exact rfl):RetR P fn 0 (just (.tup [.d y,.d y',.d y2]) []) e S:=
 RetQ.t3 he hts hok hn h h' h2
def renOKL (r:Rn):Nat→List Ob→Bool
 |_,[]=>true
 |i,o::l=>o.renOK r i&&renOKL r (i+1) l
theorem renOKL_at {r:Rn}: ∀ {l:List Ob} {i:Nat},renOKL r i l=true→ ∀(k:Nat) (o:Ob),l[k]? =some o→o.renOK r (i+k)=true
 |[],i,_,k,o,h=>by simp at h
 |p::l,i,h,k,o,hk=>by
  simp only[renOKL,Bool.and_eq_true] at h
  cases k with
  |zero=>simp at hk;subst hk;exact h.1
  |succ k=>
   have:=renOKL_at h.2 k o (by simpa using hk)
   rwa [show i+1+k=i+(k+1) by omega] at this
def idxOK (r:Rn):Nat→Bool
 |0=>true
 |n+1=>idxOK r n&&(Nat.ble r.idx.length n||(Nat.beq (r.ix n) n&&Nat.beq (r.of n) 0))
theorem idxOK_at {r:Rn}: ∀ {n:Nat},idxOK r n=true→ ∀k,k<n→k<r.idx.length→r.ix k=k∧r.of k=0
 |0,_,k,h,_=>by omega
 |n+1,h,k,hk,hl=>by
  simp only[idxOK,Bool.and_eq_true,Bool.or_eq_true] at h
  by_cases e:k=n
  ·subst e
   rcases h.2 with h2|h2
   ·have:=Nat.le_of_ble_eq_true h2;omega
   ·exact⟨Nat.eq_of_beq_eq_true h2.1,Nat.eq_of_beq_eq_true h2.2⟩
  ·exact idxOK_at h.1 k (by omega) hl
theorem Inv.pullF {w0:World}{σ0:Bs}{ob ob':List Ob}{w:World}{g:Gh}(I:Inv w0 σ0 ob w g){r:Rn}(hK:r.K=ob.length)(hnd:r.idx.Nodup)(hA:ob'.length=r.idx.length)(hs:renOKL r 0 ob'=true)(hmt:matchO r ob 0 ob')
 (hm: ∀k,k<σ0.m→k<r.idx.length→r.ix k=k∧r.of k=0):Inv w0 σ0 ob' w (g.pull r):=by
 have hK': ∀k,r.K≤k→g.lim k=0:=fun k hk=>I.lim k (by omega)
 have hobs: ∀(k:Nat) (o:Ob),ob'[k]? =some o→k<r.idx.length∧ObOK (mineB w0 σ0) (g.pull r) w k o∧(∀b,(g.pull r).at k o b↔g.at (r.ix k) (o.ren r k) b)∧ob[r.ix k]? =some (o.ren r k):=fun k o hk=>by
  have h1:=renOKL_at hs k o hk
  have h2:=matchO_at hmt k o hk
  rw[Nat.zero_add] at h1 h2
  have hlt:k<r.idx.length:=by rw[←hA];exact(List.getElem?_eq_some_iff.1 hk).1
  obtain⟨p1,p2⟩:=(I.obs _ _ h2).pull hK' hlt h1
  exact⟨hlt,p1,p2,h2⟩
 refine⟨I.below,I.old,I.con,fun k o hk=>(hobs k o hk).2.1,fun k hk=>?_,fun k k' o o' b hne ho ho' hb hb'=>?_,fun k hk=>?_⟩
 ·simp only[Gh.pull]
  rw[if_neg (by omega)]
 ·obtain⟨hlt,_,q1,q2⟩:=hobs k o ho
  obtain⟨hlt',_,q1',q2'⟩:=hobs k' o' ho'
  have e1:=Rn.ix_lt (r:=r) (List.getElem?_eq_getElem hlt)
  have e2:=Rn.ix_lt (r:=r) (List.getElem?_eq_getElem hlt')
  refine I.dis _ _ _ _ b (fun e=>hne ?_) q2 q2' ((q1 b).1 hb) ((q1' b).1 hb')
  rw[e1,e2] at e
  exact(List.getElem_inj hnd).1 e
 ·by_cases h:k<r.idx.length
  ·obtain⟨h1,h2⟩:=hm k hk h
   rcases I.ext k hk with h3|h3
   ·left;simp only[Gh.pull,h1,h2,if_pos h,h3]
   ·right;simp only[Gh.pull,h1,h2];exact h3
  ·left;simp only[Gh.pull,if_neg h]
theorem RetR.own {P:Program}{fn:Func}{m:Nat}{R:T→List Ob→Prop}{t:T}{ob':List Ob}{e:Exit}{S:St}{ts:List T}(r:Rn)(he:e=.ret∨e=.normal)(hts:resL S fn.results.toList=some ts)(hok:resOK P S fn.results.toList)
 (hn:norm S.ob (resT ts)=T.ren r t) (hlp:T.lpOK r t=true) (hK:r.K=S.ob.length) (hnd:nodupB r.idx=true) (hA:Nat.beq ob'.length r.idx.length=true) (hs:renOKL r 0 ob'=true) (hmt:matchO r S.ob 0 ob') (hm:idxOK r m=true)
 (hR:R t ob'):RetR P fn m R e S:=by
 refine⟨he,ts,hts,hok,fun w0 σ0 w g v hm0 I hv=>⟨t,ob',g.pull r,hR,I.pullF hK (nodupB_ok hnd) (Nat.eq_of_beq_eq_true hA) hs hmt (fun k hk hl=>idxOK_at hm k (by omega) hl),?_⟩⟩
 refine RT.pull (fun k hk=>I.lim k (by omega)) t v hlp ?_
 rw[←hn]
 exact I.norm hv
theorem RetQ.own {P:Program}{fn:Func}{t:T}{e:Exit}{S:St}{ts:List T}{tt:T}(k n:Nat){z z':Nat}{e' e2:TypeId}{rows rows':List (List D)}{pub pub':Bool}(he:e=.ret∨e=.normal)(hts:resL S fn.results.toList=some ts)(hok:resOK P S fn.results.toList)
 (hn:norm S.ob (resT ts)=tt) (ht:tt=t.ren ⟨[k],[n],S.ob.length⟩) (hlp:T.lpOK ⟨[k],[n],S.ob.length⟩ t=true) (hk:S.ob[k]? =some (.gr z e' rows n pub)) (hg:Ob.gr z e' rows 0 pub=.gr z' e2 rows' 0 pub'):RetR P fn 0 (just t [.gr z' e2 rows' 0 pub']) e S:=by
 subst hn
 rw[←hg]
 exact RetR.own (ob':=[.gr z e' rows 0 pub]) ⟨[k],[n],S.ob.length⟩ he hts hok ht hlp rfl rfl rfl rfl ⟨hk,trivial⟩ rfl ⟨rfl,rfl⟩
theorem Inv.adopt {w0:World}{σ0:Bs}{ob:List Ob}{w:World}{g:Gh}(I:Inv w0 σ0 ob w g)(hm:σ0.m≤ob.length)(z:Nat)(e:TypeId):
 ∃g',g.le g'∧Inv w0 σ0 (ob++[.gr z e [] 0 false]) w g'∧RT g' (.og ob.length 0) (.slice none 0 0):=
 I.addGr hm (Below.refl _ _) z e [] (.slice none 0 0) [] (World.ownsRow_nil w _ _ _) (fun r h=>by cases h) (fun i j r x h=>by simp at h) (fun u h=>by cases h)
theorem W.adoptTm {P:Program}{N:Nm}{c:Code}{Q:Exit→St→Prop}{S:St}(i:Nat)(e:TypeId){z:Nat}(hi:S.tm i=.d (.nl z))
 (h:W P N c Q ⟨(S.set i (.og S.ob.length 0)).tm,S.ob++[.gr z e [] 0 false]⟩):W P N c Q S:=fun w0 σ0 a w g r=>by
 obtain⟨g',hle,I,ht⟩:=r.inv.adopt (by rw[r.hm];exact r.hl) z e
 refine h w0 σ0 a w g' ⟨I,r.defers,r.size,r.hm,by have:=r.hl;simp;omega,fun j=>?_⟩
 by_cases hj:j=i
 ·subst hj
  have:=r.tm j
  rw[hi] at this
  rw[this.inv_d.inv_nl]
  simp only[St.set,show Nat.beq j j=true by simp,cond_true]
  exact ht
 ·simp only[St.set,nbeq hj,cond_false]
  exact(r.tm j).mono hle
theorem W.adoptPv {P:Program}{N:Nm}{c:Code}{Q:Exit→St→Prop}{S:St}(l off:Nat)(e:TypeId){z:Nat}{cs:List T}(hl:S.ob[l]? =some (.pv cs))(ho:cs[off]? =some (.d (.nl z)))
 (h:W P N c Q ⟨S.tm,S.ob.set l (.pv (cs.set off (.og S.ob.length 0)))++[.gr z e [] 0 false]⟩):W P N c Q S:=fun w0 σ0 a w g r=>by
 obtain⟨g',hle,I,ht⟩:=r.inv.adopt (by rw[r.hm];exact r.hl) z e
 have hlt:l<S.ob.length:=(List.getElem?_eq_some_iff.1 hl).1
 refine h w0 σ0 a w g' ⟨?_,r.defers,r.size,r.hm,by have:=r.hl;simp;omega,fun j=>(r.tm j).mono hle⟩
 have hl2:(S.ob++[Ob.gr z e [] 0 false])[l]? =some (.pv cs):=by rw[List.getElem?_append_left hlt];exact hl
 rw[←List.set_append_left _ _ hlt]
 obtain⟨h1,b,vs,e',h2,h3,h4,h5,h6,h7,h8⟩:=I.obs l _ hl2
 refine I.turn hl2 (fun _ _ _ _ h=>by cases h) (by omega) (Gh.le_refl g') rfl (fun _ _=>⟨rfl,rfl⟩) rfl rfl rfl (Nat.le_refl _) (fun _ _ _=>rfl) ⟨h1,b,vs,e',h2,h3,h4,by simpa using h5,fun i x u hx hu=>?_,h7,h8⟩ fun _ hb=>.inl hb
 by_cases hi:off=i
 ·subst hi
  have hlo:off<cs.length:=(List.getElem?_eq_some_iff.1 ho).1
  rw[List.getElem?_set_self hlo] at hx
  simp only[Option.some.injEq] at hx
  subst hx
  have:=(h6 off _ u ho hu).inv_d.inv_nl
  rw[this]
  exact ht
 ·rw[List.getElem?_set_ne hi] at hx
  exact h6 i x u hx hu
theorem Fun.raw {P:Program}{f:FuncId}{args:List D}{t:T}{ob:List Ob}(h:Fun P f args t ob)(w:World)(σ0:Sto)(vals:List Value)(hσ: ∀b o u,σ0 b o=some u→w.cell? ⟨b,o,none⟩=some u)(hl:vals.length=args.length)
 (hr: ∀(i:Nat) (x:D) (u:Value),args[i]? =some x→vals[i]? =some u→RD σ0 x u):
 Calls P f vals.toArray w fun e w'=> ∃v g,e=.returned v∧Below w.heap.size w w'∧(∀b o u,g.σ b o=some u→w'.cell? ⟨b,o,none⟩=some u)∧RT g t v:=by
 have hI:Inv w (baseOf [] ⟨σ0,fun _ _=>undef,fun _=>0,fun _ _=>False⟩) [] w ⟨σ0,fun _ _=>undef,fun _=>0,fun _ _=>False⟩:=
  ⟨.refl _ _,fun _ _ _ _=>rfl,hσ,fun k o h=>by simp at h,fun _ _=>rfl,fun k k' o o' b _ h=>by simp at h,fun k h=>by simp[baseOf] at h⟩
 refine(h.calls w ⟨σ0,fun _ _=>undef,fun _=>0,fun _ _=>False⟩ vals hI (by simpa using hl) fun i x u hx hu=>?_).mono fun e w' ⟨v,t',ob',g',he,⟨h1,h2⟩,J,hv⟩=>?_
 ·simp only[List.getElem?_map,Option.map_eq_some_iff] at hx
  obtain⟨y,hy,rfl⟩:=hx
  exact .d _ _ (hr i y u hy hu)
 ·subst h1
  exact⟨v,g',he,⟨J.below.os,J.below.tape,J.below.output,J.below.size,fun b hb=>J.below.block b hb fun⟨k,o,h,_⟩=>by simp at h⟩,J.con,hv⟩
theorem Fun.ofRaw {P:Program}{f:FuncId}{args:List D}{t:T}(he: ∀(vals:Array Value) (w:World),(callFunc f vals).run P w=.ok (.enter f vals) w)
 (h: ∀(w:World) (σ0:Sto) (vals:List Value),(∀b o u,σ0 b o=some u→w.cell? ⟨b,o,none⟩=some u)→vals.length=args.length→(∀(i:Nat) (x:D) (u:Value),args[i]? =some x→vals[i]? =some u→RD σ0 x u)→
   Calls P f vals.toArray w fun e w'=> ∃v,e=.returned v∧Below w.heap.size w w'∧ ∀g,RT g t v):Fun P f args t []:=by
 refine⟨he,fun w g vals hI hl hr=>?_⟩
 refine(h w g.σ vals hI.con (by simpa using hl) fun i x u hx hu=>(hr i (.d x) u (by simp[hx]) hu).inv_d).mono fun e w' ⟨v,h1,h2,h3⟩=>?_
 have hc: ∀b o u,g.σ b o=some u→w'.cell? ⟨b,o,none⟩=some u:=fun b o u hu=>by
  rw[World.cell?_of_block (w:=w) (w':=w') (h2.block b (World.block_lt_of_cell? w ⟨b,o,none⟩ (hI.con b o u hu)))]
  exact hI.con b o u hu
 exact⟨v,t,[],g,h1,⟨rfl,rfl⟩,⟨hI.below.trans h2,hI.old,hc,fun k o h=>by simp at h,hI.lim,fun k k' o o' b _ h=>by simp at h,hI.ext⟩,h3 g⟩
def upd (f:Nat→T)(i:Nat)(t:T):Nat→T:=fun j=>bif Nat.beq j i then t else f j
def leU (f g:Nat→T):Prop:= ∀i,f i=.any∨g i=f i
theorem leU.refl (f:Nat→T):leU f f:=fun _=>.inr rfl
theorem leU.step {f g:Nat→T}{d:Nat}{t:T}(h:f d=.any)(k:leU f g):leU f (upd g d t):=fun i=>by
 by_cases e:i=d
 ·subst e;exact .inl h
 ·simp only[upd,nbeq e,cond_false];exact k i
theorem leU.forget {f g:Nat→T}{d:Nat}(k:leU f g):leU (upd f d .any) g:=fun i=>by
 by_cases e:i=d
 ·subst e
  simp only[upd,show Nat.beq i i=true by simp,cond_true];exact .inl trivial
 ·simp only[upd,nbeq e,cond_false];exact k i
section
variable {P:Program}{E:Env}{N:Nm}{Q:Exit→St→Prop}{tm:Nat→T}{ob:List Ob}{ops l:List Oper}{op:Op}{ty:TypeId}{pos:String}{after:Array Edge}{gd:Option (Nat×Bool)}{d:Nat}{G:List Nat}
def WG (_:List Nat)(P:Program)(N:Nm)(ops l:List Oper)(Q:Exit→St→Prop)(S:St):Prop:=WL P N ops l Q S
theorem WG.nil (h:Q .normal ⟨tm,ob⟩):WG G P N ops [] Q ⟨tm,ob⟩:=WL.nil h
theorem W.rg {id:Nat}(h:WG [] P N l l Q ⟨tm,ob⟩):W P N (.region id l.toArray false) Q ⟨tm,ob⟩:=W.region h
theorem WG.s {p:Prop}{t:T}(hw:St.want ⟨tm,ob⟩ ops ⟨some d,op,ty,pos,after,gd⟩=some true)(hd:Nat.blt d N.n=true)(h:ev1 E ⟨tm,ob⟩ op ty=some (p,t))(hp:p)
 (k:WG G E.P N ops l Q ⟨upd tm d t,ob⟩):WG G E.P N ops (⟨some d,op,ty,pos,after,gd⟩::l) Q ⟨tm,ob⟩:=WL.simple hw hd h hp k
theorem WG.p (hw:St.want ⟨tm,ob⟩ ops ⟨some d,op,ty,pos,after,gd⟩=some false)(hd:Nat.blt d N.n=true)
 (k:WG G P N ops l Q ⟨upd tm d (.d (.v undef)),ob⟩):WG G P N ops (⟨some d,op,ty,pos,after,gd⟩::l) Q ⟨tm,ob⟩:=WL.pass hw hd k
theorem WG.px (hw:St.want ⟨tm,ob⟩ ops ⟨none,op,ty,pos,after,gd⟩=some false)
 (k:WG G P N ops l Q ⟨tm,ob⟩):WG G P N ops (⟨none,op,ty,pos,after,gd⟩::l) Q ⟨tm,ob⟩:=WL.passx hw k
theorem WG.sp {o p:Oper}{j:Nat}{b c:Bool}(hg:o.guard=some (j,b))(hG:G.elem j=false)(hp:ops[j]? =some p)(hd:p.dst=some d)(hc:tm d=.d (.v (.bool c)))
 (ht:c=true→WG (j::G) P N ops (o::l) Q ⟨upd tm d (.d (.v (.bool true))),ob⟩) (hf:c=false→WG (j::G) P N ops (o::l) Q ⟨upd tm d (.d (.v (.bool false))),ob⟩):
 WG G P N ops (o::l) Q ⟨tm,ob⟩:=WL.split (S:=⟨tm,ob⟩) hg hp hd hc ht hf
theorem WG.sp' {o p:Oper}{j:Nat}{b c:Bool}(ht:c=true→WG (j::G) P N ops (o::l) Q ⟨upd tm d (.d (.v (.bool true))),ob⟩)(hf:c=false→WG (j::G) P N ops (o::l) Q ⟨upd tm d (.d (.v (.bool false))),ob⟩)
 (hg:o.guard=some (j,b):=by exact rfl) (hG:G.elem j=false:=by exact rfl) (hp:ops[j]? =some p:=by exact rfl) (hd:p.dst=some d:=by exact rfl) (hc:tm d=.d (.v (.bool c)):=by exact rfl):WG G P N ops (o::l) Q ⟨tm,ob⟩:=
 WG.sp hg hG hp hd hc ht hf
theorem WG.gt {o:Oper}{j:Nat}{b:Bool}(hg:o.guard=some (j,b))(hG:G.elem j=false)(hw:St.want ⟨tm,ob⟩ ops o=some true)(k:WG (j::G) P N ops (o::l) Q ⟨tm,ob⟩):WG G P N ops (o::l) Q ⟨tm,ob⟩:=k
theorem WG.gt' {o:Oper}{j:Nat}{b:Bool}(k:WG (j::G) P N ops (o::l) Q ⟨tm,ob⟩)
 (hg:o.guard=some (j,b):=by exact rfl) (hG:G.elem j=false:=by exact rfl) (hw:St.want ⟨tm,ob⟩ ops o=some true:=by exact rfl):WG G P N ops (o::l) Q ⟨tm,ob⟩:=
 WG.gt hg hG hw k
theorem WG.gf {o:Oper}{j:Nat}{b:Bool}(hg:o.guard=some (j,b))(hG:G.elem j=false)(hw:St.want ⟨tm,ob⟩ ops o=some false)(k:WG (j::G) P N ops (o::l) Q ⟨tm,ob⟩):WG G P N ops (o::l) Q ⟨tm,ob⟩:=k
theorem WG.gf' {o:Oper}{j:Nat}{b:Bool}(k:WG (j::G) P N ops (o::l) Q ⟨tm,ob⟩)
 (hg:o.guard=some (j,b):=by exact rfl) (hG:G.elem j=false:=by exact rfl) (hw:St.want ⟨tm,ob⟩ ops o=some false:=by exact rfl):WG G P N ops (o::l) Q ⟨tm,ob⟩:=
 WG.gf hg hG hw k
theorem WG.al {t:TypeId}{K:Nat}{zs:List D}(hw:St.want ⟨tm,ob⟩ ops ⟨some d,.alloc t,ty,pos,after,gd⟩=some true)(hd:Nat.blt d N.n=true)(hk:(E.ty t).known=true)(hz:(E.ty t).zero=zs)(hK:ob.length=K)
 (k:WG G E.P N ops l Q ⟨upd tm d (.lp K 0),ob++[.pv (zs.map .d)]⟩):WG G E.P N ops (⟨some d,.alloc t,ty,pos,after,gd⟩::l) Q ⟨tm,ob⟩:=by
 subst hK;subst hz;exact WL.alloc hw hd hk k
theorem WG.bx {t:TypeId}{x:Operand}{cs:List T}{K:Nat}(hw:St.want ⟨tm,ob⟩ ops ⟨some d,.box t x,ty,pos,after,gd⟩=some true)(hd:Nat.blt d N.n=true)
 (hc:cellsT ob (St.ev ⟨tm,ob⟩ x)=some cs) (h1:onesT cs=true) (h2:cursT ob cs=true) (hK:ob.length=K)
 (k:WG G E.P N ops l Q ⟨upd tm d (.lp K 0),ob++[.pv cs]⟩):WG G E.P N ops (⟨some d,.box t x,ty,pos,after,gd⟩::l) Q ⟨tm,ob⟩:=by
 subst hK;exact WL.box hw hd hc h1 h2 k
theorem WG.st {t:TypeId}{x v:Operand}{j off:Nat}{cs vals:List T}(hw:St.want ⟨tm,ob⟩ ops ⟨none,.store t x v,ty,pos,after,gd⟩=some true)(hk:(E.ty t).known=true)
 (hx:St.ev ⟨tm,ob⟩ x=.lp j off) (hj:ob[j]? =some (.pv cs)) (hv:cellsT ob (fixNil E t (St.ev ⟨tm,ob⟩ v))=some vals) (hn:Nat.beq vals.length (E.ty t).size=true) (ho:Nat.ble (off+vals.length) cs.length=true)
 (h1:onesT vals=true) (h2:cursT ob vals=true)
 (k:WG G E.P N ops l Q ⟨tm,ob.set j (.pv (setAll cs off vals))⟩):WG G E.P N ops (⟨none,.store t x v,ty,pos,after,gd⟩::l) Q ⟨tm,ob⟩:=WL.store (S:=⟨tm,ob⟩) hw hk hx hj hv hn ho h1 h2 k
theorem WG.bd {t:TypeId}{parts:List (Nat×Operand)}{cs:List T}{r:T}(hw:St.want ⟨tm,ob⟩ ops ⟨some d,.build t parts.toArray,ty,pos,after,gd⟩=some true)(hd:Nat.blt d N.n=true)
 (ha:(E.ty t).agg=true) (hf:fillT ob (E.ty t).offs ((E.ty t).zero.map .d) (evParts ⟨tm,ob⟩ parts)=some cs) (hr:mkAgg cs=r)
 (k:WG G E.P N ops l Q ⟨upd tm d r,ob⟩):WG G E.P N ops (⟨some d,.build t parts.toArray,ty,pos,after,gd⟩::l) Q ⟨tm,ob⟩:=by
 subst hr;exact WL.build (S:=⟨tm,ob⟩) hw hd ha hf k
theorem WG.ixm {α:Type} [Inhabited α]{f f':α→List D}{xs:List α}{t e:TypeId}{x ix:Operand}{z:Nat}{k:IntKind}{i:Int}(hw:St.want ⟨tm,ob⟩ ops ⟨some d,.indexAddr t x ix,ty,pos,after,gd⟩=some true)(hd:Nat.blt d N.n=true)
 (ht:(E.ty t).kind=.slice e) (he:(E.ty e).known=true) (hz:(E.ty e).size=z) (hx:norm ob (St.ev ⟨tm,ob⟩ x)=.d (.sl z (xs.map f))) (hi:St.ev ⟨tm,ob⟩ ix=.d (.v (.int k i)))
 (hf: ∀x,f x=f' x) (hb:0≤i∧i<xs.length)
 (kk:WG G E.P N ops l Q ⟨upd tm d (.ea (f' (xs.getD i.toNat default)) 0),ob⟩):WG G E.P N ops (⟨some d,.indexAddr t x ix,ty,pos,after,gd⟩::l) Q ⟨tm,ob⟩:=by
 have hlt:i.toNat<xs.length:=by omega
 exact WL.index (S:=⟨tm,ob⟩) hw hd ht he hz hx hi (by simpa using hb) (by rw[←hf];simp[hlt]) kk
theorem WG.ixm' {α:Type} [Inhabited α]{f f':α→List D}{xs:List α}{t e:TypeId}{x ix:Operand}{z:Nat}{k:IntKind}{i:Int}(kk:WG G E.P N ops l Q ⟨upd tm d (.ea (f' (xs.getD i.toNat default)) 0),ob⟩)
 (hw:St.want ⟨tm,ob⟩ ops ⟨some d,.indexAddr t x ix,ty,pos,after,gd⟩=some true:=by exact rfl) (hd:Nat.blt d N.n=true:=by exact rfl) (ht:(E.ty t).kind=.slice e:=by exact rfl) (he:(E.ty e).known=true:=by exact rfl) (hz:(E.ty e).size=z:=by exact rfl) (hx:norm ob (St.ev ⟨tm,ob⟩ x)=.d (.sl z (xs.map f)):=by exact rfl) (hi:St.ev ⟨tm,ob⟩ ix=.d (.v (.int k i)):=by exact rfl) (hf: ∀x,f x=f' x:=by exact fun _=>rfl) (hb:0≤i∧i<xs.length:=by first|exact trivial|(simp only[inRange,List.length_map];omega)|omega|assumption):WG G E.P N ops (⟨some d,.indexAddr t x ix,ty,pos,after,gd⟩::l) Q ⟨tm,ob⟩:=
 WG.ixm hw hd ht he hz hx hi hf hb kk
theorem WG.ixo {t e:TypeId}{x ix:Operand}{z:Nat}{e':TypeId}{rows:List (List D)}{n m:Nat}{pub:Bool}{k:IntKind}{i:Int}(hw:St.want ⟨tm,ob⟩ ops ⟨some d,.indexAddr t x ix,ty,pos,after,gd⟩=some true)(hd:Nat.blt d N.n=true)
 (ht:(E.ty t).kind=.slice e) (he:(E.ty e).known=true) (hz:(E.ty e).size=z) (hx:St.ev ⟨tm,ob⟩ x=.og m n) (hm:ob[m]? =some (.gr z e' rows n pub)) (hi:St.ev ⟨tm,ob⟩ ix=.d (.v (.int k i)))
 (hb:0≤i∧i<rows.length)
 (kk:WG G E.P N ops l Q ⟨upd tm d (.eg m n z i.toNat 0),ob⟩):WG G E.P N ops (⟨some d,.indexAddr t x ix,ty,pos,after,gd⟩::l) Q ⟨tm,ob⟩:=WL.indexOg (S:=⟨tm,ob⟩) hw hd ht he hz hx hm hi hb kk
theorem WG.ixo' {t e:TypeId}{x ix:Operand}{z:Nat}{e':TypeId}{rows:List (List D)}{n m:Nat}{pub:Bool}{k:IntKind}{i:Int}(kk:WG G E.P N ops l Q ⟨upd tm d (.eg m n z i.toNat 0),ob⟩)
 (hw:St.want ⟨tm,ob⟩ ops ⟨some d,.indexAddr t x ix,ty,pos,after,gd⟩=some true:=by exact rfl) (hd:Nat.blt d N.n=true:=by exact rfl) (ht:(E.ty t).kind=.slice e:=by exact rfl) (he:(E.ty e).known=true:=by exact rfl) (hz:(E.ty e).size=z:=by exact rfl) (hx:St.ev ⟨tm,ob⟩ x=.og m n:=by exact rfl) (hm:ob[m]? =some (.gr z e' rows n pub):=by exact rfl) (hi:St.ev ⟨tm,ob⟩ ix=.d (.v (.int k i)):=by exact rfl) (hb:0≤i∧i<rows.length:=by first|exact trivial|(simp only[inRange,List.length_map];omega)|omega|assumption):WG G E.P N ops (⟨some d,.indexAddr t x ix,ty,pos,after,gd⟩::l) Q ⟨tm,ob⟩:=
 WG.ixo hw hd ht he hz hx hm hi hb kk
theorem WG.leg {t:TypeId}{x:Operand}{z:Nat}{e':TypeId}{rows:List (List D)}{n m i off:Nat}{pub:Bool}{r:List D}{res:D}(hw:St.want ⟨tm,ob⟩ ops ⟨some d,.load t x,ty,pos,after,gd⟩=some true)(hd:Nat.blt d N.n=true)
 (hk:(E.ty t).known=true) (hx:St.ev ⟨tm,ob⟩ x=.eg m n z i off) (hm:ob[m]? =some (.gr z e' rows n pub)) (hr:rows[i]? =some r)
 (hres:(bif (E.ty t).agg then(bif Nat.ble (off+(E.ty t).size) r.length then some (.agg ((r.drop off).take (E.ty t).size)) else none) else r[off]?)=some res)
 (kk:WG G E.P N ops l Q ⟨upd tm d (.d res),ob⟩):WG G E.P N ops (⟨some d,.load t x,ty,pos,after,gd⟩::l) Q ⟨tm,ob⟩:=WL.loadEg (S:=⟨tm,ob⟩) hw hd hk hx hm hr hres kk
theorem WG.slD {t e:TypeId}{x:Operand}{lo hi:Option Operand}{z:Nat}{rows:List (List D)}{li hh:Int}(hw:St.want ⟨tm,ob⟩ ops ⟨some d,.slice t x lo hi none,ty,pos,after,gd⟩=some true)(hd:Nat.blt d N.n=true)
 (ht:(E.ty t).kind=.slice e) (he:(E.ty e).known=true) (hz:(E.ty e).size=z) (hx:norm ob (St.ev ⟨tm,ob⟩ x)=.d (.sl z rows)) (hlo:evLow ⟨tm,ob⟩ lo=some li)
 (hhi:evBound ⟨tm,ob⟩ rows.length hi=some hh) (hb:0≤li∧li≤hh∧hh≤rows.length)
 (kk:WG G E.P N ops l Q ⟨upd tm d (.d (.sl z ((rows.drop li.toNat).take (hh.toNat - li.toNat)))),ob⟩):WG G E.P N ops (⟨some d,.slice t x lo hi none,ty,pos,after,gd⟩::l) Q ⟨tm,ob⟩:=
 WL.sliceD (S:=⟨tm,ob⟩) hw hd ht he hz hx hlo hhi hb kk
theorem WG.slD' {t e:TypeId}{x:Operand}{lo hi:Option Operand}{z:Nat}{rows:List (List D)}{li hh:Int}(kk:WG G E.P N ops l Q ⟨upd tm d (.d (.sl z ((rows.drop li.toNat).take (hh.toNat - li.toNat)))),ob⟩)
 (hw:St.want ⟨tm,ob⟩ ops ⟨some d,.slice t x lo hi none,ty,pos,after,gd⟩=some true:=by exact rfl) (hd:Nat.blt d N.n=true:=by exact rfl) (ht:(E.ty t).kind=.slice e:=by exact rfl) (he:(E.ty e).known=true:=by exact rfl) (hz:(E.ty e).size=z:=by exact rfl) (hx:norm ob (St.ev ⟨tm,ob⟩ x)=.d (.sl z rows):=by exact rfl) (hlo:evLow ⟨tm,ob⟩ lo=some li:=by exact rfl) (hhi:evBound ⟨tm,ob⟩ rows.length hi=some hh:=by exact rfl) (hb:0≤li∧li≤hh∧hh≤rows.length:=by first|omega|(simp only[List.length_map,List.length_append,List.length_cons,List.length_nil] at *;omega)):WG G E.P N ops (⟨some d,.slice t x lo hi none,ty,pos,after,gd⟩::l) Q ⟨tm,ob⟩:=
 WG.slD hw hd ht he hz hx hlo hhi hb kk
theorem WG.slS {t:TypeId}{x:Operand}{lo hi:Option Operand}{s:ByteArray}{li hh:Int}(hw:St.want ⟨tm,ob⟩ ops ⟨some d,.slice t x lo hi none,ty,pos,after,gd⟩=some true)(hd:Nat.blt d N.n=true)
 (ht:(E.ty t).kind=.string) (hx:St.ev ⟨tm,ob⟩ x=.d (.v (.string s))) (hlo:evLow ⟨tm,ob⟩ lo=some li)
 (hhi:evBound ⟨tm,ob⟩ s.size hi=some hh) (hb:0≤li∧li≤hh∧hh≤s.size)
 (kk:WG G E.P N ops l Q ⟨upd tm d (.d (.v (.string (s.extract li.toNat hh.toNat)))),ob⟩):WG G E.P N ops (⟨some d,.slice t x lo hi none,ty,pos,after,gd⟩::l) Q ⟨tm,ob⟩:=
 WL.sliceS (S:=⟨tm,ob⟩) hw hd ht hx hlo hhi hb kk
theorem WG.slS' {t:TypeId}{x:Operand}{lo hi:Option Operand}{s:ByteArray}{li hh:Int}(kk:WG G E.P N ops l Q ⟨upd tm d (.d (.v (.string (s.extract li.toNat hh.toNat)))),ob⟩)
 (hw:St.want ⟨tm,ob⟩ ops ⟨some d,.slice t x lo hi none,ty,pos,after,gd⟩=some true:=by exact rfl) (hd:Nat.blt d N.n=true:=by exact rfl) (ht:(E.ty t).kind=.string:=by exact rfl) (hx:St.ev ⟨tm,ob⟩ x=.d (.v (.string s)):=by exact rfl) (hlo:evLow ⟨tm,ob⟩ lo=some li:=by exact rfl) (hhi:evBound ⟨tm,ob⟩ s.size hi=some hh:=by exact rfl) (hb:0≤li∧li≤hh∧hh≤s.size:=by first|omega|(simp only[List.length_map,List.length_append,List.length_cons,List.length_nil] at *;omega)):WG G E.P N ops (⟨some d,.slice t x lo hi none,ty,pos,after,gd⟩::l) Q ⟨tm,ob⟩:=
 WG.slS hw hd ht hx hlo hhi hb kk
theorem WG.bs {t e:TypeId}{len:Nat}{parts:List (Nat×Operand)}{z K:Nat}{rows:List (List D)}(hw:St.want ⟨tm,ob⟩ ops ⟨some d,.buildSlice t len parts.toArray,ty,pos,after,gd⟩=some true)(hd:Nat.blt d N.n=true)
 (ht:(E.ty t).kind=.slice e) (he:(E.ty e).known=true) (hz:(E.ty e).size=z) (hz0:Nat.blt 0 z=true) (hlen:Nat.beq len parts.length=true) (hmax:Nat.ble (len*z) 16777216=true)
 (hrows:rowsOf ⟨tm,ob⟩ 0 parts=some rows) (hwd:widths z rows=true) (hK:ob.length=K)
 (k:WG G E.P N ops l Q ⟨upd tm d (.og K 0),ob++[.gr z e rows 0 false]⟩):WG G E.P N ops (⟨some d,.buildSlice t len parts.toArray,ty,pos,after,gd⟩::l) Q ⟨tm,ob⟩:=by
 subst hK;exact WL.buildSlice (S:=⟨tm,ob⟩) hw hd ht he hz hz0 hlen hmax hrows hwd k
theorem WG.ap {t e e':TypeId}{s x:Operand}{z j n:Nat}{rows rows':List (List D)}(hw:St.want ⟨tm,ob⟩ ops ⟨some d,.call ⟨.builtin .append,#[s,x],#[t,t]⟩,ty,pos,after,gd⟩=some true)(hd:Nat.blt d N.n=true)
 (ht:(E.ty t).kind=.slice e) (he:(E.ty e).known=true) (hz:(E.ty e).size=z) (hz0:Nat.blt 0 z=true) (hby:Nat.ble 1 (E.ty e).bytes=true) (hs:St.ev ⟨tm,ob⟩ s=.og j n) (hj:ob[j]? =some (.gr z e' rows n false)) (hee:Nat.beq e e'=true)
 (hx:srcRows ob (St.ev ⟨tm,ob⟩ x)=some (z,rows')) (hroom:(rows.length+rows'.length)*(E.ty e).bytes≤140737488355328)
 (k:WG G E.P N ops l Q ⟨upd tm d (.og j (n+1)),ob.set j (.gr z e' (rows++rows') (n+1) false)⟩):WG G E.P N ops (⟨some d,.call ⟨.builtin .append,#[s,x],#[t,t]⟩,ty,pos,after,gd⟩::l) Q ⟨tm,ob⟩:=
 WL.append (S:=⟨tm,ob⟩) hw hd ht he hz hz0 hby hs hj hee hx hroom k
theorem WG.ap' {t e e':TypeId}{s x:Operand}{z j n:Nat}{rows rows':List (List D)}(k:WG G E.P N ops l Q ⟨upd tm d (.og j (n+1)),ob.set j (.gr z e' (rows++rows') (n+1) false)⟩)
 (hw:St.want ⟨tm,ob⟩ ops ⟨some d,.call ⟨.builtin .append,#[s,x],#[t,t]⟩,ty,pos,after,gd⟩=some true:=by exact rfl) (hd:Nat.blt d N.n=true:=by exact rfl) (ht:(E.ty t).kind=.slice e:=by exact rfl) (he:(E.ty e).known=true:=by exact rfl) (hz:(E.ty e).size=z:=by exact rfl) (hz0:Nat.blt 0 z=true:=by exact rfl) (hby:Nat.ble 1 (E.ty e).bytes=true:=by exact rfl) (hs:St.ev ⟨tm,ob⟩ s=.og j n:=by exact rfl) (hj:ob[j]? =some (.gr z e' rows n false):=by exact rfl) (hee:Nat.beq e e'=true:=by exact rfl) (hx:srcRows ob (St.ev ⟨tm,ob⟩ x)=some (z,rows'):=by exact rfl) (hroom:(rows.length+rows'.length)*(E.ty e).bytes≤140737488355328:=by refine Nat.le_trans (Nat.mul_le_mul_right _ (m:=2097152) ?_) (Nat.le_of_ble_eq_true rfl);simp only[List.length_map,List.length_append,List.length_cons,List.length_nil];omega):WG G E.P N ops (⟨some d,.call ⟨.builtin .append,#[s,x],#[t,t]⟩,ty,pos,after,gd⟩::l) Q ⟨tm,ob⟩:=
 WG.ap hw hd ht he hz hz0 hby hs hj hee hx hroom k
mutual
theorem T.ren_under {r:Rn}: ∀t:T,t.under 0=true→t.ren r=t
 |.d _,_=>by simp[T.ren]
 |.agg cs,h=>by simp only[T.ren];rw[T.renL_under cs (by simpa [T.under] using h)]
 |.tup cs,h=>by simp only[T.ren];rw[T.renL_under cs (by simpa [T.under] using h)]
 |.clo f cs,h=>by simp only[T.ren];rw[T.renL_under cs (by simpa [T.under] using h)]
 |.ps _ _,h=>by simp[T.under] at h
 |.os _ _ _,h=>by simp[T.under] at h
 |.ifc ty t,h=>by simp only[T.ren];rw[T.ren_under t (by simpa [T.under] using h)]
 |.lp _ _,h=>by simp[T.under] at h
 |.og _ _,h=>by simp[T.under] at h
 |.ea _ _,_=>by simp[T.ren]
 |.eg _ _ _ _ _,h=>by simp[T.under] at h
 |.any,_=>by simp[T.ren]
theorem T.renL_under {r:Rn}: ∀cs:List T,T.underL 0 cs=true→T.renL r cs=cs
 |[],_=>by simp[T.renL]
 |t::s,h=>by
  simp only[T.underL,Bool.and_eq_true] at h
  simp only[T.renL]
  rw[T.ren_under t h.1,T.renL_under s h.2]
end
theorem WG.c {f:FuncId}{xs:List Operand}{tys:List TypeId}{args:List D}{t:T}(hw:St.want ⟨tm,ob⟩ ops ⟨some d,.call ⟨.value (.func f),xs.toArray,tys.toArray⟩,ty,pos,after,gd⟩=some true)(hd:Nat.blt d N.n=true)
 (hc:Fun E.P f args t []) (hu:t.under 0=true) (ha:argsOf E ⟨tm,ob⟩ xs tys=some args)
 (k:WG G E.P N ops l Q ⟨upd tm d t,ob⟩):WG G E.P N ops (⟨some d,.call ⟨.value (.func f),xs.toArray,tys.toArray⟩,ty,pos,after,gd⟩::l) Q ⟨tm,ob⟩:=by
 refine WL.call (S:=⟨tm,ob⟩) hw hd hc ha ?_
 rw[pushT,T.ren_under t hu]
 show WG G E.P N ops l Q ⟨upd tm d t,ob++[]⟩
 rw[List.append_nil]
 exact k
theorem WG.c' {f:FuncId}{xs:List Operand}{tys:List TypeId}{args:List D}{t:T}(hc:Fun E.P f args t [])(k:WG G E.P N ops l Q ⟨upd tm d t,ob⟩)
 (hw:St.want ⟨tm,ob⟩ ops ⟨some d,.call ⟨.value (.func f),xs.toArray,tys.toArray⟩,ty,pos,after,gd⟩=some true:=by exact rfl) (hd:Nat.blt d N.n=true:=by exact rfl) (hu:t.under 0=true:=by exact rfl) (ha:argsOf E ⟨tm,ob⟩ xs tys=some args:=by exact rfl):WG G E.P N ops (⟨some d,.call ⟨.value (.func f),xs.toArray,tys.toArray⟩,ty,pos,after,gd⟩::l) Q ⟨tm,ob⟩:=
 WG.c hw hd hc hu ha k
theorem WG.cx {f:FuncId}{xs:List Operand}{tys:List TypeId}{args:List D}{t:T}(hw:St.want ⟨tm,ob⟩ ops ⟨none,.call ⟨.value (.func f),xs.toArray,tys.toArray⟩,ty,pos,after,gd⟩=some true)
 (hc:Fun E.P f args t []) (ha:argsOf E ⟨tm,ob⟩ xs tys=some args)
 (k:WG G E.P N ops l Q ⟨tm,ob⟩):WG G E.P N ops (⟨none,.call ⟨.value (.func f),xs.toArray,tys.toArray⟩,ty,pos,after,gd⟩::l) Q ⟨tm,ob⟩:=by
 refine WL.callx (S:=⟨tm,ob⟩) hw hc ha ?_
 show WG G E.P N ops l Q ⟨tm,ob++[]⟩
 rw[List.append_nil]
 exact k
theorem WG.cx' {f:FuncId}{xs:List Operand}{tys:List TypeId}{args:List D}{t:T}(hc:Fun E.P f args t [])(k:WG G E.P N ops l Q ⟨tm,ob⟩)
 (hw:St.want ⟨tm,ob⟩ ops ⟨none,.call ⟨.value (.func f),xs.toArray,tys.toArray⟩,ty,pos,after,gd⟩=some true:=by exact rfl) (ha:argsOf E ⟨tm,ob⟩ xs tys=some args:=by exact rfl):WG G E.P N ops (⟨none,.call ⟨.value (.func f),xs.toArray,tys.toArray⟩,ty,pos,after,gd⟩::l) Q ⟨tm,ob⟩:=
 WG.cx hw hc ha k
theorem WG.co {f:FuncId}{xs:List Operand}{tys:List TypeId}{args:List D}{t t':T}{K:Nat}{ob1 ob2:List Ob}(hw:St.want ⟨tm,ob⟩ ops ⟨some d,.call ⟨.value (.func f),xs.toArray,tys.toArray⟩,ty,pos,after,gd⟩=some true)(hd:Nat.blt d N.n=true)
 (hc:Fun E.P f args t ob1) (ha:argsOf E ⟨tm,ob⟩ xs tys=some args) (hK:ob.length=K) (ht:pushT K t=t') (ho:pushO K ob1=ob2)
 (k:WG G E.P N ops l Q ⟨upd tm d t',ob++ob2⟩):WG G E.P N ops (⟨some d,.call ⟨.value (.func f),xs.toArray,tys.toArray⟩,ty,pos,after,gd⟩::l) Q ⟨tm,ob⟩:=by
 subst hK;subst ht;subst ho
 exact WL.call (S:=⟨tm,ob⟩) hw hd hc ha k
theorem WG.co' {f:FuncId}{xs:List Operand}{tys:List TypeId}{args:List D}{t t':T}{K:Nat}{ob1 ob2:List Ob}(hc:Fun E.P f args t ob1)(k:WG G E.P N ops l Q ⟨upd tm d t',ob++ob2⟩)
 (hw:St.want ⟨tm,ob⟩ ops ⟨some d,.call ⟨.value (.func f),xs.toArray,tys.toArray⟩,ty,pos,after,gd⟩=some true:=by exact rfl) (hd:Nat.blt d N.n=true:=by exact rfl) (ha:argsOf E ⟨tm,ob⟩ xs tys=some args:=by exact rfl) (hK:ob.length=K:=by exact rfl) (ht:pushT K t=t':=by exact rfl) (ho:pushO K ob1=ob2:=by exact rfl):WG G E.P N ops (⟨some d,.call ⟨.value (.func f),xs.toArray,tys.toArray⟩,ty,pos,after,gd⟩::l) Q ⟨tm,ob⟩:=
 WG.co hw hd hc ha hK ht ho k
theorem WG.cq {f:FuncId}{fop:Operand}{xs:List Operand}{tys:List TypeId}{cap args:List T}{obA obB ob2:List Ob}{t t':T}(idx off:List Nat){K:Nat}(lend:Bool)(hw:St.want ⟨tm,ob⟩ ops ⟨some d,.call ⟨.value fop,xs.toArray,tys.toArray⟩,ty,pos,after,gd⟩=some true)(hd:Nat.blt d N.n=true)
 (hc:FunQ E.P f args obA (just t obB)) (hclo:cloOf (norm ob (St.ev ⟨tm,ob⟩ fop))=some (f,cap)) (hK:K=ob.length) (ha:argsT E ⟨tm,ob⟩ lend xs tys++cap=T.renL ⟨idx,off,K⟩ args) (hlp:T.lpOKL ⟨idx,off,K⟩ args=true) (hnd:nodupB idx=true)
 (hA:Nat.beq obA.length idx.length=true) (hs:startL ⟨idx,off,K⟩ 0 obA=true) (hmt:matchO ⟨idx,off,K⟩ ob 0 obA) (hno:lend=false∨idx=[]) (hal:aliveN idx.length obB=true) (hfl:lend=true→t.flat=true∧ ∀o∈obB,o.flat)
 (ht:T.ren ⟨idx,off,K⟩ t=t') (ho:mergeO ⟨idx,off,K⟩ 0 ob idx obB=ob2)
 (k:WG G E.P N ops l Q ⟨upd tm d t',ob2⟩):WG G E.P N ops (⟨some d,.call ⟨.value fop,xs.toArray,tys.toArray⟩,ty,pos,after,gd⟩::l) Q ⟨tm,ob⟩:=by
 subst ht;subst ho
 refine WL.callQ (S:=⟨tm,ob⟩) ⟨idx,off,K⟩ lend hw hd hc hclo ha hlp hK hnd hA hs hmt hno (fun t2 o2 h=>?_) fun t2 o2 h=>?_
 ·obtain⟨rfl,rfl⟩:=h
  exact⟨hal,hfl⟩
 ·obtain⟨rfl,rfl⟩:=h
  exact k
theorem WG.cQ {f:FuncId}{fop:Operand}{xs:List Operand}{tys:List TypeId}{cap args:List T}{obA:List Ob}{R:T→List Ob→Prop}(idx off:List Nat){K:Nat}(lend:Bool)(hw:St.want ⟨tm,ob⟩ ops ⟨some d,.call ⟨.value fop,xs.toArray,tys.toArray⟩,ty,pos,after,gd⟩=some true)(hd:Nat.blt d N.n=true)
 (hc:FunQ E.P f args obA R) (hclo:cloOf (norm ob (St.ev ⟨tm,ob⟩ fop))=some (f,cap)) (hK:K=ob.length) (ha:argsT E ⟨tm,ob⟩ lend xs tys++cap=T.renL ⟨idx,off,K⟩ args) (hlp:T.lpOKL ⟨idx,off,K⟩ args=true) (hnd:nodupB idx=true)
 (hA:Nat.beq obA.length idx.length=true) (hs:startL ⟨idx,off,K⟩ 0 obA=true) (hmt:matchO ⟨idx,off,K⟩ ob 0 obA) (hno:lend=false∨idx=[]) (hal: ∀t obB,R t obB→aliveN idx.length obB=true∧(lend=true→t.flat=true∧ ∀o∈obB,o.flat))
 (k: ∀t obB,R t obB→WG G E.P N ops l Q ⟨upd tm d (T.ren ⟨idx,off,K⟩ t),mergeO ⟨idx,off,K⟩ 0 ob idx obB⟩):WG G E.P N ops (⟨some d,.call ⟨.value fop,xs.toArray,tys.toArray⟩,ty,pos,after,gd⟩::l) Q ⟨tm,ob⟩:=
 WL.callQ (S:=⟨tm,ob⟩) ⟨idx,off,K⟩ lend hw hd hc hclo ha hlp hK hnd hA hs hmt hno hal k
theorem W.jb {id:Nat}(i:Nat)(b:Bool)(h:WG [] P N l l (fun e S'=>e=.normal∧S'.ob=ob∧ ∃b',S'.tm i=.d (.v (.bool b'))∧b'=b∧leU (upd tm i .any) S'.tm) ⟨tm,ob⟩)
 (k:Q .normal ⟨upd tm i (.d (.v (.bool b))),ob⟩):W P N (.region id l.toArray false) Q ⟨tm,ob⟩:=fun w0 σ0 a w g r=>
 wp_mono (wp_region_lit (h w0 σ0 a w g r)) fun e a' w' ⟨S',g',⟨he,hob,b',hb,hbb,hle⟩,r'⟩=>by
  subst he
  obtain⟨tm',ob'⟩:=S'
  simp only at hob hb hle
  subst hob;subst hbb
  refine⟨⟨upd tm i (.d (.v (.bool b'))),ob'⟩,g',k,r'.inv,r'.defers,r'.size,r'.hm,r'.hl,fun j=>?_⟩
  by_cases e:j=i
  ·subst e
   simp only[upd,show Nat.beq j j=true by simp,cond_true]
   have:=r'.tm j
   rwa [show(⟨tm',ob'⟩:St).tm j=tm' j from rfl,hb] at this
  ·simp only[upd,nbeq e,cond_false]
   show RT g' (tm j) _
   have hj:=hle j
   simp only[upd,nbeq e,cond_false] at hj
   rcases hj with h|h
   ·rw[show tm j=.any from h];exact .any _
   ·rw[show tm j=tm' j from h.symm];exact r'.tm j
end
def forceN {α:Type}(n:Nat)(k:Nat→α):α:=
 bif Nat.beq n 0 then k 0 else bif Nat.beq n 1 then k 1 else bif Nat.beq n 2 then k 2 else bif Nat.beq n 3 then k 3 else bif Nat.beq n 4 then k 4 else bif Nat.beq n 5 then k 5
 else bif Nat.beq n 6 then k 6 else bif Nat.beq n 7 then k 7 else bif Nat.beq n 8 then k 8 else bif Nat.beq n 9 then k 9 else bif Nat.beq n 10 then k 10 else bif Nat.beq n 11 then k 11
 else bif Nat.beq n 12 then k 12 else bif Nat.beq n 13 then k 13 else bif Nat.beq n 14 then k 14 else bif Nat.beq n 15 then k 15 else bif Nat.beq n 16 then k 16 else bif Nat.beq n 17 then k 17
 else bif Nat.beq n 18 then k 18 else bif Nat.beq n 19 then k 19 else bif Nat.beq n 20 then k 20 else bif Nat.beq n 21 then k 21 else bif Nat.beq n 22 then k 22 else bif Nat.beq n 23 then k 23 else k n
theorem forceN_eq {α:Type}(n:Nat)(k:Nat→α):forceN n k=k n:=by
 unfold forceN
 repeat'(first|rfl|(refine(?_: ∀(b:Bool) (x y z:α),(b=true→x=z)→y=z→(bif b then x else y)=z) _ _ _ _ (fun h=>?_) ?_))
 all_goals first
  |(intro b x y z h1 h2;cases b;exact h2;exact h1 rfl)
  |(rw[Nat.eq_of_beq_eq_true h])
def forceD {α:Type}(d:D)(k:D→α):α:=
 match d with
 |.v x=>k (.v x)
 |.nl z=>k (.nl z)
 |.sl z rows=>k (.sl z rows)
 |.agg cs=>k (.agg cs)
theorem forceD_eq {α:Type}(d:D)(k:D→α):forceD d k=k d:=by cases d<;>rfl
def forceDs {α:Type}:List D→(List D→α)→α
 |[],k=>k []
 |d::r,k=>forceD d fun d'=>forceDs r fun r'=>k (d'::r')
theorem forceDs_eq {α:Type}: ∀(l:List D) (k:List D→α),forceDs l k=k l
 |[],k=>rfl
 |d::r,k=>by simp[forceDs,forceD_eq,forceDs_eq r]
def forceT1 {α:Type}(t:T)(k:T→α):α:=
 match t with
 |.d (.agg cs)=>forceDs cs fun cs'=>k (.d (.agg cs'))
 |.d x=>forceD x fun x'=>k (.d x')
 |.agg cs=>k (.agg cs)
 |.tup cs=>k (.tup cs)
 |.lp l o=>forceN o fun o'=>k (.lp l o')
 |.og a n=>k (.og a n)
 |.ea r o=>forceN o fun o'=>k (.ea r o')
 |.eg a n z i o=>forceN o fun o'=>k (.eg a n z i o')
 |.clo f cs=>k (.clo f cs)
 |.ps l n=>k (.ps l n)
 |.os a n i=>k (.os a n i)
 |.ifc ty t=>k (.ifc ty t)
 |.any=>k .any
theorem forceT1_eq {α:Type}(t:T)(k:T→α):forceT1 t k=k t:=by unfold forceT1;split<;>simp[forceDs_eq,forceD_eq,forceN_eq]
def forceTs {α:Type}:List T→(List T→α)→α
 |[],k=>k []
 |d::r,k=>forceT1 d fun d'=>forceTs r fun r'=>k (d'::r')
theorem forceTs_eq {α:Type}: ∀(l:List T) (k:List T→α),forceTs l k=k l
 |[],k=>rfl
 |d::r,k=>by simp[forceTs,forceT1_eq,forceTs_eq r]
def forceT {α:Type}(t:T)(k:T→α):α:=
 match t with
 |.agg cs=>forceTs cs fun cs'=>k (.agg cs')
 |.tup cs=>forceTs cs fun cs'=>k (.tup cs')
 |t=>forceT1 t k
theorem forceT_eq {α:Type}(t:T)(k:T→α):forceT t k=k t:=by unfold forceT;split<;>simp[forceTs_eq,forceT1_eq]
structure Out where
 conds:List Prop
 rest:List Oper
 tm:Nat→T
 ob:List Ob
def AllP :List Prop→Prop
 |[]=>True
 |p::r=>p∧AllP r
def openG (G:List Nat)(o:Oper):Bool:=match o.guard with|none=>true|some (j,_)=>G.elem j
def stepOp (E:Env)(N:Nm)(G:List Nat)(ops:List Oper)(o:Oper)(tm:Nat→T)(ob:List Ob)(next:Prop→(Nat→T)→List Ob→Out)(stop:Out):Out:=
 bif openG G o then
 match St.want ⟨tm,ob⟩ ops o with
 |none=>stop
 |some false=>match o.dst with
  |some d=>bif Nat.blt d N.n then next True (upd tm d (.d (.v undef))) ob else stop
  |none=>next True tm ob
 |some true=>
  match o.dst,o.op with
  |some d,.alloc t=>bif Nat.blt d N.n&&(E.ty t).known then forceN ob.length fun K=>forceTs ((E.ty t).zero.map .d) fun cs=>next True (upd tm d (.lp K 0)) (ob++[.pv cs]) else stop
  |some d,.box t x=>match cellsT ob (St.ev ⟨tm,ob⟩ x) with
   |some cs=>forceTs cs fun cs=>bif Nat.blt d N.n&&onesT cs&&cursT ob cs then forceN ob.length fun K=>next True (upd tm d (.lp K 0)) (ob++[.pv cs]) else stop
   |none=>stop
  |none,.store t x v=>match St.ev ⟨tm,ob⟩ x with
   |.lp j off=>match ob[j]? with
    |some (.pv cs)=>match cellsT ob (fixNil E t (St.ev ⟨tm,ob⟩ v)) with
     |some vals=>bif (E.ty t).known&&Nat.beq vals.length (E.ty t).size&&Nat.ble (off+vals.length) cs.length&&onesT vals&&cursT ob vals then forceTs (setAll cs off vals) fun cs'=>next True tm (ob.set j (.pv cs')) else stop
     |none=>stop
    |_=>stop
   |_=>stop
  |some d,.build t parts=>match fillT ob (E.ty t).offs ((E.ty t).zero.map .d) (evParts ⟨tm,ob⟩ parts.toList) with
   |some cs=>bif Nat.blt d N.n&&(E.ty t).agg then forceT (mkAgg cs) fun r=>next True (upd tm d r) ob else stop
   |none=>stop
  |some d,.buildSlice t len parts=>match (E.ty t).kind with
   |.slice e=>match rowsOf ⟨tm,ob⟩ 0 parts.toList with
    |some rows=>bif Nat.blt d N.n&&(E.ty e).known&&Nat.blt 0 (E.ty e).size&&Nat.beq len parts.toList.length&&Nat.ble (len*(E.ty e).size) 16777216&&widths (E.ty e).size rows then
      forceN ob.length fun K=>forceN (E.ty e).size fun z=>next True (upd tm d (.og K 0)) (ob++[.gr z e rows 0 false]) else stop
    |none=>stop
   |_=>stop
  |some d,op=>match ev1 E ⟨tm,ob⟩ op o.type with
   |some (p,t)=>bif Nat.blt d N.n then forceT t fun t'=>next p (upd tm d t') ob else stop
   |none=>stop
  |none,_=>stop
 else stop
def runOps (E:Env)(N:Nm)(G:List Nat)(ops:List Oper):List Oper→(Nat→T)→List Ob→List Prop→Out
 |[],tm,ob,ps=>⟨ps,[],tm,ob⟩
 |o::l,tm,ob,ps=>stepOp E N G ops o tm ob (fun p tm' ob'=>runOps E N G ops l tm' ob' (p::ps)) ⟨ps,o::l,tm,ob⟩
section
variable {E:Env}{N:Nm}{G:List Nat}{Q:Exit→St→Prop}{ops:List Oper}
theorem stepOp_ok {M:Out→Prop}{o:Oper}{l:List Oper}{tm:Nat→T}{ob:List Ob}{next:Prop→(Nat→T)→List Ob→Out}{stop:Out}
 (hstop:M stop)
 (hnext: ∀p tm' ob',(p→WG G E.P N ops l Q ⟨tm',ob'⟩→WG G E.P N ops (o::l) Q ⟨tm,ob⟩)→M (next p tm' ob')):
 M (stepOp E N G ops o tm ob next stop):=by
 obtain⟨dst,op,ty,pos,after,gd⟩:=o
 unfold stepOp
 cases hG:openG G ⟨dst,op,ty,pos,after,gd⟩ with
 |false=>exact hstop
 |true=>
 rw[cond_true]
 split
 ·exact hstop
 ·rename_i hw
  split
  ·rename_i d hd
   simp only at hd
   subst hd
   cases hb:Nat.blt d N.n with
   |false=>exact hstop
   |true=>exact hnext _ _ _ fun _ k=>WG.p hw hb k
  ·rename_i hd
   simp only at hd
   subst hd
   exact hnext _ _ _ fun _ k=>WG.px hw k
 ·rename_i hw
  split
  ·rename_i d t hd hop
   simp only at hd hop
   subst hd;subst hop
   cases hb:(Nat.blt d N.n&&(E.ty t).known) with
   |false=>exact hstop
   |true=>
    simp only[Bool.and_eq_true] at hb
    simp only[cond_true,forceN_eq,forceTs_eq]
    exact hnext _ _ _ fun _ k=>WG.al hw hb.1 hb.2 rfl rfl k
  ·rename_i d t x hd hop
   simp only at hd hop
   subst hd;subst hop
   split
   ·rename_i cs hcs
    rw[forceTs_eq]
    cases hb:(Nat.blt d N.n&&onesT cs&&cursT ob cs) with
    |false=>exact hstop
    |true=>
     simp only[Bool.and_eq_true] at hb
     simp only[cond_true,forceN_eq]
     exact hnext _ _ _ fun _ k=>WG.bx hw hb.1.1 hcs hb.1.2 hb.2 rfl k
   ·exact hstop
  ·rename_i t x v hd hop
   simp only at hd hop
   subst hd;subst hop
   split
   ·rename_i j off hx
    split
    ·rename_i cs hj
     split
     ·rename_i vals hv
      cases hb:((E.ty t).known&&Nat.beq vals.length (E.ty t).size&&Nat.ble (off+vals.length) cs.length&&onesT vals&&cursT ob vals) with
      |false=>exact hstop
      |true=>
       simp only[Bool.and_eq_true] at hb
       obtain⟨⟨⟨⟨b1,b2⟩,b3⟩,b4⟩,b5⟩:=hb
       simp only[cond_true,forceTs_eq]
       exact hnext _ _ _ fun _ k=>WG.st hw b1 hx hj hv b2 b3 b4 b5 k
     ·exact hstop
    ·exact hstop
   ·exact hstop
  ·rename_i d t parts hd hop
   simp only at hd hop
   subst hd;subst hop
   split
   ·rename_i cs hcs
    cases hb:(Nat.blt d N.n&&(E.ty t).agg) with
    |false=>exact hstop
    |true=>
     simp only[Bool.and_eq_true] at hb
     simp only[cond_true,forceT_eq]
     obtain⟨pl⟩:=parts
     exact hnext _ _ _ fun _ k=>WG.bd hw hb.1 hb.2 hcs rfl k
   ·exact hstop
  ·rename_i d t len parts hd hop
   simp only at hd hop
   subst hd;subst hop
   split
   ·rename_i e he
    split
    ·rename_i rows hrows
     cases hb:(Nat.blt d N.n&&(E.ty e).known&&Nat.blt 0 (E.ty e).size&&Nat.beq len parts.toList.length&&Nat.ble (len*(E.ty e).size) 16777216&&widths (E.ty e).size rows) with
     |false=>exact hstop
     |true=>
      simp only[Bool.and_eq_true] at hb
      obtain⟨⟨⟨⟨⟨b1,b2⟩,b3⟩,b4⟩,b5⟩,b6⟩:=hb
      simp only[cond_true,forceN_eq]
      obtain⟨pl⟩:=parts
      exact hnext _ _ _ fun _ k=>WG.bs hw b1 he b2 rfl b3 b4 b5 hrows b6 rfl k
    ·exact hstop
   ·exact hstop
  ·rename_i op' d hd h2 h3 h4 h5
   simp only at hd
   subst hd
   split
   ·rename_i p t hev
    cases hb:Nat.blt d N.n with
    |false=>exact hstop
    |true=>
     simp only[cond_true,forceT_eq]
     exact hnext _ _ _ fun hp k=>WG.s hw hb hev hp k
   ·exact hstop
  ·exact hstop
theorem runOps_ok : ∀(l:List Oper) (tm:Nat→T) (ob:List Ob) (ps:List Prop),AllP (runOps E N G ops l tm ob ps).conds→
 AllP ps∧(WG G E.P N ops (runOps E N G ops l tm ob ps).rest Q ⟨(runOps E N G ops l tm ob ps).tm,(runOps E N G ops l tm ob ps).ob⟩→WG G E.P N ops l Q ⟨tm,ob⟩)
 |[],tm,ob,ps=>fun h=>⟨h,fun k=>k⟩
 |o::l,tm,ob,ps=>by
  unfold runOps
  refine stepOp_ok (Q:=Q) (l:=l) (M:=fun r=>AllP r.conds→AllP ps∧(WG G E.P N ops r.rest Q ⟨r.tm,r.ob⟩→WG G E.P N ops (o::l) Q ⟨tm,ob⟩)) (fun h=>⟨h,fun k=>k⟩) fun p tm' ob' hk h=>?_
  obtain⟨h1,h2⟩:=runOps_ok l tm' ob' (p::ps) h
  exact⟨h1.2,fun k=>hk h1.1 (h2 k)⟩
theorem WG.run {l l':List Oper}{tm tm':Nat→T}{ob ob':List Ob}{ps:List Prop}(h:runOps E N G ops l tm ob []=⟨ps,l',tm',ob'⟩)(hlen:Nat.blt l'.length l.length=true)(hp:AllP ps)(k:WG G E.P N ops l' Q ⟨tm',ob'⟩):WG G E.P N ops l Q ⟨tm,ob⟩:=by
 have:=runOps_ok (E:=E) (N:=N) (G:=G) (ops:=ops) (Q:=Q) l tm ob []
 rw[h] at this
 exact(this hp).2 k
theorem WG.run' {l l':List Oper}{tm tm':Nat→T}{ob ob':List Ob}{ps:List Prop}(k:WG G E.P N ops l' Q ⟨tm',ob'⟩)
 (h:runOps E N G ops l tm ob []=⟨ps,l',tm',ob'⟩:=by exact rfl) (hlen:Nat.blt l'.length l.length=true:=by exact rfl) (hp:AllP ps:=by repeat(first|exact trivial|refine⟨trivial,?_⟩|refine⟨by first|exact trivial|(simp only[inRange,List.length_map];omega)|omega|assumption,?_⟩)):WG G E.P N ops l Q ⟨tm,ob⟩:=
 WG.run h hlen hp k
end
section
open Go.RowKit Go.ChangeShapes Go.WideShapes Go.Deep
def tilesL (P:Program):List Field→Nat→Nat→Bool
 |[],o,n=>decide (o=n)
 |f::r,o,n=>decide (f.offset=o)&&tilesL P r (o+P.cellsOf f.type) n
def plainTy (P:Program):Nat→TypeId→Bool
 |0,_=>false
 |n+1,t=>match P.underlying t with
  |some .bool|some (.int _)|some .string=>true
  |some (.slice e)=>decide (0<P.cellsOf e)&&plainTy P n e
  |some (.struct fs)=>tilesL P fs.toList 0 (P.cellsOf t)&&fs.toList.all fun f=>plainTy P n f.type
  |_=>false
def wfD (P:Program):Nat→TypeId→List D→Prop
 |0,_,_=>False
 |n+1,t,ds=>match P.underlying t with
  |some .bool=> ∃b,ds=[.v (.bool b)]
  |some (.int k)=> ∃i,ds=[.v (.int k i)]∧(Lit.int k i).wf=true
  |some .string=> ∃s:ByteArray,ds=[.v (.string s)]∧s.size≤maxLen
  |some (.slice e)=> ∃rows,ds=[.sl (P.cellsOf e) rows]∧rows.length≤maxLen∧ ∀r∈rows,r.length=P.cellsOf e∧wfD P n e r
  |some (.struct fs)=>ds.length=P.cellsOf t∧ ∀f∈fs.toList,wfD P n f.type ((ds.drop f.offset).take (P.cellsOf f.type))
  |_=>False
section
variable {H:Type}{enc:TypeId×Value→H}{P:Program}{w:World}
def memOf (w:World):Sto:=fun b o=>w.cell? ⟨b,o,none⟩
def RDs (σ:Sto)(ds:List D)(cs:List Value):Prop:=
 ds.length=cs.length∧(∀(i:Nat) (d:D) (u:Value),ds[i]? =some d→cs[i]? =some u→RD σ d u)∧ ∀u∈cs,u.oneCell'=true
theorem RDs.one {σ:Sto}{d:D}{u:Value}(h:RD σ d u)(h1:u.oneCell'=true):RDs σ [d] [u]:=
 ⟨rfl,fun i x v hx hv=>by
   cases i with
   |zero=>simp at hx hv;subst hx;subst hv;exact h
   |succ i=>simp at hx,fun v hv=>by simp at hv;subst hv;exact h1⟩
theorem RDs.app {σ:Sto}{d1 d2:List D}{c1 c2:List Value}(h1:RDs σ d1 c1)(h2:RDs σ d2 c2):RDs σ (d1++d2) (c1++c2):=by
 obtain⟨l1,r1,o1⟩:=h1
 obtain⟨l2,r2,o2⟩:=h2
 refine⟨by simp[l1,l2],fun i d u hd hu=>?_,fun u hu=>?_⟩
 ·by_cases hi:i<d1.length
  ·rw[List.getElem?_append_left hi] at hd
   rw[List.getElem?_append_left (by omega)] at hu
   exact r1 i d u hd hu
  ·rw[List.getElem?_append_right (by omega)] at hd
   rw[List.getElem?_append_right (by omega),←l1] at hu
   exact r2 _ d u hd hu
 ·rcases List.mem_append.1 hu with h|h
  ·exact o1 u h
  ·exact o2 u h
theorem fields_rd {n:Nat}{cs:List Value}{N:Nat}(hcs:cs.length=N)
 (ih: ∀(t:TypeId) (cs:List Value) (x:DataW H×List MemPlace),DataW.trod enc P w 0 (fun _=>true) true n t cs=some x→plainTy P n t=true→ ∃ds,RDs (memOf w) ds cs∧wfD P n t ds):
 ∀(fl:List Field) (o:Nat),o≤N→tilesL P fl o N=true→(∀f∈fl,plainTy P n f.type=true∧ ∃x,DataW.trod enc P w 0 (fun _=>true) true n f.type ((cs.drop f.offset).take (P.cellsOf f.type))=some x∧((cs.drop f.offset).take (P.cellsOf f.type)).length=P.cellsOf f.type)→
  ∃ds,RDs (memOf w) ds (cs.drop o)∧ ∀f∈fl,o≤f.offset∧wfD P n f.type ((ds.drop (f.offset - o)).take (P.cellsOf f.type))
 |[],o,_,ht,_=>by
  simp only[tilesL,decide_eq_true_eq] at ht
  refine⟨[],?_,fun f hf=>by cases hf⟩
  rw[List.drop_eq_nil_of_le (by omega)]
  exact⟨rfl,fun i d u hd=>by simp at hd,fun u hu=>by cases hu⟩
 |f::r,o,ho,ht,hf=>by
  simp only[tilesL,Bool.and_eq_true,decide_eq_true_eq] at ht
  obtain⟨e,ht⟩:=ht
  obtain⟨hp,x,hx,hlen⟩:=hf f (List.mem_cons_self ..)
  have hle:o+P.cellsOf f.type≤N:=by
   have:((cs.drop f.offset).take (P.cellsOf f.type)).length≤(cs.drop f.offset).length:=List.length_take_le' _ _
   simp only[List.length_drop] at this
   omega
  obtain⟨d1,h1,w1⟩:=ih _ _ _ hx hp
  obtain⟨d2,h2,w2⟩:=fields_rd hcs ih r (o+P.cellsOf f.type) hle ht fun g hg=>hf g (List.mem_cons_of_mem _ hg)
  subst e
  have hl1:d1.length=P.cellsOf f.type:=h1.1.trans hlen
  refine⟨d1++d2,?_,fun g hg=>?_⟩
  ·have:=h1.app h2
   rwa [←List.drop_drop,List.take_append_drop] at this
  ·rcases List.mem_cons.1 hg with rfl|hg
   ·refine⟨Nat.le_refl _,?_⟩
    rw[Nat.sub_self,List.drop_zero,List.take_append_of_le_length (by omega),List.take_of_length_le (by omega)]
    exact w1
   ·obtain⟨ha,hb⟩:=w2 g hg
    refine⟨by omega,?_⟩
    rw[List.drop_append,List.drop_eq_nil_of_le (by omega),List.nil_append,hl1]
    rw[show g.offset - f.offset - P.cellsOf f.type=g.offset - (f.offset+P.cellsOf f.type) by omega]
    exact hb
theorem choose_rows {n z:Nat}{e:TypeId}{b off:Nat}: ∀(m:Nat) (cs:Nat→List Value),(∀i,i<m→ ∃ds,RDs (memOf w) ds (cs i)∧wfD P n e ds)→
 ∃rows:List (List D),rows.length=m∧ ∀i r,rows[i]? =some r→RDs (memOf w) r (cs i)∧wfD P n e r
 |0,cs,_=>⟨[],rfl,fun i r h=>by simp at h⟩
 |m+1,cs,h=>by
  obtain⟨rows,hl,hr⟩:=choose_rows (z:=z) (b:=b) (off:=off) m cs fun i hi=>h i (by omega)
  obtain⟨d,hd⟩:=h m (by omega)
  refine⟨rows++[d],by simp[hl],fun i r hi=>?_⟩
  by_cases hlt:i<rows.length
  ·rw[List.getElem?_append_left hlt] at hi;exact hr i r hi
  ·rw[List.getElem?_append_right (by omega)] at hi
   obtain⟨hz,rfl⟩:=List.getElem?_eq_some_iff.1 hi
   simp only[List.length_singleton] at hz
   have:i=m:=by omega
   subst this
   simpa using hd
theorem rd_of_trod : ∀(n:Nat) (t:TypeId) (cs:List Value) (x:DataW H×List MemPlace),DataW.trod enc P w 0 (fun _=>true) true n t cs=some x→plainTy P n t=true→
 ∃ds,RDs (memOf w) ds cs∧wfD P n t ds
 |0,t,cs,x,h,_=>by simp[DataW.trod] at h
 |n+1,t,cs,x,h,hp=>by
  unfold plainTy at hp
  unfold wfD
  split at hp
  ·rename_i hu
   obtain⟨b,rfl,_⟩:=DataW.trod_bool hu h
   exact⟨_,RDs.one (.v _) rfl,b,rfl⟩
  ·rename_i k hu
   obtain⟨i,rfl,_,hw⟩:=DataW.trod_int hu h
   exact⟨_,RDs.one (.v _) rfl,i,rfl,hw⟩
  ·rename_i hu
   obtain⟨s,rfl,_,hs⟩:=DataW.trod_string hu h
   exact⟨_,RDs.one (.v _) rfl,s,rfl,hs⟩
  ·rename_i e hu
   simp only[Bool.and_eq_true,decide_eq_true_eq] at hp
   obtain⟨hz,hp⟩:=hp
   rcases DataW.trod_slice hu h with⟨rfl,_⟩|⟨a,len,cap,elems,rest,n',hn,rfl,_,hb,hl,hm,hlen,hel,hsp,_⟩
   ·exact⟨[.sl (P.cellsOf e) []],RDs.one (.nil _ _) rfl,[],rfl,by simp[maxLen],fun r hr=>by cases hr⟩
   ·obtain rfl:n'=n:=by omega
    have hcell: ∀i,i<cap→ ∃cs',w.cells? 0 (a.add (i*P.cellsOf e)) (P.cellsOf e)=some cs'∧ ∃x,DataW.trod enc P w 0 (fun _=>true) true n' e cs'=some x:=fun i hi=>by
     by_cases hil:i<len
     ·have:=hel i hil
      obtain⟨y,hy⟩: ∃y,elems[i]? =some y:=⟨_,List.getElem?_eq_getElem (by omega)⟩
      rw[hy] at this
      obtain⟨cs',h1,h2⟩:=Option.bind_eq_some_iff.1 this
      exact⟨cs',h1,_,h2⟩
     ·obtain⟨hrl,hr⟩:=hsp rfl
      have:=hr (i - len) (by omega)
      rw[show len+(i - len)=i by omega] at this
      obtain⟨y,hy⟩: ∃y,rest[i - len]? =some y:=⟨_,List.getElem?_eq_getElem (by omega)⟩
      rw[hy] at this
      obtain⟨cs',h1,h2⟩:=Option.bind_eq_some_iff.1 this
      exact⟨cs',h1,_,h2⟩
    by_cases hc0:cap=0
    ·have:len=0:=by omega
     subst this;subst hc0
     exact⟨[.sl (P.cellsOf e) []],RDs.one (.nil _ _) rfl,[],rfl,by simp[maxLen],fun r hr=>by cases hr⟩
    ·have hspot:a.spot=none:=by
      obtain⟨cs',h1,_⟩:=hcell 0 (by omega)
      have:=(World.cells?_some h1).2.2 0 hz
      have hlt:0<cs'.length:=by rw[(World.cells?_some h1).2.1];exact hz
      rw[List.getElem?_eq_getElem hlt] at this
      have e0:(a.add (0*P.cellsOf e)).add 0=a:=by simp[Addr.add]
      rw[e0] at this
      unfold World.cell? at this
      split at this
      ·cases hs:a.spot with
       |none=>rfl
       |some q=>rw[hs] at this;simp at this
      ·cases this
     obtain⟨b,off,spot⟩:=a
     simp only at hspot
     subst hspot
     let CS:Nat→List Value:=fun i=>(w.cells? 0 (Addr.add ⟨b,off,none⟩ (i*P.cellsOf e)) (P.cellsOf e)).getD []
     have hCS: ∀i,i<len→w.cells? 0 (Addr.add ⟨b,off,none⟩ (i*P.cellsOf e)) (P.cellsOf e)=some (CS i):=fun i hi=>by
      obtain⟨cs',h1,_⟩:=hcell i (by omega)
      simp[CS,h1]
     obtain⟨rows,hrl,hr⟩:=choose_rows (w:=w) (P:=P) (n:=n') (z:=0) (e:=e) (b:=0) (off:=0) len CS fun i hi=>by
      obtain⟨cs',h1,x,h2⟩:=hcell i (by omega)
      have:CS i=cs':=by simp[CS,h1]
      rw[this]
      exact rd_of_trod n' e cs' x h2 hp
     subst hrl
     have hlenr: ∀r∈rows,r.length=P.cellsOf e:=fun r hmem=>by
      obtain⟨i,hi⟩:=List.getElem?_of_mem hmem
      have hil:i<rows.length:=(List.getElem?_eq_some_iff.1 hi).1
      rw[(hr i r hi).1.1]
      exact(World.cells?_some (hCS i hil)).2.1
     refine⟨[.sl (P.cellsOf e) rows],RDs.one (.sl _ rows b off cap (fun i j=>(CS i).getD j undef) hl hm hlenr (fun i j hi hj=>?_) fun i j r x hri hx=>?_) rfl,rows,rfl,by omega,fun r hmem=>⟨hlenr r hmem,?_⟩⟩
     ·have h1:=(World.cells?_some (hCS i hi)).2.2 j hj
      have hjl:j<(CS i).length:=by rw[(World.cells?_some (hCS i hi)).2.1];exact hj
      rw[List.getElem?_eq_getElem hjl] at h1
      simp only[Addr.add_lit] at h1
      have e1:(CS i).getD j undef=(CS i)[j]:=by simp[List.getD_eq_getElem?_getD,hjl]
      refine⟨?_,?_⟩
      ·show w.cell? _=_
       rw[h1,e1]
      ·rw[e1]
       obtain⟨r,hri⟩: ∃r,rows[i]? =some r:=⟨_,List.getElem?_eq_getElem hi⟩
       exact(hr i r hri).1.2.2 _ (List.getElem_mem hjl)
     ·have hil:i<rows.length:=(List.getElem?_eq_some_iff.1 hri).1
      have hjl:j<(CS i).length:=by
       rw[←(hr i r hri).1.1];exact(List.getElem?_eq_some_iff.1 hx).1
      have e1:(CS i).getD j undef=(CS i)[j]:=by simp[List.getD_eq_getElem?_getD,hjl]
      rw[e1]
      exact(hr i r hri).1.2.1 j x _ hx (List.getElem?_eq_getElem hjl)
     ·obtain⟨i,hi⟩:=List.getElem?_of_mem hmem
      exact(hr i r hi).2
  ·rename_i fs hu
   simp only[Bool.and_eq_true,List.all_eq_true] at hp
   obtain⟨ht,hp⟩:=hp
   obtain⟨xs,n',hn,_,hlen,hxl,hg⟩:=DataW.trod_struct hu h
   obtain rfl:n'=n:=by omega
   have htl: ∀(fl:List Field) (o:Nat),tilesL P fl o (P.cellsOf t)=true→o≤P.cellsOf t∧ ∀f∈fl,f.offset+P.cellsOf f.type≤P.cellsOf t:=by
    intro fl
    induction fl with
    |nil=>intro o h;simp only[tilesL,decide_eq_true_eq] at h;exact⟨by omega,fun f hf=>by cases hf⟩
    |cons f r ih=>
     intro o h
     simp only[tilesL,Bool.and_eq_true,decide_eq_true_eq] at h
     obtain⟨h1,h2⟩:=ih _ h.2
     refine⟨by omega,fun g hg=>?_⟩
     rcases List.mem_cons.1 hg with rfl|hg
     ·omega
     ·exact h2 g hg
   obtain⟨ds,h1,h2⟩:=fields_rd (w:=w) (P:=P) (enc:=enc) hlen (fun t cs x=>rd_of_trod n' t cs x) fs.toList 0 (Nat.zero_le _) ht fun f hf=>by
    refine⟨hp f hf,?_⟩
    obtain⟨i,hi⟩:=List.getElem?_of_mem hf
    have hi':fs[i]? =some f:=by simpa using hi
    have hlt:i<xs.length:=by rw[hxl];exact(Array.getElem?_eq_some_iff.1 hi').1
    have:=hg i f hi'
    rw[List.getElem?_eq_getElem hlt] at this
    refine⟨_,this,?_⟩
    have:=(htl _ _ ht).2 f hf
    simp[hlen]
    omega
   rw[List.drop_zero] at h1
   exact⟨ds,h1,by rw[h1.1,hlen],fun f hf=>by simpa using(h2 f hf).2⟩
  ·cases hp
end
def wfA (P:Program)(t:TypeId)(x:D):Prop:=
 match P.underlying t with
 |some (.struct _)=> ∃ds,x=.agg ds∧ ∃n,wfD P n t ds
 |_=> ∃n,wfD P n t [x]
def wfAs (P:Program):List TypeId→List D→Prop
 |[],[]=>True
 |t::ts,x::xs=>wfA P t x∧wfAs P ts xs
 |_,_=>False
section
variable {H:Type}{enc:TypeId×Value→H}{P:Program}{w:World}
theorem wfA_sl {t e:TypeId}(hu:P.underlying t=some (.slice e)){x:D}(h:wfA P t x):
 ∃rows,x=.sl (P.cellsOf e) rows∧rows.length≤maxLen∧ ∃n,∀r∈rows,r.length=P.cellsOf e∧wfD P n e r:=by
 unfold wfA at h
 rw[hu] at h
 obtain⟨n,h⟩:=h
 cases n with
 |zero=>exact h.elim
 |succ n=>
  unfold wfD at h
  rw[hu] at h
  obtain⟨rows,h,hm,hr⟩:=h
  simp at h
  exact⟨rows,h,hm,n,hr⟩
theorem plain_mono : ∀(n:Nat) (t:TypeId),plainTy P n t=true→plainTy P (n+1) t=true
 |0,t,h=>by simp[plainTy] at h
 |n+1,t,h=>by
  unfold plainTy at h ⊢
  split at h
  ·trivial
  ·trivial
  ·trivial
  ·rename_i e hu
   simp only[Bool.and_eq_true] at h ⊢
   exact⟨h.1,plain_mono n e h.2⟩
  ·simp only[Bool.and_eq_true,List.all_eq_true] at h ⊢
   exact⟨h.1,fun f hf=>plain_mono n f.type (h.2 f hf)⟩
  ·cases h
theorem plain_le {n m:Nat}(h:n≤m){t:TypeId}(hp:plainTy P n t=true):plainTy P m t=true:=by
 induction h with
 |refl=>exact hp
 |step _ ih=>exact plain_mono _ t ih
theorem rd_arg {n:Nat}{t:TypeId}{v:Value}{d:DataW H}{p:List MemPlace}(hp:plainTy P n t=true)(h:DataW.Trod enc P w 0 (fun _=>true) true t v d p)
 (hv:Value.okWide P w .any 0 t v): ∃x:D,RD (memOf w) x v∧wfA P t x:=by
 obtain⟨m,hm⟩:=h
 obtain⟨ds,⟨hl,hr,ho⟩,hw⟩:=rd_of_trod (max n m) t _ _ (DataW.trod_le (Nat.le_max_right ..) hm) (plain_le (Nat.le_max_left ..) hp)
 unfold wfA
 split
 ·rename_i fs hu
  obtain⟨cs,rfl,hsz⟩:=okWide_struct hu hv
  obtain⟨cs⟩:=cs
  exact⟨.agg ds,.agg ds cs hl hr,ds,rfl,_,hw⟩
 ·rename_i hns
  have h1: ∃x,ds=[x]:=by
   cases hmx:max n m with
   |zero=>rw[hmx] at hw;exact hw.elim
   |succ q=>
    rw[hmx] at hw
    unfold wfD at hw
    split at hw
    ·obtain⟨b,rfl⟩:=hw;exact⟨_,rfl⟩
    ·obtain⟨b,rfl,_⟩:=hw;exact⟨_,rfl⟩
    ·obtain⟨b,rfl,_⟩:=hw;exact⟨_,rfl⟩
    ·obtain⟨rows,rfl,_⟩:=hw;exact⟨_,rfl⟩
    ·rename_i fs hu;exact(hns fs hu).elim
    ·exact hw.elim
  obtain⟨x,rfl⟩:=h1
  have hcs:v.cells.toList=[v]:=by
   cases v with
   |agg cs=>
    obtain⟨l⟩:=cs
    simp only[Value.cells] at hl
    exfalso
    have hok:=hv
    unfold Value.okWide at hok
    split at hok
    ·rename_i fs hu;exact hns fs hu
    ·rename_i k e hu
     cases hmx:max n m with
     |zero=>rw[hmx] at hw;exact hw.elim
     |succ q=>rw[hmx] at hw;unfold wfD at hw;rw[hu] at hw;exact hw
    ·unfold Cell.okWide at hok
     split at hok
     all_goals first|(unfold Cell.ok at hok;split at hok<;>simp_all;done)|simp_all
   |_=>rfl
  rw[hcs] at hr
  exact⟨x,hr 0 x v rfl rfl,_,hw⟩
theorem rd_args {n:Nat}: ∀ {ts:List TypeId} {vs:List Value} {ds:List (DataW H)} {p:List MemPlace},ts.all (plainTy P n)=true→DataW.TrodAll enc P w 0 (fun _=>true) true ts vs ds p→
 (∀(j:Nat) (t:TypeId) (v:Value),ts[j]? =some t→vs[j]? =some v→Value.okWide P w .any 0 t v)→
 ∃xs:List D,vs.length=xs.length∧wfAs P ts xs∧ ∀(i:Nat) (x:D) (u:Value),xs[i]? =some x→vs[i]? =some u→RD (memOf w) x u
 |[],[],[],_,_,_,_=>⟨[],rfl,trivial,fun i x u h=>by simp at h⟩
 |t::ts,v::vs,d::ds,p,hp,⟨p1,p2,h1,h2,_⟩,hv=>by
  simp only[List.all_cons,Bool.and_eq_true] at hp
  obtain⟨x,hx,hw⟩:=rd_arg hp.1 h1 (hv 0 t v rfl rfl)
  obtain⟨xs,hl,hws,hr⟩:=rd_args hp.2 h2 fun j t v ht hv'=>hv (j+1) t v (by simpa using ht) (by simpa using hv')
  refine⟨x::xs,by simp[hl],⟨hw,hws⟩,fun i y u hy hu=>?_⟩
  cases i with
  |zero=>simp at hy hu;subst hy;subst hu;exact hx
  |succ i=>exact hr i y u (by simpa using hy) (by simpa using hu)
theorem stay_args {W':World}{sp:Nat→Bool}(hl:laidOutB P=true): ∀ {ts:List TypeId} {vs:List Value} {ds:List (DataW H)} {p:List MemPlace},(ts.all fun t=>P.readableRec t&&decide (t<P.types.size))=true→
 DataW.TrodAll enc P w 0 (fun _=>true) true ts vs ds p→(∀q∈p,w.sameAt W' q∧sp q.block=true)→DataW.TrodAll enc P W' 0 sp true ts vs ds p
 |[],[],[],_,_,h,_=>h
 |t::ts,v::vs,d::ds,p,hp,⟨p1,p2,h1,h2,e⟩,hs=>by
  subst e
  simp only[List.all_cons,Bool.and_eq_true,decide_eq_true_eq] at hp
  refine⟨p1,p2,WideElems.Trod_stays hl hp.1.1 hp.1.2 h1 (fun q hq=>(hs q (List.mem_append_left _ hq)).1) (fun q hq=>(hs q (List.mem_append_left _ hq)).2),
   stay_args hl (by simpa using hp.2) h2 fun q hq=>hs q (List.mem_append_right _ hq),rfl⟩
end
section
variable {H:Type}{enc:TypeId×Value→H}{P:Program}
theorem post_of_below {f:Func}{s:ChangeSpec}{apart fresh handsOn again:Bool}{W W':World}{args:Array Value}{v:Value}{ds gs:List (DataW H)}{before pa pv:List MemPlace}
 (hW:DataW.Whole enc P f.params.toList s.vars apart W args.toList ds gs before)
 (hres: ∀(b:Nat) (sp:Nat→Bool) (hd:Bool),DataW.TrodAll enc P W' b sp hd f.resultTypes.toList (v.resultList f.resultTypes.size) (s.fn H (ds++gs)).results [])
 (hargs: ∀sp:Nat→Bool,(∀p∈before,sp p.block=true)→DataW.TrodAll enc P W' 0 sp true f.params.toList args.toList (s.fn H (ds++gs)).args pa)
 (hvars: ∀sp:Nat→Bool,(∀p∈before,sp p.block=true)→DataW.TrodVars enc P W' sp s.vars (s.fn H (ds++gs)).vars pv)
 (hps:before=pa++pv) (hb:Below W.heap.size W W')
 (hok: ∀(j:Nat) (t:TypeId) (r:Value),f.resultTypes[j]? =some t→(v.resultList f.resultTypes.size)[j]? =some r→Value.okWide P W' .any 0 t r):
 s.post enc P f apart fresh handsOn again W args v W':=by
 have hlt: ∀p∈before,p.block<W.heap.size:=fun p hp=>hW.lt p hp
 have hold: ∀p∈before,(fun b=>decide (b<W.heap.size)) p.block=true:=fun p hp=>by simpa using hlt p hp
 refine⟨ds,gs,before,[],pa,pv,hW,hres _ _ _,hargs _ hold,hvars _ hold,World.keptBut_mono (fun p hp=>⟨hp,?_⟩) (hb.frame (· ∈before)),fun _=>?_⟩
 ·rw[hps,List.mem_append] at hp
  exact Or.inr hp
 ·obtain⟨_,_,_,_,_,hz,hn⟩:=hW
  refine⟨hok,_,_,([]++pa)++pv,⟨[]++pa,pv,trodAll_append (hargs _ (fun _ _=>rfl)) (hres _ _ _),hvars _ (fun _ _=>rfl),rfl,?_,?_⟩,?_⟩
  ·intro b off hp
   have hin:MemPlace.cell b off∈before:=by rw[hps];simpa using hp
   rw[hb.frozen (hlt _ hin)]
   exact hz b off hin
  ·intro ha
   have:=hn ha
   rw[hps] at this
   simpa using this
  ·intro p hp _
   rw[hps]
   simpa using hp
end
end
section
variable {N:Nm}{S:St}{w0:World}{σ0:Bs}{ob:List Ob}{a:Act}{w:World}{g:Gh}
theorem setAll_take {α:Type}(cs us:List α)(o n:Nat)(h:o+us.length≤n)(hn:n≤cs.length):(setAll cs o us).take n=setAll (cs.take n) o us:=by
 apply List.ext_getElem?
 intro i
 rw[setAll_at _ _ _ _ (by simp;omega),List.getElem?_take]
 by_cases hi:i<n
 ·rw[if_pos hi,setAll_at _ _ _ _ (by omega),List.getElem?_take,if_pos hi]
 ·rw[if_neg hi,if_neg (by omega),List.getElem?_take,if_neg hi]
theorem row_lt {z i j n:Nat}(hi:i<n)(hj:j<z):i*z+j<n*z:=by
 have h1:(i+1)*z≤n*z:=Nat.mul_le_mul_right _ hi
 rw[Nat.add_mul] at h1
 omega
theorem row_in {z i j i' o m:Nat}(hj:j<z)(ho:o+m≤z)(h1:i*z+o≤i'*z+j)(h2:i'*z+j<i*z+o+m):i'=i:=by
 by_cases h:i'<i
 ·have:(i'+1)*z≤i*z:=Nat.mul_le_mul_right _ h
  rw[Nat.add_mul] at this
  omega
 ·by_cases h':i<i'
  ·have:(i+1)*z≤i'*z:=Nat.mul_le_mul_right _ h'
   rw[Nat.add_mul] at this
   omega
  ·omega
theorem Inv.setGr (I:Inv w0 σ0 ob w g){w':World}{m z n i off:Nat}{e e':TypeId}{rows:List (List D)}{r vals:List D}{us cur:List Value}{b cap:Nat}(hm:ob[m]? =some (.gr z e rows n false))
 (hγ:g.γ m n=.slice (some ⟨b,0,none⟩) rows.length cap) (hh:w.heap[b]? =some (.cells cur.toArray e' (0,0)))
 (hr:rows[i]? =some r) (hoff:off+vals.length≤z) (hul:vals.length=us.length) (hrd: ∀(j:Nat) (x:D) (u:Value),vals[j]? =some x→us[j]? =some u→RD g.σ x u) (h1: ∀u∈us,u.oneCell'=true)
 (hh':w'.heap[b]? =some (.cells (setAll cur (i*z+off) us).toArray e' (0,0))) (hos:w'.os=w.os) (htape:w'.tape=w.tape) (hout:w'.output=w.output) (hsize:w'.heap.size=w.heap.size)
 (hother: ∀k,k≠b→w'.heap[k]? =w.heap[k]?):Inv w0 σ0 (ob.set m (.gr z e (rows.set i (setAll r off vals)) n false)) w' g:=by
 have hlt:m<ob.length:=(List.getElem?_eq_some_iff.1 hm).1
 have hil:i<rows.length:=(List.getElem?_eq_some_iff.1 hr).1
 obtain⟨hlim,xs,⟨hown,hmine⟩,hzr,hxr,hone,hσ⟩:=I.obs m _ hm
 have hrz:r.length=z:=hzr r (List.mem_of_getElem? hr)
 have hown':=hown
 obtain⟨hxl,hown2⟩:=hown'
 obtain⟨hcapl,hcapm,hcs,htake,hee⟩:rows.length≤cap∧cap≤maxLen∧cur.length=cap*z∧cur.take (rows.length*z)=xs∧e'=e:=by
  rcases hown2 with⟨hv,_⟩|⟨b2,cap2,cur2,hv,hb,hhb,hc,hmm,hs,ht⟩
  ·rw[hγ] at hv;cases hv
  ·rw[hγ] at hv
   injection hv with e1 _ e3
   injection e1 with e1
   injection e1 with e1 _ _
   subst e1;subst e3
   rw[hh] at hhb
   have:=Option.some.inj hhb
   injection this with e4 e5 _
   subst e4
   exact⟨hc,hmm,by simpa using hs,by simpa using ht,e5⟩
 subst hee
 have hpos:i*z+off+us.length≤rows.length*z:=by
  have h1:(i+1)*z≤rows.length*z:=Nat.mul_le_mul_right _ hil
  rw[Nat.add_mul] at h1
  omega
 have hcaps:rows.length*z≤cur.length:=by rw[hcs];exact Nat.mul_le_mul_right _ hcapl
 have hxs':(setAll cur (i*z+off) us).take (rows.length*z)=setAll xs (i*z+off) us:=by
  rw[setAll_take _ _ _ _ hpos hcaps,htake]
 refine I.turn hm (fun _ _ _ _ h=>by cases h) (by omega) (Gh.le_refl g) rfl (fun _ _=>⟨rfl,rfl⟩) hos htape hout (by omega) (fun b2 _ hb2=>hother b2 fun e=>hb2 (by subst e;simp[Gh.at,hγ,Value.ownBlock]))
  ⟨hlim,setAll xs (i*z+off) us,⟨⟨by rw[setAll_length,hxl];simp,.inr ⟨b,cap,_,by rw[hγ];simp,Nat.zero_le _,hh',by simpa using hcapl,hcapm,by simp[setAll_length,hcs],by simpa using hxs'⟩⟩,hmine⟩,fun q hq=>?_,fun i' j q x hq hx=>?_,fun u hu=>?_,hσ⟩ fun b2 hb2=>.inl hb2
 ·rcases List.mem_or_eq_of_mem_set hq with h|h
  ·exact hzr q h
  ·rw[h,setAll_length,hrz]
 ·rw[List.getElem?_set] at hq
  have hat:=setAll_at us xs (i*z+off) (i'*z+j) (by rw[hxl];exact hpos)
  by_cases hi:i=i'
  ·subst hi
   rw[if_pos rfl,if_pos hil] at hq
   simp only[Option.some.injEq] at hq
   subst hq
   have hjz:j<z:=by
    have:=(List.getElem?_eq_some_iff.1 hx).1
    rwa [setAll_length,hrz] at this
   rw[setAll_at _ _ _ _ (by omega)] at hx
   by_cases hj:off≤j∧j<off+vals.length
   ·rw[if_pos hj] at hx
    have hju:j - off<us.length:=by omega
    refine⟨us[j - off],?_,hrd _ x _ hx (List.getElem?_eq_getElem hju)⟩
    rw[hat,if_pos (by omega),show i*z+j - (i*z+off)=j - off by omega]
    exact List.getElem?_eq_getElem hju
   ·rw[if_neg hj] at hx
    obtain⟨u,hu,hd⟩:=hxr i j r x hr hx
    refine⟨u,?_,hd⟩
    rw[hat,if_neg (by omega)]
    exact hu
  ·rw[if_neg hi] at hq
   obtain⟨u,hu,hd⟩:=hxr i' j q x hq hx
   have hjz:j<z:=by
    have:=(List.getElem?_eq_some_iff.1 hx).1
    rwa [hzr q (List.mem_of_getElem? hq)] at this
   refine⟨u,?_,hd⟩
   rw[hat,if_neg (fun h=>hi (row_in hjz (by omega) h.1 h.2).symm)]
   exact hu
 ·obtain⟨q,hq⟩:=List.getElem?_of_mem hu
  rw[setAll_at _ _ _ _ (by rw[hxl];exact hpos)] at hq
  split at hq
  ·exact h1 u (List.mem_of_getElem? hq)
  ·exact hone u (List.mem_of_getElem? hq)
end
section
variable {E:Env}{N:Nm}{Q:Exit→St→Prop}{S:St}{ops l:List Oper}{ty:TypeId}{pos:String}{after:Array Edge}{gd:Option (Nat×Bool)}{d:Nat}
theorem WL.storeEg {t:TypeId}{x v:Operand}{m z n i off:Nat}{e:TypeId}{rows:List (List D)}{r vals:List D}(hw:S.want ops ⟨none,.store t x v,ty,pos,after,gd⟩=some true)(hk:(E.ty t).known=true)
 (hx:S.ev x=.eg m n z i off) (hm:S.ob[m]? =some (.gr z e rows n false)) (hr:rows[i]? =some r) (hv:rowOf S.ob (fixNil E t (S.ev v))=some vals) (hn:Nat.beq vals.length (E.ty t).size=true) (ho:Nat.ble (off+vals.length) z=true)
 (h1:onesD vals=true)
 (k:WL E.P N ops l Q ⟨S.tm,S.ob.set m (.gr z e (rows.set i (setAll r off vals)) n false)⟩):WL E.P N ops (⟨none,.store t x v,ty,pos,after,gd⟩::l) Q S:=
 WL.effskip (by simp) hw (fun w0 σ0 a w g R=>by
  obtain⟨inf,zz,hinf,hsz,_⟩:=E.info hk
  have hxr:=R.ev x
  rw[hx] at hxr
  obtain⟨b,len,cap,hlim,hγ,hxv⟩:=hxr.inv_eg
  obtain⟨c1,c2,c3⟩:=R.inv.row hv ((R.ev v).fixNil E t) h1
  obtain⟨hl,xs,⟨hown,_⟩,hzr,_⟩:=R.inv.obs m _ hm
  have hil:i<rows.length:=(List.getElem?_eq_some_iff.1 hr).1
  have ho':=Nat.le_of_ble_eq_true ho
  have hn':=Nat.eq_of_beq_eq_true hn
  rcases hown.2 with⟨hv0,_⟩|⟨b2,cap2,cur,hv2,hb,hh,hc,hmm,hs,ht⟩
  ·rw[hγ] at hv0;cases hv0
  ·rw[hγ] at hv2
   injection hv2 with e1 e2 e3
   injection e1 with e1
   injection e1 with e1 _ _
   subst e1;subst e3;subst e2
   obtain⟨cur⟩:=cur
   have hpos:i*z+off+vals.length≤cur.length:=by
    have h1:(i+1)*z≤rows.length*z:=Nat.mul_le_mul_right _ hil
    have h2:rows.length*z≤cap*z:=Nat.mul_le_mul_right _ hc
    have h3:cur.length=cap*z:=by simpa using hs
    rw[Nat.add_mul] at h1
    omega
   obtain⟨w',hrun,hh',g1,g2,g3,g4,g5⟩:=run_storeCells (P:=E.P) (a.eval v).cells.toList cur (i*z+off) 0 w hh (by omega) c3
   refine⟨w',g,?_,Gh.le_refl g,R.inv.setGr hm hγ hh hr ho' c1 c2 c3 (by simpa using hh') g1 g2 g3 g4 g5⟩
   have hsize:(a.eval v).cells.size=inf.size:=by
    have:(a.eval v).cells.toList.length=(a.eval v).cells.size:=Array.length_toList
    omega
   simp[execOp,Instr.storeAt,Instr.sureAddr,hxv,storeVar,sizeOf,typeInfo,hinf,hsize,hrun]) k
theorem WL.makeSlice {t e:TypeId}{lo hi:Operand}{z:Nat}{kl kc:IntKind}{li ci:Int}{zs:List D}(hw:S.want ops ⟨some d,.makeSlice t lo hi,ty,pos,after,gd⟩=some true)(hd:Nat.blt d N.n=true)
 (ht:(E.ty t).kind=.slice e) (he:(E.ty e).known=true) (hz:(E.ty e).size=z) (hz0:Nat.blt 0 z=true) (hby:Nat.ble 1 (E.ty e).bytes=true) (hzs:(E.ty e).zero=zs)
 (hl:S.ev lo=.d (.v (.int kl li))) (hc:S.ev hi=.d (.v (.int kc ci))) (hb:0≤li∧li≤ci∧((E.ty e).bytes:Int)*ci≤281474976710656)
 (k:WL E.P N ops l Q ⟨(S.set d (.og S.ob.length 0)).tm,S.ob++[.gr z e (List.replicate li.toNat zs) 0 false]⟩):WL E.P N ops (⟨some d,.makeSlice t lo hi,ty,pos,after,gd⟩::l) Q S:=
 WL.eff (by simp) hw hd (fun w0 σ0 a w g R=>by
  obtain⟨inf,zv,hinf,hsz,hbytes,hzv,hzas,hzc⟩:=E.info he
  have h1:=(hl▸R.ev lo:RT g (.d (.v (.int kl li))) _).inv_v
  have h2:=(hc▸R.ev hi:RT g (.d (.v (.int kc ci))) _).inv_v
  have hby':=Nat.le_of_ble_eq_true hby
  obtain⟨hb1,hb2,hb3⟩:=hb
  have hz0':0<z:=by simpa using hz0
  have hcs:ci≤281474976710656:=by
   have:(1:Int)*ci≤((E.ty e).bytes:Int)*ci:=Int.mul_le_mul_of_nonneg_right (by omega) (by omega)
   omega
  have hrun:=run_make (P:=E.P) w t e inf zv (E.slice ht) hinf hzv kl kc li ci hb1 hb2 (by rw[hbytes];exact hb3) (by omega)
  rw[hzs] at hzas
  obtain⟨z1,z2,z3⟩:=zerosAre_ok hzas
  have hzsl:zs.length=z:=by rw[z1];simpa [hz] using hzc
  have hzcl:zv.cells.size=z:=by rw[hzc,hz]
  let xs:List Value:=(madeCells zv.cells (ci.toNat*inf.size)).toList.take (li.toNat*z)
  have hle:li.toNat*z≤ci.toNat*z:=Nat.mul_le_mul_right _ (by omega)
  have hxsl:xs.length=li.toNat*z:=by
   simp only[xs,List.length_take,Array.length_toList,size_madeCells,hsz,hz]
   omega
  have hxat: ∀q,q<li.toNat*z→xs[q]? =zv.cells.toList[q % z]? :=fun q hq=>by
   have hq2:q % z<zv.cells.size:=by rw[hzcl];exact Nat.mod_lt _ hz0'
   simp only[xs,List.getElem?_take,if_pos hq]
   rw[Array.getElem?_toList,madeCells]
   simp only[Array.getElem?_map]
   rw[Array.getElem?_range,if_pos (by rw[hsz,hz];omega)]
   simp only[Option.map_some]
   rw[hzcl,getElem!_pos zv.cells (q % z) hq2,Array.getElem?_toList,Array.getElem?_eq_getElem hq2]
  have hmem: ∀u∈xs,u∈zv.cells.toList:=fun u hu=>by
   obtain⟨q,hq⟩:=List.getElem?_of_mem hu
   have hql:q<li.toNat*z:=by rw[←hxsl];exact(List.getElem?_eq_some_iff.1 hq).1
   rw[hxat q hql] at hq
   exact List.mem_of_getElem? hq
  have hheap:(w.alloc (.cells (madeCells zv.cells (ci.toNat*inf.size)) e)).heap[w.heap.size]? =some (.cells (madeCells zv.cells (ci.toNat*inf.size)) e (0,0)):=by
   exact(MapKept.heap_alloc w _).1
  obtain⟨g',hle',I',ht'⟩:=R.inv.addGr (by rw[R.hm];exact R.hl) (w':=w.alloc (.cells (madeCells zv.cells (ci.toNat*inf.size)) e)) ((Below.refl _ w).alloc (Nat.le_refl _) _) z e (List.replicate li.toNat zs)
   (.slice (some ⟨w.heap.size,0,none⟩) li.toNat ci.toNat) xs
   ⟨by simpa using hxsl,.inr ⟨w.heap.size,ci.toNat,_,by simp,Nat.le_refl _,hheap,by simp;omega,by simp only[maxLen];omega,by rw[size_madeCells,hsz,hz],by simp[xs]⟩⟩
   (fun r hr=>by rw[List.eq_of_mem_replicate hr];exact hzsl)
   (fun i j r x hr hx=>by
     have hil:i<li.toNat:=by have:=(List.getElem?_eq_some_iff.1 hr).1;simpa using this
     obtain rfl:r=zs:=List.eq_of_mem_replicate (List.mem_of_getElem? hr)
     have hjz:j<z:=by rw[←hzsl];exact(List.getElem?_eq_some_iff.1 hx).1
     have hq:=row_lt hil hjz
     have hmod:(i*z+j) % z=j:=by rw[Nat.add_comm,Nat.add_mul_mod_self_right,Nat.mod_eq_of_lt hjz]
     have hjl:j<zv.cells.toList.length:=by simp[hzcl,hjz]
     refine⟨zv.cells.toList[j],by rw[hxat _ hq,hmod];exact List.getElem?_eq_getElem hjl,z3 _ j x _ hx (List.getElem?_eq_getElem hjl)⟩)
   (fun u hu=>z2 u (hmem u hu))
  refine⟨_,_,g',?_,hle',I',ht'⟩
  simp[execOp,h1,h2,hrun]) k
section
variable {tm:Nat→T}{ob:List Ob}{G:List Nat}
theorem WG.obEq {P:Program}{ob':List Ob}(h:ob=ob')(k:WG G P N ops l Q ⟨tm,ob'⟩):WG G P N ops l Q ⟨tm,ob⟩:=by rw[h];exact k
theorem WG.stE {t:TypeId}{x v:Operand}{m z n i off:Nat}{e:TypeId}{rows:List (List D)}{r vals:List D}(hw:St.want ⟨tm,ob⟩ ops ⟨none,.store t x v,ty,pos,after,gd⟩=some true)(hk:(E.ty t).known=true)
 (hx:St.ev ⟨tm,ob⟩ x=.eg m n z i off) (hm:ob[m]? =some (.gr z e rows n false)) (hr:rows[i]? =some r) (hv:rowOf ob (fixNil E t (St.ev ⟨tm,ob⟩ v))=some vals) (hn:Nat.beq vals.length (E.ty t).size=true) (ho:Nat.ble (off+vals.length) z=true)
 (h1:onesD vals=true)
 (k:WG G E.P N ops l Q ⟨tm,ob.set m (.gr z e (rows.set i (setAll r off vals)) n false)⟩):WG G E.P N ops (⟨none,.store t x v,ty,pos,after,gd⟩::l) Q ⟨tm,ob⟩:=
 WL.storeEg (S:=⟨tm,ob⟩) hw hk hx hm hr hv hn ho h1 k
theorem WG.mk {t e:TypeId}{lo hi:Operand}{z K:Nat}{kl kc:IntKind}{li ci:Int}{zs:List D}(hw:St.want ⟨tm,ob⟩ ops ⟨some d,.makeSlice t lo hi,ty,pos,after,gd⟩=some true)(hd:Nat.blt d N.n=true)
 (ht:(E.ty t).kind=.slice e) (he:(E.ty e).known=true) (hz:(E.ty e).size=z) (hz0:Nat.blt 0 z=true) (hby:Nat.ble 1 (E.ty e).bytes=true) (hzs:(E.ty e).zero=zs)
 (hl:St.ev ⟨tm,ob⟩ lo=.d (.v (.int kl li))) (hc:St.ev ⟨tm,ob⟩ hi=.d (.v (.int kc ci))) (hK:ob.length=K) (hb:0≤li∧li≤ci∧((E.ty e).bytes:Int)*ci≤281474976710656)
 (k:WG G E.P N ops l Q ⟨upd tm d (.og K 0),ob++[.gr z e (List.replicate li.toNat zs) 0 false]⟩):WG G E.P N ops (⟨some d,.makeSlice t lo hi,ty,pos,after,gd⟩::l) Q ⟨tm,ob⟩:=by
 subst hK
 exact WL.makeSlice (S:=⟨tm,ob⟩) hw hd ht he hz hz0 hby hzs hl hc hb k
end
end
theorem Inv.later {w0:World}{σ0:Bs}{ob:List Ob}{w w':World}{g:Gh}(I:Inv w0 σ0 ob w g)(hb:Below w.heap.size w w'):Inv w0 σ0 ob w' g:=by
 refine⟨I.below.trans hb,I.old,fun b o u hu=>?_,fun k o hk=>?_,I.lim,I.dis,I.ext⟩
 ·rw[World.cell?_of_block (w:=w) (w':=w') (hb.block b (I.lt_of_σ hu))]
  exact I.con b o u hu
 ·exact(I.obs k o hk).mono (Gh.le_refl g) rfl rfl (fun b hbk=>⟨hb.block b ((I.obs k o hk).at_lt hbk).2,fun _=>rfl⟩) hb.size
theorem Rel.later {N:Nm}{w0:World}{σ0:Bs}{S:St}{a:Act}{w w':World}{g:Gh}(r:Rel N w0 σ0 S a w g)(hb:Below w.heap.size w w'):Rel N w0 σ0 S a w' g:=
 ⟨r.inv.later hb,r.defers,r.size,r.hm,r.hl,r.tm⟩
section
variable {P:Program}{E:Env}{N:Nm}{K:St→Prop}{tm:Nat→T}{ob:List Ob}{ops l:List Oper}{op:Op}{ty:TypeId}{pos:String}{after:Array Edge}{gd:Option (Nat×Bool)}{d:Nat}
end
section
variable {P:Program}
theorem wfD_int {n:Nat}{k:IntKind}{t:TypeId}{x:D}(hu:P.underlying t=some (.int k))(h:wfD P n t [x]): ∃i:Int,(Lit.int k i).wf=true∧x=.v (.int k i):=by
 cases n with
 |zero=>exact h.elim
 |succ n=>
  unfold wfD at h
  rw[hu] at h
  obtain⟨s,h,hs⟩:=h
  simp at h
  exact⟨s,hs,h⟩
theorem rows_map {α:Type}{f:α→List D}{rows:List (List D)}{p:α→Prop}(h: ∀r∈rows,∃c,p c∧r=f c): ∃cs:List α,rows=cs.map f∧ ∀c∈cs,p c:=by
 induction rows with
 |nil=>exact⟨[],rfl,fun c hc=>by cases hc⟩
 |cons r rs ih=>
  obtain⟨c,hc,rfl⟩:=h r (List.mem_cons_self ..)
  obtain⟨cs,rfl,hcs⟩:=ih fun q hq=>h q (List.mem_cons_of_mem _ hq)
  exact⟨c::cs,rfl,fun x hx=>by
   rcases List.mem_cons.1 hx with rfl|hx
   ·exact hc
   ·exact hcs x hx⟩
end
end Go.Proofs.YtmmjbpgdkokjgaaGreatDoor
