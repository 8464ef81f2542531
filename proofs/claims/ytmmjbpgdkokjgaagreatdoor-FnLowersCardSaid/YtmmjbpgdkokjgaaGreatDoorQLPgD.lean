/-
  A text of this claim. Conditions: none.
-/
import Derived.Test.YtmmjbpgdkokjgaaGreatDoorQLPgC
set_option linter.unusedVariables false
set_option linter.unusedSimpArgs false
set_option maxRecDepth 100000
set_option maxHeartbeats 16000000
namespace Go.Proofs.YtmmjbpgdkokjgaaGreatDoor
open Go.RowKit
def St.imp (N:Nm)(S S':St):Prop:= ∀w0 σ0 a w g,Rel N w0 σ0 S a w g→ ∃g',Rel N w0 σ0 S' a w g'
theorem St.imp.of_le {N:Nm}{S S':St}(h:St.le N S S'):St.imp N S S':=fun _ _ _ _ _ r=>r.weaken h
theorem St.imp.trans {N:Nm}{S S' S2:St}(h:St.imp N S S')(k:St.imp N S' S2):St.imp N S S2:=fun w0 σ0 a w g r=>
 let ⟨g',r'⟩:=h w0 σ0 a w g r;k w0 σ0 a w g' r'
theorem W.imp {P:Program}{N:Nm}{c:Code}{Q:Exit→St→Prop}{S S':St}(h:St.imp N S S')(k:W P N c Q S'):W P N c Q S:=fun w0 σ0 a w g r=>
 let ⟨g',r'⟩:=h w0 σ0 a w g r;k w0 σ0 a w g' r'
mutual
def T.rev (k n:Nat):T→T
 |.d x=>.d x
 |.agg cs=>.agg (T.revL k n cs)
 |.tup cs=>.tup (T.revL k n cs)
 |.clo f cs=>.clo f (T.revL k n cs)
 |.ps l c=>bif Nat.beq l k then .any else .ps l c
 |.os j m i=>bif Nat.beq j k then .any else .os j m i
 |.ifc ty t=>.ifc ty (T.rev k n t)
 |.lp l off=>bif Nat.beq l k then .any else .lp l off
 |.og j m=>bif Nat.beq j k then(bif Nat.beq m n then .og k 0 else .any) else .og j m
 |.ea r off=>.ea r off
 |.eg j m z i off=>bif Nat.beq j k then(bif Nat.beq m n then .eg k 0 z i off else .any) else .eg j m z i off
 |.any=>.any
def T.revL (k n:Nat):List T→List T
 |[]=>[]
 |t::r=>T.rev k n t::T.revL k n r
end
theorem T.revL_map (k n:Nat): ∀cs,T.revL k n cs=cs.map (T.rev k n)
 |[]=>by simp[T.revL]
 |t::r=>by simp[T.revL,T.revL_map k n r]
def Ob.rev (k n:Nat):Ob→Ob
 |.pv cs=>.pv (T.revL k n cs)
 |o=>o
def revObs (k n:Nat):List Ob→Nat→List Ob
 |[],_=>[]
 |o::r,i=>(bif Nat.beq i k then(match o with|.gr z e rows m pub=>(bif Nat.beq m n then .gr z e rows 0 pub else .dead)|.x X m=>(bif Nat.beq m n then .x X 0 else .dead)|_=>.dead) else Ob.rev k n o)::revObs k n r (i+1)
theorem revObs_at (k n:Nat): ∀(l:List Ob) (i j:Nat),(revObs k n l i)[j]? =(l[j]?).map fun o=>(bif Nat.beq (i+j) k then(match o with|.gr z e rows m pub=>(bif Nat.beq m n then .gr z e rows 0 pub else .dead)|.x X m=>(bif Nat.beq m n then .x X 0 else .dead)|_=>.dead) else Ob.rev k n o)
 |[],i,j=>by simp[revObs]
 |o::r,i,0=>by simp[revObs]
 |o::r,i,j+1=>by
  simp only[revObs,List.getElem?_cons_succ]
  rw[revObs_at k n r (i+1) j,show i+1+j=i+(j+1) by omega]
theorem revObs_length (k n:Nat): ∀(l:List Ob) (i:Nat),(revObs k n l i).length=l.length
 |[],i=>rfl
 |o::r,i=>by simp[revObs,revObs_length k n r]
def Gh.rev (g:Gh)(k n:Nat):Gh:={ σ:=g.σ,foot:=g.foot,γ:=fun j m=>if j=k then g.γ k n else g.γ j m,lim:=fun j=>if j=k then 1 else g.lim j }
theorem RT.rev {g:Gh}{k n:Nat}{t:T}{u:Value}(h:RT g t u):RT (g.rev k n) (t.rev k n) u:=by
 induction h with
 |d x u h=>exact .d x u h
 |agg cs vs hl h ih=>
  simp only[T.rev,T.revL_map]
  refine .agg _ vs (by simpa using hl) fun i x u hx hu=>?_
  simp only[List.getElem?_map,Option.map_eq_some_iff] at hx
  obtain⟨y,hy,rfl⟩:=hx
  exact ih i y u hy hu
 |tup cs vs hl h ih=>
  simp only[T.rev,T.revL_map]
  refine .tup _ vs (by simpa using hl) fun i x u hx hu=>?_
  simp only[List.getElem?_map,Option.map_eq_some_iff] at hx
  obtain⟨y,hy,rfl⟩:=hx
  exact ih i y u hy hu
 |lp l off b h0 h=>
  simp only[T.rev]
  by_cases hj:l=k
  ·subst hj
   rw[show Nat.beq l l=true by simp,cond_true]
   exact .any _
  ·rw[nbeq hj,cond_false]
   exact .lp l off b (by simpa [Gh.rev,hj] using h0) (by simpa [Gh.rev,hj] using h)
 |og j m h=>
  simp only[T.rev]
  by_cases hj:j=k
  ·subst hj
   rw[show Nat.beq j j=true by simp,cond_true]
   by_cases hm:m=n
   ·subst hm
    rw[show Nat.beq m m=true by simp,cond_true]
    have:=RT.og (g:=g.rev j m) j 0 (by simp[Gh.rev])
    simpa [Gh.rev] using this
   ·rw[nbeq hm,cond_false];exact .any _
  ·rw[nbeq hj,cond_false]
   have:=RT.og (g:=g.rev k n) j m (by simpa [Gh.rev,hj] using h)
   simpa [Gh.rev,hj] using this
 |ea r off b o U hc hr=>exact .ea r off b o U hc hr
 |eg j m z i off b len cap h hg=>
  simp only[T.rev]
  by_cases hj:j=k
  ·subst hj
   rw[show Nat.beq j j=true by simp,cond_true]
   by_cases hm:m=n
   ·subst hm
    rw[show Nat.beq m m=true by simp,cond_true]
    exact .eg j 0 z i off b len cap (by simp[Gh.rev]) (by simpa [Gh.rev] using hg)
   ·rw[nbeq hm,cond_false];exact .any _
  ·rw[nbeq hj,cond_false]
   exact .eg j m z i off b len cap (by simpa [Gh.rev,hj] using h) (by simpa [Gh.rev,hj] using hg)
 |clo f cs vs hl h ih=>
  simp only[T.rev,T.revL_map]
  refine .clo f _ vs (by simpa using hl) fun i x u hx hu=>?_
  simp only[List.getElem?_map,Option.map_eq_some_iff] at hx
  obtain⟨y,hy,rfl⟩:=hx
  exact ih i y u hy hu
 |ps l c b h0 h=>
  simp only[T.rev]
  by_cases hj:l=k
  ·subst hj
   rw[show Nat.beq l l=true by simp,cond_true]
   exact .any _
  ·rw[nbeq hj,cond_false]
   exact .ps l c b (by simpa [Gh.rev,hj] using h0) (by simpa [Gh.rev,hj] using h)
 |os j m i b len cap h hg hi=>
  simp only[T.rev]
  by_cases hj:j=k
  ·subst hj
   rw[show Nat.beq j j=true by simp,cond_true]
   exact .any _
  ·rw[nbeq hj,cond_false]
   exact .os j m i b len cap (by simpa [Gh.rev,hj] using h) (by simpa [Gh.rev,hj] using hg) hi
 |ifc ty t u h ih=>simp only[T.rev];exact .ifc ty _ u ih
 |any u=>exact .any u
theorem St.imp.rev {N:Nm}{S:St}(k n:Nat){z:Nat}{e:TypeId}{rows:List (List D)}{pub:Bool}(hk:S.ob[k]? =some (.gr z e rows n pub))(hm:Nat.ble N.m k=true:=by rfl):
 St.imp N S ⟨fun i=>(S.tm i).rev k n,revObs k n S.ob 0⟩:=fun w0 σ0 a w g r=>by
 have I:=r.inv
 have hlt:k<S.ob.length:=(List.getElem?_eq_some_iff.1 hk).1
 have hget: ∀(j:Nat) (p:Ob),(revObs k n S.ob 0)[j]? =some p→(j=k∧p=.gr z e rows 0 pub)∨(j≠k∧ ∃q,S.ob[j]? =some q∧p=q.rev k n):=by
  intro j p hp
  rw[revObs_at,Nat.zero_add] at hp
  by_cases hj:j=k
  ·subst hj
   rw[hk] at hp
   simp only[Option.map_some,Option.some.injEq,show Nat.beq j j=true by simp,cond_true,show Nat.beq n n=true by simp] at hp
   exact .inl ⟨rfl,hp.symm⟩
  ·cases hq:S.ob[j]? with
   |none=>rw[hq] at hp;simp at hp
   |some q=>
    rw[hq] at hp
    simp only[Option.map_some,Option.some.injEq,nbeq hj,cond_false] at hp
    exact .inr ⟨hj,q,rfl,hp.symm⟩
 have hat: ∀(j:Nat) (q:Ob) (b:Nat),j≠k→((g.rev k n).at j (q.rev k n) b↔g.at j q b):=fun j q b hj=>by
  cases q<;>simp[Gh.at,Ob.rev,Gh.rev,hj]
 have hobk:=I.obs k _ hk
 have hm':=Nat.le_of_ble_eq_true hm
 refine⟨g.rev k n,⟨I.below,I.old,I.con,fun j p hp=>?_,fun j hj=>?_,fun j j' p p' b hne hp hp' hb hb'=>?_,fun j hj=>?_⟩,r.defers,r.size,r.hm,by rw[revObs_length];exact r.hl,fun i=>(r.tm i).rev⟩
 ·rcases hget j p hp with⟨rfl,rfl⟩|⟨hj,q,hq,rfl⟩
  ·obtain⟨h1,xs,h2,h3,h4,h5,h6⟩:=hobk
   exact⟨by simp[Gh.rev],xs,by simpa [Gh.rev] using h2,h3,h4,h5,by simpa [Gh.rev] using h6⟩
  ·have:=I.obs j q hq
   cases q with
   |pv cs=>
    obtain⟨h1,b,vs,e',h2,h3,h4,h5,h6,h7,h8⟩:=this
    refine⟨by simpa [Gh.rev,hj] using h1,b,vs,e',by simpa [Gh.rev,hj] using h2,h3,h4,by rw[T.revL_map];simpa using h5,fun i x u hx hu=>?_,h7,h8⟩
    rw[T.revL_map] at hx
    simp only[List.getElem?_map,Option.map_eq_some_iff] at hx
    obtain⟨y,hy,rfl⟩:=hx
    exact(h6 i y u hy hu).rev
   |gr z' e' rows' n' pub'=>
    obtain⟨h1,xs,h2,h3,h4,h5,h6⟩:=this
    exact⟨by simpa [Gh.rev,hj] using h1,xs,by simpa [Gh.rev,hj] using h2,h3,h4,h5,by simpa [Gh.rev,hj] using h6⟩
   |x X n'=>
    obtain⟨h1,h2⟩:=this
    exact⟨by simpa [Gh.rev,hj] using h1,by simpa [Gh.rev,hj] using h2⟩
   |dead=>trivial
   |new=>simpa [ObOK,Ob.rev,Gh.rev,hj] using this
 ·rw[revObs_length] at hj
  have:¬j=k:=by omega
  simp[Gh.rev,this,I.lim j hj]
 ·have same: ∀(i:Nat) (p:Ob),(revObs k n S.ob 0)[i]? =some p→ ∃q,S.ob[i]? =some q∧ ∀b,(g.rev k n).at i p b→g.at i q b:=fun i p hp=>by
   rcases hget i p hp with⟨rfl,rfl⟩|⟨hi,q,hq,rfl⟩
   ·exact⟨_,hk,fun b hb=>by simpa [Gh.at,Gh.rev] using hb⟩
   ·exact⟨q,hq,fun b hb=>(hat i q b hi).1 hb⟩
  obtain⟨q,hq,hqb⟩:=same j p hp
  obtain⟨q',hq',hqb'⟩:=same j' p' hp'
  exact I.dis j j' q q' b hne hq hq' (hqb b hb) (hqb' b hb')
 ·have:¬j=k:=by have:=r.hm;omega
  simpa [Gh.rev,this] using I.ext j hj
mutual
def T.mov (k n K:Nat):T→T
 |.d x=>.d x
 |.agg cs=>.agg (T.movL k n K cs)
 |.tup cs=>.tup (T.movL k n K cs)
 |.clo f cs=>.clo f (T.movL k n K cs)
 |.ps l c=>bif Nat.beq l k||Nat.beq l K then .any else .ps l c
 |.os j m i=>bif Nat.beq j k||Nat.beq j K then .any else .os j m i
 |.ifc ty t=>.ifc ty (T.mov k n K t)
 |.lp l off=>bif Nat.beq l k||Nat.beq l K then .any else .lp l off
 |.og j m=>bif Nat.beq j k then(bif Nat.beq m n then .og K 0 else .any) else bif Nat.beq j K then .any else .og j m
 |.ea r off=>.ea r off
 |.eg j m z i off=>bif Nat.beq j k||Nat.beq j K then .any else .eg j m z i off
 |.any=>.any
def T.movL (k n K:Nat):List T→List T
 |[]=>[]
 |t::r=>T.mov k n K t::T.movL k n K r
end
theorem T.movL_map (k n K:Nat): ∀cs,T.movL k n K cs=cs.map (T.mov k n K)
 |[]=>by simp[T.movL]
 |t::r=>by simp[T.movL,T.movL_map k n K r]
def Ob.mov (k n K:Nat):Ob→Ob
 |.pv cs=>.pv (T.movL k n K cs)
 |o=>o
def movObs (k n K:Nat)(G:Ob):List Ob→Nat→List Ob
 |[],_=>[]
 |o::r,i=>(bif Nat.beq i k then .dead else bif Nat.beq i K then G else Ob.mov k n K o)::movObs k n K G r (i+1)
theorem movObs_at (k n K:Nat)(G:Ob): ∀(l:List Ob) (i j:Nat),(movObs k n K G l i)[j]? =(l[j]?).map fun o=>(bif Nat.beq (i+j) k then .dead else bif Nat.beq (i+j) K then G else Ob.mov k n K o)
 |[],i,j=>by simp[movObs]
 |o::r,i,0=>by simp[movObs]
 |o::r,i,j+1=>by
  simp only[movObs,List.getElem?_cons_succ]
  rw[movObs_at k n K G r (i+1) j,show i+1+j=i+(j+1) by omega]
theorem movObs_length (k n K:Nat)(G:Ob): ∀(l:List Ob) (i:Nat),(movObs k n K G l i).length=l.length
 |[],i=>rfl
 |o::r,i=>by simp[movObs,movObs_length k n K G r]
def Gh.mov (g:Gh)(k n K:Nat):Gh:={ σ:=g.σ,foot:=g.foot,γ:=fun j m=>if j=K then g.γ k n else g.γ j m,lim:=fun j=>if j=K then 1 else g.lim j }
theorem RT.mov {g:Gh}{k n K:Nat}{t:T}{u:Value}(h:RT g t u):RT (g.mov k n K) (t.mov k n K) u:=by
 induction h with
 |d x u h=>exact .d x u h
 |agg cs vs hl h ih=>
  simp only[T.mov,T.movL_map]
  refine .agg _ vs (by simpa using hl) fun i x u hx hu=>?_
  simp only[List.getElem?_map,Option.map_eq_some_iff] at hx
  obtain⟨y,hy,rfl⟩:=hx
  exact ih i y u hy hu
 |tup cs vs hl h ih=>
  simp only[T.mov,T.movL_map]
  refine .tup _ vs (by simpa using hl) fun i x u hx hu=>?_
  simp only[List.getElem?_map,Option.map_eq_some_iff] at hx
  obtain⟨y,hy,rfl⟩:=hx
  exact ih i y u hy hu
 |lp l off b h0 h=>
  simp only[T.mov]
  by_cases hj:l=k∨l=K
  ·rw[show(Nat.beq l k||Nat.beq l K)=true by rcases hj with rfl|rfl<;>simp,cond_true]
   exact .any _
  ·rw[not_or] at hj
   rw[nbeq hj.1,nbeq hj.2,Bool.or_false,cond_false]
   exact .lp l off b (by simpa [Gh.mov,hj.2] using h0) (by simpa [Gh.mov,hj.2] using h)
 |og j m h=>
  simp only[T.mov]
  by_cases hj:j=k
  ·subst hj
   rw[show Nat.beq j j=true by simp,cond_true]
   by_cases hm:m=n
   ·subst hm
    rw[show Nat.beq m m=true by simp,cond_true]
    have:=RT.og (g:=g.mov j m K) K 0 (by simp[Gh.mov])
    simpa [Gh.mov] using this
   ·rw[nbeq hm,cond_false];exact .any _
  ·rw[nbeq hj,cond_false]
   by_cases hne:j=K
   ·subst hne
    rw[show Nat.beq j j=true by simp,cond_true];exact .any _
   ·rw[nbeq hne,cond_false]
    have:=RT.og (g:=g.mov k n K) j m (by simpa [Gh.mov,hne] using h)
    simpa [Gh.mov,hne] using this
 |ea r off b o U hc hr=>exact .ea r off b o U hc hr
 |eg j m z i off b len cap h hg=>
  simp only[T.mov]
  by_cases hj:j=k∨j=K
  ·rw[show(Nat.beq j k||Nat.beq j K)=true by rcases hj with rfl|rfl<;>simp,cond_true]
   exact .any _
  ·rw[not_or] at hj
   rw[nbeq hj.1,nbeq hj.2,Bool.or_false,cond_false]
   exact .eg j m z i off b len cap (by simpa [Gh.mov,hj.2] using h) (by simpa [Gh.mov,hj.2] using hg)
 |clo f cs vs hl h ih=>
  simp only[T.mov,T.movL_map]
  refine .clo f _ vs (by simpa using hl) fun i x u hx hu=>?_
  simp only[List.getElem?_map,Option.map_eq_some_iff] at hx
  obtain⟨y,hy,rfl⟩:=hx
  exact ih i y u hy hu
 |ps l c b h0 h=>
  simp only[T.mov]
  by_cases hj:l=k∨l=K
  ·rw[show(Nat.beq l k||Nat.beq l K)=true by rcases hj with rfl|rfl<;>simp,cond_true]
   exact .any _
  ·rw[not_or] at hj
   rw[nbeq hj.1,nbeq hj.2,Bool.or_false,cond_false]
   exact .ps l c b (by simpa [Gh.mov,hj.2] using h0) (by simpa [Gh.mov,hj.2] using h)
 |os j m i b len cap h hg hi=>
  simp only[T.mov]
  by_cases hj:j=k∨j=K
  ·rw[show(Nat.beq j k||Nat.beq j K)=true by rcases hj with rfl|rfl<;>simp,cond_true]
   exact .any _
  ·rw[not_or] at hj
   rw[nbeq hj.1,nbeq hj.2,Bool.or_false,cond_false]
   exact .os j m i b len cap (by simpa [Gh.mov,hj.2] using h) (by simpa [Gh.mov,hj.2] using hg) hi
 |ifc ty t u h ih=>simp only[T.mov];exact .ifc ty _ u ih
 |any u=>exact .any u
theorem Rel.mov {N:Nm}{S:St}{w0:World}{σ0:Bs}{a:Act}{w:World}{g:Gh}(r:Rel N w0 σ0 S a w g){k n K:Nat}{z:Nat}{e:TypeId}{rows:List (List D)}{pub:Bool}(hk:S.ob[k]? =some (.gr z e rows n pub))(hkK:k≠K)(hKm:N.m≤K)
 (L':List Ob) (hget: ∀(j:Nat) (p:Ob),L'[j]? =some p→(j=K∧p=.gr z e rows 0 pub)∨(j=k∧p=.dead)∨(j≠k∧j≠K∧ ∃q,S.ob[j]? =some q∧p=q.mov k n K)) (hlen:S.ob.length≤L'.length) (hKl:K<L'.length):
 Rel N w0 σ0 ⟨fun i=>(S.tm i).mov k n K,L'⟩ a w (g.mov k n K):=by
 have I:=r.inv
 have hobk:=I.obs k _ hk
 have hat: ∀(j:Nat) (q:Ob) (b:Nat),j≠K→((g.mov k n K).at j (q.mov k n K) b↔g.at j q b):=fun j q b hj=>by
  cases q<;>simp[Gh.at,Ob.mov,Gh.mov,hj]
 refine⟨⟨I.below,I.old,I.con,fun j p hp=>?_,fun j hj=>?_,fun j j' p p' b hne hp hp' hb hb'=>?_,fun j hj=>?_⟩,r.defers,r.size,r.hm,Nat.le_trans r.hl hlen,fun i=>(r.tm i).mov⟩
 ·rcases hget j p hp with⟨rfl,rfl⟩|⟨rfl,rfl⟩|⟨hj,hjn,q,hq,rfl⟩
  ·obtain⟨h1,xs,h2,h3,h4,h5,h6⟩:=hobk
   exact⟨by simp[Gh.mov],xs,by simpa [Gh.mov] using h2,h3,h4,h5,by simpa [Gh.mov] using h6⟩
  ·trivial
  ·have:=I.obs j q hq
   cases q with
   |pv cs=>
    obtain⟨h1,b,vs,e',h2,h3,h4,h5,h6,h7,h8⟩:=this
    refine⟨by simpa [Gh.mov,hjn] using h1,b,vs,e',by simpa [Gh.mov,hjn] using h2,h3,h4,by rw[T.movL_map];simpa using h5,fun i x u hx hu=>?_,h7,h8⟩
    rw[T.movL_map] at hx
    simp only[List.getElem?_map,Option.map_eq_some_iff] at hx
    obtain⟨y,hy,rfl⟩:=hx
    exact(h6 i y u hy hu).mov
   |gr z' e' rows' n' pub'=>
    obtain⟨h1,xs,h2,h3,h4,h5,h6⟩:=this
    exact⟨by simpa [Gh.mov,hjn] using h1,xs,by simpa [Gh.mov,hjn] using h2,h3,h4,h5,by simpa [Gh.mov,hjn] using h6⟩
   |x X n'=>
    obtain⟨h1,h2⟩:=this
    exact⟨by simpa [Gh.mov,hjn] using h1,by simpa [Gh.mov,hjn] using h2⟩
   |dead=>trivial
   |new=>simpa [ObOK,Ob.mov,Gh.mov,hjn] using this
 ·have hj':L'.length≤j:=hj
  have:¬j=K:=by omega
  simp[Gh.mov,this,I.lim j (by omega)]
 ·have same: ∀(i:Nat) (p:Ob),L'[i]? =some p→(g.mov k n K).at i p b→ ∃i' q,S.ob[i']? =some q∧g.at i' q b∧(i=K∧i'=k∨i=i'∧i≠k∧i≠K):=fun i p hp hb=>by
   rcases hget i p hp with⟨rfl,rfl⟩|⟨rfl,rfl⟩|⟨hi,hil,q,hq,rfl⟩
   ·exact⟨k,_,hk,by simpa [Gh.at,Gh.mov] using hb,.inl ⟨rfl,rfl⟩⟩
   ·simp[Gh.at] at hb
   ·exact⟨i,q,hq,(hat i q b hil).1 hb,.inr ⟨rfl,hi,hil⟩⟩
  obtain⟨i,q,hq,hqb,hi⟩:=same j p hp hb
  obtain⟨i',q',hq',hqb',hi'⟩:=same j' p' hp' hb'
  refine I.dis i i' q q' b (fun e=>hne ?_) hq hq' hqb hqb'
  omega
 ·have:¬j=K:=by have:=r.hm;omega
  simpa [Gh.mov,this] using I.ext j hj
theorem St.imp.mov {N:Nm}{S:St}(k n:Nat){K:Nat}{z:Nat}{e:TypeId}{rows:List (List D)}{pub:Bool}(hk:S.ob[k]? =some (.gr z e rows n pub))(hK:K=S.ob.length):
 St.imp N S ⟨fun i=>(S.tm i).mov k n K,movObs k n K .dead S.ob 0++[.gr z e rows 0 pub]⟩:=fun w0 σ0 a w g r=>by
 subst hK
 have hlt:k<S.ob.length:=(List.getElem?_eq_some_iff.1 hk).1
 refine⟨_,r.mov hk (by omega) r.hl _ (fun j p hp=>?_) (by simp[movObs_length]) (by simp[movObs_length])⟩
 by_cases hj:j<S.ob.length
 ·rw[List.getElem?_append_left (by rw[movObs_length];exact hj),movObs_at,Nat.zero_add] at hp
  by_cases hjk:j=k
  ·subst hjk
   rw[hk] at hp
   simp only[Option.map_some,Option.some.injEq,show Nat.beq j j=true by simp,cond_true] at hp
   exact .inr (.inl ⟨rfl,hp.symm⟩)
  ·have hjK:¬j=S.ob.length:=by omega
   cases hq:S.ob[j]? with
   |none=>rw[hq] at hp;simp at hp
   |some q=>
    rw[hq] at hp
    simp only[Option.map_some,Option.some.injEq,nbeq hjk,nbeq hjK,cond_false] at hp
    exact .inr (.inr ⟨hjk,hjK,q,rfl,hp.symm⟩)
 ·rw[List.getElem?_append_right (by rw[movObs_length];omega),movObs_length] at hp
  by_cases hj0:j - S.ob.length=0
  ·rw[hj0] at hp
   simp only[List.getElem?_cons_zero,Option.some.injEq] at hp
   exact .inl ⟨by omega,hp.symm⟩
  ·rw[List.getElem?_eq_none (by simp;omega)] at hp
   cases hp
theorem St.imp.movD {N:Nm}{S:St}(k n K:Nat){z:Nat}{e:TypeId}{rows:List (List D)}{pub:Bool}(hk:S.ob[k]? =some (.gr z e rows n pub))(hK:S.ob[K]? =some .dead)(hm:Nat.ble N.m K=true:=by rfl):
 St.imp N S ⟨fun i=>(S.tm i).mov k n K,movObs k n K (.gr z e rows 0 pub) S.ob 0⟩:=fun w0 σ0 a w g r=>by
 have hlt:k<S.ob.length:=(List.getElem?_eq_some_iff.1 hk).1
 have hltK:K<S.ob.length:=(List.getElem?_eq_some_iff.1 hK).1
 have hne:k≠K:=fun e'=>by subst e';rw[hk] at hK;cases hK
 refine⟨_,r.mov hk hne (Nat.le_of_ble_eq_true hm) _ (fun j p hp=>?_) (by simp[movObs_length]) (by simpa [movObs_length] using hltK)⟩
 rw[movObs_at,Nat.zero_add] at hp
 by_cases hjk:j=k
 ·subst hjk
  rw[hk] at hp
  simp only[Option.map_some,Option.some.injEq,show Nat.beq j j=true by simp,cond_true] at hp
  exact .inr (.inl ⟨rfl,hp.symm⟩)
 ·by_cases hjK:j=K
  ·subst hjK
   rw[hK] at hp
   simp only[Option.map_some,Option.some.injEq,nbeq hjk,show Nat.beq j j=true by simp,cond_true,cond_false] at hp
   exact .inl ⟨rfl,hp.symm⟩
  ·cases hq:S.ob[j]? with
   |none=>rw[hq] at hp;simp at hp
   |some q=>
    rw[hq] at hp
    simp only[Option.map_some,Option.some.injEq,nbeq hjk,nbeq hjK,cond_false] at hp
    exact .inr (.inr ⟨hjk,hjK,q,rfl,hp.symm⟩)
theorem WG.legm {E:Env}{N:Nm}{Q:Exit→St→Prop}{tm:Nat→T}{ob:List Ob}{ops l:List Oper}{ty:TypeId}{pos:String}{after:Array Edge}{gd:Option (Nat×Bool)}{d:Nat}{G:List Nat}
 {α:Type} [Inhabited α] {f f':α→List D} {xs:List α} {t:TypeId} {x:Operand} {z:Nat} {e':TypeId} {n m i off:Nat} {pub:Bool} {res:D} (hw:St.want ⟨tm,ob⟩ ops ⟨some d,.load t x,ty,pos,after,gd⟩=some true) (hd:Nat.blt d N.n=true)
 (hk:(E.ty t).known=true) (hx:St.ev ⟨tm,ob⟩ x=.eg m n z i off) (hm:ob[m]? =some (.gr z e' (xs.map f) n pub)) (hf: ∀x,f x=f' x) (hi:i<xs.length)
 (hres:(bif (E.ty t).agg then(bif Nat.ble (off+(E.ty t).size) (f' (xs.getD i default)).length then some (.agg (((f' (xs.getD i default)).drop off).take (E.ty t).size)) else none) else(f' (xs.getD i default))[off]?)=some res)
 (kk:WG G E.P N ops l Q ⟨upd tm d (.d res),ob⟩):WG G E.P N ops (⟨some d,.load t x,ty,pos,after,gd⟩::l) Q ⟨tm,ob⟩:=
 WG.leg hw hd hk hx hm (r:=f' (xs.getD i default)) (by rw[←hf];simp[hi]) hres kk
theorem WG.legm' {E:Env}{N:Nm}{Q:Exit→St→Prop}{tm:Nat→T}{ob:List Ob}{ops l:List Oper}{ty:TypeId}{pos:String}{after:Array Edge}{gd:Option (Nat×Bool)}{d:Nat}{G:List Nat}{α:Type} [Inhabited α]{f f':α→List D}{xs:List α}{t:TypeId}{x:Operand}{z:Nat}{e':TypeId}{n m i off:Nat}{pub:Bool}{res:D}(kk:WG G E.P N ops l Q ⟨upd tm d (.d res),ob⟩)
 (hw:St.want ⟨tm,ob⟩ ops ⟨some d,.load t x,ty,pos,after,gd⟩=some true:=by exact rfl) (hd:Nat.blt d N.n=true:=by exact rfl) (hk:(E.ty t).known=true:=by exact rfl) (hx:St.ev ⟨tm,ob⟩ x=.eg m n z i off:=by exact rfl) (hm:ob[m]? =some (.gr z e' (xs.map f) n pub):=by exact rfl) (hf: ∀x,f x=f' x:=by exact fun _=>rfl) (hi:i<xs.length:=by first|exact trivial|(simp only[inRange,List.length_map];omega)|omega|assumption) (hres:(bif (E.ty t).agg then(bif Nat.ble (off+(E.ty t).size) (f' (xs.getD i default)).length then some (.agg (((f' (xs.getD i default)).drop off).take (E.ty t).size)) else none) else(f' (xs.getD i default))[off]?)=some res:=by exact rfl):WG G E.P N ops (⟨some d,.load t x,ty,pos,after,gd⟩::l) Q ⟨tm,ob⟩:=
 WG.legm hw hd hk hx hm hf hi hres kk
def loopI (N:Nm)(I:Nat→St→Prop)(n:Nat)(Q:Exit→St→Prop):Exit→St→Prop
 |.normal,S=> ∃m S',m<n∧I m S'∧St.imp N S S'
 |e,S=>Q e S
open Classical in
theorem W.loopI {P:Program}{N:Nm}{c:Code}{Q:Exit→St→Prop}{S:St}(I:Nat→St→Prop)(n:Nat)(S':St)(h0:I n S')(hle:St.imp N S S')(round: ∀n S,I n S→W P N c (loopI N I n Q) S):
 W P N (.loop c) Q S:=fun w0 σ0 a w g r=>by
 let J:Act→World→Nat→Prop:=fun a w n=> ∃S g,I n S∧Rel N w0 σ0 S a w g
 have hμ: ∀a w,(∃n,J a w n)→ ∃n,J a w n∧ ∀m,J a w m→n≤m:=fun a w h=>exists_least h
 let μ:Act→World→Nat:=fun a w=>if h: ∃n,J a w n then Classical.choose (hμ a w h) else 0
 refine wp_loop (fun a w=> ∃n,J a w n) μ ?_ ?_
 ·obtain⟨g',r'⟩:=hle w0 σ0 a w g r
  exact⟨n,S',g',h0,r'⟩
 ·intro a w hI
  obtain⟨hJ,hleast⟩:=Classical.choose_spec (hμ a w hI)
  have hμe:μ a w=Classical.choose (hμ a w hI):=by simp only[μ];rw[dif_pos hI]
  rw[←hμe] at hJ hleast
  obtain⟨S1,g1,hI1,r1⟩:=hJ
  refine wp_mono (round _ _ hI1 w0 σ0 a w g1 r1) fun e a' w' ⟨S2,g2,q,r2⟩=>?_
  cases e with
  |normal=>
   obtain⟨m,S3,hm,hI3,hle3⟩:=q
   obtain⟨g3,r3⟩:=hle3 w0 σ0 a' w' g2 r2
   have hex: ∃n,J a' w' n:=⟨m,S3,g3,hI3,r3⟩
   refine⟨hex,?_⟩
   have:=(Classical.choose_spec (hμ a' w' hex)).2 m ⟨S3,g3,hI3,r3⟩
   have e2:μ a' w'=Classical.choose (hμ a' w' hex):=by simp only[μ];rw[dif_pos hex]
   show μ a' w'<μ a w
   omega
  |exit id=>exact⟨S2,g2,q,r2⟩
  |goto l=>exact⟨S2,g2,q,r2⟩
  |ret=>exact⟨S2,g2,q,r2⟩
  |panic ch=>exact⟨S2,g2,q,r2⟩
  |outgrown=>exact⟨S2,g2,q,r2⟩
theorem upd_self (tm:Nat→T)(d:Nat):upd tm d (tm d)=tm:=by
 funext j
 by_cases e:j=d
 ·subst e;simp[upd]
 ·simp[upd,nbeq e]
def updO (tm:Nat→T):Option Nat→T→Nat→T
 |some d,t=>upd tm d t
 |none,_=>tm
def OpSt (P:Program)(N:Nm)(ops:List Oper)(ob:List Ob)(o:Oper)(tm:Nat→T)(t:T):Prop:=
 ∀tm':Nat→T,(∀s∈o.looksAt ops.toArray,tm' s=tm s)→ ∀(l:List Oper) (Q:Exit→St→Prop),WL P N ops l Q ⟨updO tm' o.dst t,ob⟩→WL P N ops (o::l) Q ⟨tm',ob⟩
inductive WD (P:Program) (N:Nm) (ops:List Oper) (ob:List Ob) (K:St→Prop):List Oper→(Nat→T)→Prop
 |nil {tm} (h:K ⟨tm,ob⟩):WD P N ops ob K [] tm
 |cons {o l tm} (t:T) (h:OpSt P N ops ob o tm t) (k:WD P N ops ob K l (updO tm o.dst t)):WD P N ops ob K (o::l) tm
inductive Chain (P:Program) (N:Nm) (ops:List Oper) (ob:List Ob):List Oper→(Nat→T)→(Nat→T)→Prop
 |nil {tm}:Chain P N ops ob [] tm tm
 |cons {o l tm tmF} (t:T) (h:OpSt P N ops ob o tm t) (k:Chain P N ops ob l (updO tm o.dst t) tmF):Chain P N ops ob (o::l) tm tmF
theorem WD.chain {P:Program}{N:Nm}{ops:List Oper}{ob:List Ob}{K:St→Prop}{l:List Oper}{tm:Nat→T}(h:WD P N ops ob K l tm): ∃tmF,Chain P N ops ob l tm tmF∧K ⟨tmF,ob⟩:=by
 induction h with
 |nil h=>exact⟨_,.nil,h⟩
 |cons t h k ih=>
  obtain⟨tmF,h1,h2⟩:=ih
  exact⟨tmF,.cons t h h1,h2⟩
def dstsOf (l:List Oper):List Nat:=l.filterMap (·.dst)
def onceB (ops:List Oper):Nat→List Oper→Bool
 |_,[]=>true
 |i,o::l=>
  (o.after.toList.all fun e=> !Region.binds .any e||Nat.blt e.on i)&&
  (match o.dst with|some d=> !(dstsOf l).elem d&& !((ops.take i).any fun p=>(p.looksAt ops.toArray).elem d)&& !(o.looksAt ops.toArray).elem d|none=>true)&&
  ((o.looksAt ops.toArray).all fun s=>((List.range i).all fun j=>match ops[j]? with|some p=> !(p.dst==some s)||o.after.toList.any (fun e=>Region.binds .any e&&e.on==j)|none=>true))&&
  onceB ops (i+1) l
theorem onceB_at {ops:List Oper}: ∀ {l:List Oper} {i:Nat},onceB ops i l=true→ ∀(k:Nat) (o:Oper),l[k]? =some o→
 (∀e∈o.after,Region.binds .any e=true→e.on<i+k)∧
 (∀d,o.dst=some d→(∀(j:Nat) (p:Oper),k<j→l[j]? =some p→p.dst≠some d)∧(∀(j:Nat) (p:Oper),j<i+k→ops[j]? =some p→d∉p.looksAt ops.toArray)∧d∉o.looksAt ops.toArray)∧
 (∀s∈o.looksAt ops.toArray,∀(j:Nat) (p:Oper),j<i+k→ops[j]? =some p→p.dst=some s→ ∃e∈o.after,Region.binds .any e=true∧e.on=j)
 |[],i,_,k,o,hk=>by simp at hk
 |q::l,i,h,k,o,hk=>by
  simp only[onceB,Bool.and_eq_true] at h
  obtain⟨⟨⟨h1,h2⟩,h3⟩,h4⟩:=h
  cases k with
  |zero=>
   simp at hk
   subst hk
   refine⟨fun e he hb=>?_,fun d hd=>?_,fun s hs j p hj hp hps=>?_⟩
   ·have:=List.all_eq_true.1 h1 e (by simpa using he)
    rw[hb] at this
    simpa using this
   ·rw[hd] at h2
    simp only[Bool.and_eq_true,Bool.not_eq_true',List.elem_eq_mem,decide_eq_false_iff_not] at h2
    obtain⟨⟨g1,g2⟩,g3⟩:=h2
    refine⟨fun j p hj hp hpd=>g1 ?_,fun j p hj hp hm=>?_,g3⟩
    ·cases j with
     |zero=>omega
     |succ j=>exact List.mem_filterMap.2 ⟨p,List.mem_of_getElem? (by simpa using hp),hpd⟩
    ·have:(ops.take i).any (fun p=>decide (d∈p.looksAt ops.toArray))=true:=List.any_eq_true.2 ⟨p,List.mem_of_getElem? (i:=j) (by rw[List.getElem?_take,if_pos (by simpa using hj)];exact hp),by simpa using hm⟩
     rw[this] at g2;cases g2
   ·have:=List.all_eq_true.1 h3 s hs
    have:=List.all_eq_true.1 this j (by simpa using hj)
    rw[hp] at this
    simp only[hps,beq_self_eq_true,Bool.not_true,Bool.false_or,List.any_eq_true,Bool.and_eq_true,beq_iff_eq] at this
    obtain⟨e,he,hb,hj⟩:=this
    exact⟨e,by simpa using he,hb,hj⟩
  |succ k=>
   obtain⟨g1,g2,g3⟩:=onceB_at h4 k o (by simpa using hk)
   rw[show i+1+k=i+(k+1) by omega] at g1 g2 g3
   refine⟨g1,fun d hd=>?_,g3⟩
   obtain⟨p1,p2,p3⟩:=g2 d hd
   refine⟨fun j p hj hp=>?_,p2,p3⟩
   cases j with
   |zero=>omega
   |succ j=>exact p1 j p (by omega) (by simpa using hp)
section
variable {P:Program}{N:Nm}{ops:List Oper}{ob:List Ob}
theorem Chain.keeps : ∀ {l:List Oper} {tm tmF:Nat→T},Chain P N ops ob l tm tmF→ ∀s,s∉dstsOf l→tmF s=tm s
 |_,_,_,.nil,s,_=>rfl
 |o::l,tm,tmF,.cons t h k,s,hs=>by
  have hs':s∉dstsOf l:=fun hm=>hs (by
   obtain⟨p,hp,hd⟩:=List.mem_filterMap.1 hm
   exact List.mem_filterMap.2 ⟨p,List.mem_cons_of_mem _ hp,hd⟩)
  rw[k.keeps s hs']
  cases hd:o.dst with
  |none=>rfl
  |some d=>
   have:s≠d:=fun e=>hs (List.mem_filterMap.2 ⟨o,List.mem_cons_self ..,by rw[hd,e]⟩)
   simp[updO,upd,nbeq this]
theorem Chain.at : ∀ {l:List Oper} {i:Nat} {tm tmF:Nat→T},Chain P N ops ob l tm tmF→onceB ops i l=true→(∀j,l[j]? =ops[i+j]?)→ ∀(k:Nat) (o:Oper),l[k]? =some o→
 OpSt P N ops ob o tmF (match o.dst with|some d=>tmF d|none=>.any)
 |_,_,_,_,.nil,_,_,k,o,hk=>by simp at hk
 |q::l,i,tm,tmF,.cons t h c,ho,hl,k,o,hk=>by
  have ho':=ho
  simp only[onceB,Bool.and_eq_true] at ho'
  cases k with
  |succ k=>exact Chain.at c ho'.2 (fun j=>by have:=hl (j+1);simp at this;rw[this];congr 1;omega) k o (by simpa using hk)
  |zero=>
   simp at hk
   subst hk
   obtain⟨_,g2,_⟩:=onceB_at ho 0 q rfl
   have hlooks: ∀s∈q.looksAt ops.toArray,tmF s=tm s:=fun s hs=>by
    rw[c.keeps s fun hm=>?_]
    ·cases hd:q.dst with
     |none=>rfl
     |some d=>
      have:s≠d:=fun e=>(g2 d hd).2.2 (e▸hs)
      simp[updO,upd,nbeq this]
    ·obtain⟨p,hp,hd⟩:=List.mem_filterMap.1 hm
     obtain⟨j,hj⟩:=List.getElem?_of_mem hp
     obtain⟨_,f2,_⟩:=onceB_at ho (j+1) p (by simpa using hj)
     have hq:=hl 0
     simp at hq
     exact(f2 s hd).2.1 i q (by omega) hq.symm hs
   intro tm' hag l' Q k'
   refine h tm' (fun s hs=>(hag s hs).trans (hlooks s hs)) l' Q ?_
   cases hd:q.dst with
   |none=>rw[hd] at k';exact k'
   |some d=>
    rw[hd] at k'
    have:tmF d=t:=by
     rw[c.keeps d fun hm=>?_]
     ·rw[hd];simp[updO,upd]
     ·obtain⟨p,hp,hpd⟩:=List.mem_filterMap.1 hm
      obtain⟨j,hj⟩:=List.getElem?_of_mem hp
      exact(g2 d hd).1 (j+1) p (by omega) (by simpa using hj) hpd
    simp only[this] at k'
    exact k'
open Classical in
noncomputable def knownT (ops:List Oper)(listed:Array Bool)(tmF:Nat→T)(s:Nat):T:=if ∃j p,ops[j]? =some p∧listed.getD j true=false∧p.dst=some s then .any else tmF s
def unl (n:Nat)(listed:Array Bool):Nat:=((List.range n).filter fun i=>listed.getD i true==false).length
theorem unl_set {n i:Nat}{listed:Array Bool}(hi:i<n)(hs:n≤listed.size)(hu:listed.getD i true=false):unl n (listed.setIfInBounds i true)+1=unl n listed:=by
 unfold unl
 have key: ∀(l:List Nat),l.Nodup→(∀j∈l,j<n)→((l.filter fun j=>(listed.setIfInBounds i true).getD j true==false).length+(if i∈l then 1 else 0)=(l.filter fun j=>listed.getD j true==false).length):=by
  intro l
  induction l with
  |nil=>intro _ _;simp
  |cons x l ih=>
   intro hnd hlt
   have hnd':=List.nodup_cons.1 hnd
   have ih':=ih hnd'.2 fun j hj=>hlt j (List.mem_cons_of_mem _ hj)
   have hget:(listed.setIfInBounds i true).getD x true=if i=x then true else listed.getD x true:=by
    simp only[Array.getD_eq_getD_getElem?,Array.getElem?_setIfInBounds]
    by_cases e:i=x
    ·subst e
     have:i<listed.size:=by omega
     simp[this]
    ·simp[e]
   by_cases e:i=x
   ·subst e
    rw[if_neg hnd'.1] at ih'
    simp only[List.filter_cons,hget,if_true,hu]
    simp at ih' ⊢
    omega
   ·rw[List.filter_cons,List.filter_cons,hget,if_neg e]
    have hm:(i∈x::l)↔i∈l:=by simp[e]
    simp only[hm]
    by_cases hx:listed.getD x true=false
    ·simp only[hx,beq_self_eq_true,if_true,List.length_cons]
     omega
    ·have hx':listed.getD x true=true:=by simpa using hx
     simp only[hx']
     simpa using ih'
 have:=key (List.range n) List.nodup_range (fun j hj=>by simpa using hj)
 rw[if_pos (by simpa using hi)] at this
 exact this
theorem wpAny_chain {Q:Exit→St→Prop}{tm tmF:Nat→T}(hc:Chain P N ops ob ops tm tmF)(ho:onceB ops 0 ops=true)(hQ:Q .normal ⟨tmF,ob⟩){w0:World}{σ0:Bs}:
 ∀(fuel:Nat) (listed:Array Bool) (a:Act) (w:World),listed.size=ops.length→unl ops.length listed=fuel→(∃g,Rel N w0 σ0 ⟨knownT ops listed tmF,ob⟩ a w g)→
  wpAny P .any ops.toArray (lift N w0 σ0 Q) fuel listed a w:=by
 intro fuel
 have hready: ∀(listed:Array Bool) (i:Nat),i∈Region.ready .any ops.toArray listed→ ∃o,ops[i]? =some o∧listed.getD i true=false∧ ∀e∈o.after,Region.binds .any e=true→listed.getD e.on false=true:=fun listed i hi=>by
  simp only[Region.ready,List.mem_filter,List.mem_range,Bool.and_eq_true,Bool.not_eq_true'] at hi
  obtain⟨h1,h2,h3⟩:=hi
  have hlt:i<ops.length:=by simpa using h1
  refine⟨ops[i],List.getElem?_eq_getElem hlt,h2,fun e he hb=>?_⟩
  rw[show ops.toArray[i]? =some ops[i] by simp[hlt]] at h3
  simp only[Option.map_some,Option.getD_some] at h3
  have:=Array.all_eq_true'.1 h3 e he
  rw[hb] at this
  simpa using this
 have hall: ∀(listed:Array Bool),listed.size=ops.length→Region.ready .any ops.toArray listed=[]→ ∀i,i<ops.length→listed.getD i true=true:=fun listed hs hr=>by
  intro i
  induction i using Nat.strongRecOn with
  |_ i ih=>
   intro hi
   by_cases hu:listed.getD i true=true
   ·exact hu
   ·have hu':listed.getD i true=false:=by simpa using hu
    have:i∈Region.ready .any ops.toArray listed:=by
     simp only[Region.ready,List.mem_filter,List.mem_range,Bool.and_eq_true,Bool.not_eq_true']
     refine⟨by simpa using hi,hu',?_⟩
     rw[show ops.toArray[i]? =some ops[i] by simp[hi]]
     simp only[Option.map_some,Option.getD_some]
     refine Array.all_eq_true'.2 fun e he=>?_
     cases hb:Region.binds .any e with
     |false=>rfl
     |true=>
      have hlt:=(onceB_at ho i ops[i] (List.getElem?_eq_getElem hi)).1 e he hb
      rw[Nat.zero_add] at hlt
      have h2:=ih e.on hlt (by omega)
      have:e.on<listed.size:=by omega
      simp[Array.getD_eq_getD_getElem?,this] at h2 ⊢
      exact h2
    rw[hr] at this;cases this
 have hdone: ∀(listed:Array Bool) (a:Act) (w:World),listed.size=ops.length→Region.ready .any ops.toArray listed=[]→(∃g,Rel N w0 σ0 ⟨knownT ops listed tmF,ob⟩ a w g)→lift N w0 σ0 Q .normal a w:=fun listed a w hs hr ⟨g,r⟩=>by
  have:knownT ops listed tmF=tmF:=by
   funext s
   unfold knownT
   rw[if_neg]
   rintro⟨j,p,hj,hu,_⟩
   rw[hall listed hs hr j (List.getElem?_eq_some_iff.1 hj).1] at hu
   cases hu
  rw[this] at r
  exact⟨_,g,hQ,r⟩
 induction fuel with
 |zero=>
  intro listed a w hs hu hr
  have hnil:Region.ready .any ops.toArray listed=[]:=by
   cases h:Region.ready .any ops.toArray listed with
   |nil=>rfl
   |cons i l=>
    obtain⟨o,ho',hu',_⟩:=hready listed i (by rw[h];exact List.mem_cons_self ..)
    have hlt:=(List.getElem?_eq_some_iff.1 ho').1
    have:=unl_set hlt (by omega) hu'
    omega
  exact⟨hnil,hdone listed a w hs hnil hr⟩
 |succ fuel ih=>
  intro listed a w hs hu hr
  refine⟨fun hnil=>hdone listed a w hs hnil hr,fun i hi=>?_⟩
  obtain⟨o,hoi,hui,hdep⟩:=hready listed i hi
  have hlt:=(List.getElem?_eq_some_iff.1 hoi).1
  obtain⟨g1,g2,g3⟩:=onceB_at ho i o hoi
  have hst:=Chain.at hc ho (fun j=>by simp) i o hoi
  have hag: ∀s∈o.looksAt ops.toArray,knownT ops listed tmF s=tmF s:=fun s hs'=>by
   unfold knownT
   rw[if_neg]
   rintro⟨j,p,hj,huj,hps⟩
   by_cases hji:j<i
   ·obtain⟨e,he,hb,hej⟩:=g3 s hs' j p (by omega) hj hps
    have h2:=hdep e he hb
    rw[hej] at h2
    have:j<listed.size:=by have:=(List.getElem?_eq_some_iff.1 hj).1;omega
    simp[Array.getD_eq_getD_getElem?,this] at huj h2
    rw[huj] at h2;cases h2
   ·by_cases e:j=i
    ·subst e
     rw[hj] at hoi;cases hoi
     exact(g2 s hps).2.2 hs'
    ·obtain⟨_,f2,_⟩:=onceB_at ho j p hj
     exact(f2 s hps).2.1 i o (by omega) hoi hs'
  obtain⟨g,r⟩:=hr
  let S2:St:=⟨updO (knownT ops listed tmF) o.dst (match o.dst with|some d=>tmF d|none=>.any),ob⟩
  have h1:=hst (knownT ops listed tmF) hag [] (fun e S=>e=.normal∧S=S2) (fun _ _ _ _ g r=>⟨_,g,⟨rfl,rfl⟩,r⟩)
  have h2:=h1 w0 σ0 a w g r
  unfold wpList at h2
  have next: ∀a' w',(∃S g,(Exit.normal=.normal∧S=S2)∧Rel N w0 σ0 S a' w' g)→wpAny P .any ops.toArray (lift N w0 σ0 Q) fuel (listed.setIfInBounds i true) a' w':=fun a' w' ⟨S,g',⟨_,hS⟩,r'⟩=>by
   subst hS
   refine ih _ a' w' (by simpa using hs) (by have:=unl_set hlt (by omega) hui;omega) ⟨g',?_⟩
   refine⟨r'.inv,r'.defers,r'.size,r'.hm,r'.hl,fun s=>?_⟩
   have hset: ∀j,(listed.setIfInBounds i true).getD j true=if i=j then true else listed.getD j true:=fun j=>by
    simp only[Array.getD_eq_getD_getElem?,Array.getElem?_setIfInBounds]
    by_cases e:i=j
    ·subst e
     have:i<listed.size:=by omega
     simp[this]
    ·simp[e]
   show RT g' (knownT ops (listed.setIfInBounds i true) tmF s) _
   by_cases hk: ∃j p,ops[j]? =some p∧(listed.setIfInBounds i true).getD j true=false∧p.dst=some s
   ·unfold knownT;rw[if_pos hk];exact .any _
   ·have e1:knownT ops (listed.setIfInBounds i true) tmF s=tmF s:=by unfold knownT;rw[if_neg hk]
    rw[e1]
    have:=r'.tm s
    cases hd:o.dst with
    |none=>
     have e2:S2.tm s=tmF s:=by
      simp only[S2,hd,updO]
      unfold knownT
      rw[if_neg]
      rintro⟨j,p,hj,huj,hps⟩
      refine hk ⟨j,p,hj,?_,hps⟩
      rw[hset]
      by_cases e:i=j
      ·subst e;rw[hj] at hoi;cases hoi;rw[hd] at hps;cases hps
      ·rw[if_neg e];exact huj
     rwa [e2] at this
    |some d=>
     have e2:S2.tm s=tmF s:=by
      simp only[S2,hd,updO]
      by_cases e:s=d
      ·subst e;simp[upd]
      ·simp only[upd,nbeq e,cond_false]
       unfold knownT
       rw[if_neg]
       rintro⟨j,p,hj,huj,hps⟩
       refine hk ⟨j,p,hj,?_,hps⟩
       rw[hset]
       by_cases e':i=j
       ·subst e';rw[hj] at hoi;cases hoi;rw[hd] at hps;cases hps;exact(e rfl).elim
       ·rw[if_neg e'];exact huj
     rwa [e2] at this
  unfold wpOp
  simp only[show ops.toArray[i]? =some o by simpa using hoi]
  split at h2
  ·rename_i hw
   rw[if_pos hw]
   rcases h2 with h2|⟨_,a',w',S,g',⟨he,_⟩,_⟩
   ·left
    have h3:=Oper.wp_mono (K':=wpAny P .any ops.toArray (lift N w0 σ0 Q) fuel (listed.setIfInBounds i true)) next h2
    unfold Oper.wp at h3 ⊢
    generalize (execOp a.eval o).run P w=res at h3 ⊢
    cases res with
    |ok n w'=>
     cases n<;>simp only[Oper.upon] at h3 ⊢ <;>
      first
       |exact h3
       |exact Calls.mono h3 (fun e w'' he=>by
         cases e with
         |returned v=>exact he
         |panicked ch=>obtain⟨S,g,⟨h,_⟩,_⟩:=he;cases h
         |outgrown=>obtain⟨_,_,S,g,⟨h,_⟩,_⟩:=he;cases h)
       |(obtain⟨S,g,⟨h,_⟩,_⟩:=h3;cases h;done)
       |(obtain⟨_,_,S,g,⟨h,_⟩,_⟩:=h3;cases h;done)
    |halt x w'=>
     cases x<;>simp only[Oper.upon] at h3 ⊢ <;>
      first
       |exact h3
       |(obtain⟨S,g,⟨h,_⟩,_⟩:=h3;cases h;done)
       |(obtain⟨_,_,S,g,⟨h,_⟩,_⟩:=h3;cases h;done)
   ·cases he
  ·rename_i hw
   rw[if_neg hw]
   exact next _ _ h2
end
theorem W.dra {P:Program}{N:Nm}{id:Nat}{l:List Oper}{Q:Exit→St→Prop}{tm:Nat→T}{ob:List Ob}(hm:P.follows .mixedOrders=true)(ho:onceB l 0 l=true)(h:WD P N l ob (Q .normal) l tm):W P N (.region id l.toArray true) Q ⟨tm,ob⟩:=fun w0 σ0 a w g r=>by
 obtain⟨tmF,hc,hQ⟩:=h.chain
 refine wp_region_any hm ?_
 have hsz:(Array.replicate l.toArray.size false).size=l.length:=by simp
 have hun:unl l.length (Array.replicate l.toArray.size false)=l.toArray.size:=by
  unfold unl
  rw[List.filter_eq_self.2]
  ·simp
  ·intro i hi
   have:i<l.length:=by simpa using hi
   simp[Array.getD_eq_getD_getElem?,this]
 refine wpAny_chain hc ho hQ l.toArray.size _ a _ hsz hun ⟨g,?_⟩
 have r2:Rel N w0 σ0 ⟨tm,ob⟩ a { w with drawn:=w.drawn+1 } g:=r.later ((Below.refl _ w).drew)
 refine⟨r2.inv,r2.defers,r2.size,r2.hm,r2.hl,fun s=>?_⟩
 show RT g (knownT l (Array.replicate l.toArray.size false) tmF s) _
 by_cases hk:s∈dstsOf l
 ·obtain⟨p,hp,hd⟩:=List.mem_filterMap.1 hk
  obtain⟨j,hj⟩:=List.getElem?_of_mem hp
  have:j<l.length:=(List.getElem?_eq_some_iff.1 hj).1
  unfold knownT
  rw[if_pos ⟨j,p,hj,by simp[Array.getD_eq_getD_getElem?,this],hd⟩]
  exact .any _
 ·have e1:knownT l (Array.replicate l.toArray.size false) tmF s=tm s:=by
   unfold knownT
   rw[if_neg,hc.keeps s hk]
   rintro⟨j,p,hj,_,hps⟩
   exact hk (List.mem_filterMap.2 ⟨p,List.mem_of_getElem? hj,hps⟩)
  rw[e1]
  exact r2.tm s
theorem W.dra' {P:Program}{N:Nm}{id:Nat}{l:List Oper}{Q:Exit→St→Prop}{tm:Nat→T}{ob:List Ob}(h:WD P N l ob (Q .normal) l tm)
 (hm:P.follows .mixedOrders=true:=by kernel_rfl) (ho:onceB l 0 l=true:=by kernel_rfl):W P N (.region id l.toArray true) Q ⟨tm,ob⟩:=
 W.dra hm ho h
section
variable {P:Program}{E:Env}{N:Nm}{K:St→Prop}{tm tm':Nat→T}{ob:List Ob}{ops l:List Oper}{o:Oper}{op:Op}{ty:TypeId}{pos:String}{after:Array Edge}{gd:Option (Nat×Bool)}{d:Nat}{dst:Option Nat}
theorem ev_agree (h: ∀s∈o.looksAt ops.toArray,tm' s=tm s){x:Operand}(hx:x∈o.op.operands.toList):St.ev ⟨tm',ob⟩ x=St.ev ⟨tm,ob⟩ x:=by
 cases x with
 |tmp t=>
  refine h t ?_
  unfold Oper.looksAt
  exact List.mem_append_left _ (List.mem_filterMap.2 ⟨.tmp t,hx,rfl⟩)
 |const v=>rfl
 |func f=>rfl
 |global k=>rfl
theorem want_agree (h: ∀s∈o.looksAt ops.toArray,tm' s=tm s):St.want ⟨tm',ob⟩ ops o=St.want ⟨tm,ob⟩ ops o:=by
 unfold St.want
 cases hg:o.guard with
 |none=>rfl
 |some p=>
  obtain⟨j,b⟩:=p
  simp only[]
  cases hj:ops[j]? with
  |none=>rfl
  |some q=>
   simp only[]
   cases hd:q.dst with
   |none=>rfl
   |some d=>
    have:tm' d=tm d:=by
     refine h d ?_
     unfold Oper.looksAt
     refine List.mem_append_right _ ?_
     rw[hg]
     simp[hj,hd]
    simp only[this]
theorem ev1_agree {S S':St}(hob:S'.ob=S.ob)(h: ∀x∈op.operands.toList,S'.ev x=S.ev x):ev1 E S' op ty=ev1 E S op ty:=by
 cases op with
 |move x=>simp only[ev1];rw[h x (by simp[Op.operands])]
 |assign x=>simp only[ev1];rw[h x (by simp[Op.operands])]
 |pick c a b=>simp only[ev1];rw[h c (by simp[Op.operands]),h a (by simp[Op.operands]),h b (by simp[Op.operands])]
 |binOp bo t x y yt=>simp only[ev1];rw[h x (by simp[Op.operands]),h y (by simp[Op.operands])]
 |unOp uo t x=>simp only[ev1];rw[h x (by simp[Op.operands])]
 |convert s t x=>simp only[ev1];rw[h x (by simp[Op.operands])]
 |fieldAddr s x f=>simp only[ev1];rw[h x (by simp[Op.operands])]
 |field s x f=>simp only[ev1];rw[h x (by simp[Op.operands])]
 |load t x=>
  simp only[ev1]
  rw[h x (by simp[Op.operands])]
  unfold evLoad
  rw[hob]
 |extract x i=>simp only[ev1];rw[h x (by simp[Op.operands])]
 |index t x i=>simp only[ev1];rw[h x (by simp[Op.operands]),h i (by simp[Op.operands])]
 |makeFunc fn first cap=>
  simp only[ev1]
  have:cap.toList.map S'.ev=cap.toList.map S.ev:=List.map_congr_left fun x hx=>h x (by simp only[Op.operands,Array.toList_append,List.mem_append];exact .inr hx)
  rw[this]
 |nilCheck x=>simp only[ev1];rw[h x (by simp[Op.operands])]
 |call c=>
  obtain⟨callee,args,ts⟩:=c
  cases callee with
  |value f=>rfl
  |invoke r m=>rfl
  |builtin b=>
   have hx: ∀x∈args.toList,S'.ev x=S.ev x:=fun x hx=>h x (by simp only[Op.operands,Call.operands,Array.toList_append,List.mem_append];exact .inr hx)
   cases b<;>simp only[ev1]
   ·split
    ·rename_i x t hargs _
     rw[hx x (by rw[hargs];simp)]
     unfold evLen
     rw[hob]
    ·rfl
   ·split
    ·rename_i x y hargs
     rw[hx x (by rw[hargs];simp),hx y (by rw[hargs];simp)]
    ·rfl
   ·split
    ·rename_i x y hargs
     rw[hx x (by rw[hargs];simp),hx y (by rw[hargs];simp)]
    ·rfl
 |_=>rfl
theorem argsOf_agree {S S':St}(hob:S'.ob=S.ob): ∀ {xs:List Operand} {ts:List TypeId},(∀x∈xs,S'.ev x=S.ev x)→argsOf E S' xs ts=argsOf E S xs ts
 |[],_,_=>rfl
 |x::xs,ts,h=>by
  simp only[argsOf]
  rw[h x (List.mem_cons_self ..),argsOf_agree hob fun y hy=>h y (List.mem_cons_of_mem _ hy),hob]
theorem argsT_agree {S S':St}(hob:S'.ob=S.ob)(lend:Bool): ∀ {xs:List Operand} {ts:List TypeId},(∀x∈xs,S'.ev x=S.ev x)→argsT E S' lend xs ts=argsT E S lend xs ts
 |[],_,_=>rfl
 |x::xs,ts,h=>by
  simp only[argsT]
  rw[h x (List.mem_cons_self ..),argsT_agree hob lend fun y hy=>h y (List.mem_cons_of_mem _ hy),hob]
theorem WD.s {p:Prop}{t:T}(hw:St.want ⟨tm,ob⟩ ops ⟨some d,op,ty,pos,after,gd⟩=some true)(hd:Nat.blt d N.n=true)(h:ev1 E ⟨tm,ob⟩ op ty=some (p,t))(hp:p)
 (k:WD E.P N ops ob K l (upd tm d t)):WD E.P N ops ob K (⟨some d,op,ty,pos,after,gd⟩::l) tm:=
 .cons t (fun tm' hag l Q k'=>WL.simple (S:=⟨tm',ob⟩) (by rw[want_agree hag];exact hw) hd (by rw[ev1_agree (S:=⟨tm,ob⟩) (S':=⟨tm',ob⟩) rfl fun x hx=>ev_agree hag hx];exact h) hp k') k
theorem WD.s' {p:Prop}{t:T}(k:WD E.P N ops ob K l (upd tm d t))
 (hw:St.want ⟨tm,ob⟩ ops ⟨some d,op,ty,pos,after,gd⟩=some true:=by exact rfl) (hd:Nat.blt d N.n=true:=by exact rfl) (h:ev1 E ⟨tm,ob⟩ op ty=some (p,t):=by exact rfl) (hp:p:=by first|exact trivial|(simp only[inRange,List.length_map];omega)|omega|assumption):WD E.P N ops ob K (⟨some d,op,ty,pos,after,gd⟩::l) tm:=
 WD.s hw hd h hp k
theorem WD.p (hw:St.want ⟨tm,ob⟩ ops ⟨some d,op,ty,pos,after,gd⟩=some false)(hd:Nat.blt d N.n=true)
 (k:WD P N ops ob K l (upd tm d (.d (.v undef)))):WD P N ops ob K (⟨some d,op,ty,pos,after,gd⟩::l) tm:=
 .cons (.d (.v undef)) (fun tm' hag l Q k'=>WL.pass (S:=⟨tm',ob⟩) (by rw[want_agree hag];exact hw) hd k') k
theorem WD.p'  (k:WD P N ops ob K l (upd tm d (.d (.v undef))))
 (hw:St.want ⟨tm,ob⟩ ops ⟨some d,op,ty,pos,after,gd⟩=some false:=by exact rfl) (hd:Nat.blt d N.n=true:=by exact rfl):WD P N ops ob K (⟨some d,op,ty,pos,after,gd⟩::l) tm:=
 WD.p hw hd k
theorem WD.px (hw:St.want ⟨tm,ob⟩ ops ⟨none,op,ty,pos,after,gd⟩=some false)
 (k:WD P N ops ob K l tm):WD P N ops ob K (⟨none,op,ty,pos,after,gd⟩::l) tm:=
 .cons .any (fun tm' hag l Q k'=>WL.passx (S:=⟨tm',ob⟩) (by rw[want_agree hag];exact hw) k') k
theorem WD.px'  (k:WD P N ops ob K l tm)
 (hw:St.want ⟨tm,ob⟩ ops ⟨none,op,ty,pos,after,gd⟩=some false:=by exact rfl):WD P N ops ob K (⟨none,op,ty,pos,after,gd⟩::l) tm:=
 WD.px hw k
theorem WD.sp {p:Oper}{j:Nat}{b c:Bool}(hg:o.guard=some (j,b))(hp:ops[j]? =some p)(hd:p.dst=some d)(hc:tm d=.d (.v (.bool c)))
 (ht:c=true→WD P N ops ob K (o::l) (upd tm d (.d (.v (.bool true))))) (hf:c=false→WD P N ops ob K (o::l) (upd tm d (.d (.v (.bool false))))):
 WD P N ops ob K (o::l) tm:=by
 cases c with
 |true=>have:=ht rfl;rwa [←hc,upd_self] at this
 |false=>have:=hf rfl;rwa [←hc,upd_self] at this
theorem WD.sp' {p:Oper}{j:Nat}{b c:Bool}(ht:c=true→WD P N ops ob K (o::l) (upd tm d (.d (.v (.bool true)))))(hf:c=false→WD P N ops ob K (o::l) (upd tm d (.d (.v (.bool false)))))
 (hg:o.guard=some (j,b):=by exact rfl) (hp:ops[j]? =some p:=by exact rfl) (hd:p.dst=some d:=by exact rfl) (hc:tm d=.d (.v (.bool c)):=by exact rfl):WD P N ops ob K (o::l) tm:=
 WD.sp hg hp hd hc ht hf
theorem WD.ix {t e:TypeId}{x ix:Operand}{z:Nat}{rows:List (List D)}{k:IntKind}{i:Int}{r:List D}(hw:St.want ⟨tm,ob⟩ ops ⟨some d,.indexAddr t x ix,ty,pos,after,gd⟩=some true)(hd:Nat.blt d N.n=true)
 (ht:(E.ty t).kind=.slice e) (he:(E.ty e).known=true) (hz:(E.ty e).size=z) (hx:norm ob (St.ev ⟨tm,ob⟩ x)=.d (.sl z rows)) (hi:St.ev ⟨tm,ob⟩ ix=.d (.v (.int k i)))
 (hb:0≤i∧i<rows.length) (hr:rows[i.toNat]? =some r)
 (kk:WD E.P N ops ob K l (upd tm d (.ea r 0))):WD E.P N ops ob K (⟨some d,.indexAddr t x ix,ty,pos,after,gd⟩::l) tm:=
 .cons (.ea r 0) (fun tm' hag l Q k'=>WL.index (S:=⟨tm',ob⟩) (by rw[want_agree hag];exact hw) hd ht he hz (by rw[ev_agree hag (by simp[Op.operands])];exact hx) (by rw[ev_agree hag (by simp[Op.operands])];exact hi) hb hr k') kk
theorem WD.ixm {α:Type} [Inhabited α]{f f':α→List D}{xs:List α}{t e:TypeId}{x ix:Operand}{z:Nat}{k:IntKind}{i:Int}(hw:St.want ⟨tm,ob⟩ ops ⟨some d,.indexAddr t x ix,ty,pos,after,gd⟩=some true)(hd:Nat.blt d N.n=true)
 (ht:(E.ty t).kind=.slice e) (he:(E.ty e).known=true) (hz:(E.ty e).size=z) (hx:norm ob (St.ev ⟨tm,ob⟩ x)=.d (.sl z (xs.map f))) (hi:St.ev ⟨tm,ob⟩ ix=.d (.v (.int k i)))
 (hf: ∀x,f x=f' x) (hb:0≤i∧i<xs.length)
 (kk:WD E.P N ops ob K l (upd tm d (.ea (f' (xs.getD i.toNat default)) 0))):WD E.P N ops ob K (⟨some d,.indexAddr t x ix,ty,pos,after,gd⟩::l) tm:=by
 have hlt:i.toNat<xs.length:=by omega
 exact WD.ix hw hd ht he hz hx hi (by simpa using hb) (by rw[←hf];simp[hlt]) kk
theorem WD.ixm' {α:Type} [Inhabited α]{f f':α→List D}{xs:List α}{t e:TypeId}{x ix:Operand}{z:Nat}{k:IntKind}{i:Int}(kk:WD E.P N ops ob K l (upd tm d (.ea (f' (xs.getD i.toNat default)) 0)))
 (hw:St.want ⟨tm,ob⟩ ops ⟨some d,.indexAddr t x ix,ty,pos,after,gd⟩=some true:=by exact rfl) (hd:Nat.blt d N.n=true:=by exact rfl) (ht:(E.ty t).kind=.slice e:=by exact rfl) (he:(E.ty e).known=true:=by exact rfl) (hz:(E.ty e).size=z:=by exact rfl) (hx:norm ob (St.ev ⟨tm,ob⟩ x)=.d (.sl z (xs.map f)):=by exact rfl) (hi:St.ev ⟨tm,ob⟩ ix=.d (.v (.int k i)):=by exact rfl) (hf: ∀x,f x=f' x:=by exact fun _=>rfl) (hb:0≤i∧i<xs.length:=by first|exact trivial|(simp only[inRange,List.length_map];omega)|omega|assumption):WD E.P N ops ob K (⟨some d,.indexAddr t x ix,ty,pos,after,gd⟩::l) tm:=
 WD.ixm hw hd ht he hz hx hi hf hb kk
theorem WD.slD {t e:TypeId}{x:Operand}{lo hi:Option Operand}{z:Nat}{rows:List (List D)}{li hh:Int}(hw:St.want ⟨tm,ob⟩ ops ⟨some d,.slice t x lo hi none,ty,pos,after,gd⟩=some true)(hd:Nat.blt d N.n=true)
 (ht:(E.ty t).kind=.slice e) (he:(E.ty e).known=true) (hz:(E.ty e).size=z) (hx:norm ob (St.ev ⟨tm,ob⟩ x)=.d (.sl z rows)) (hlo:evLow ⟨tm,ob⟩ lo=some li)
 (hhi:evBound ⟨tm,ob⟩ rows.length hi=some hh) (hb:0≤li∧li≤hh∧hh≤rows.length)
 (kk:WD E.P N ops ob K l (upd tm d (.d (.sl z ((rows.drop li.toNat).take (hh.toNat - li.toNat)))))):WD E.P N ops ob K (⟨some d,.slice t x lo hi none,ty,pos,after,gd⟩::l) tm:=
 .cons _ (fun tm' hag l Q k'=>by
  refine WL.sliceD (S:=⟨tm',ob⟩) (by rw[want_agree hag];exact hw) hd ht he hz (by rw[ev_agree hag (by simp[Op.operands])];exact hx) (li:=li) (hh:=hh) ?_ ?_ hb k'
  ·cases lo with
   |none=>exact hlo
   |some y=>simp only[evLow,evBound] at hlo ⊢;rw[ev_agree hag (by simp[Op.operands])];exact hlo
  ·cases hi with
   |none=>exact hhi
   |some y=>simp only[evBound] at hhi ⊢;rw[ev_agree hag (by simp[Op.operands])];exact hhi) kk
theorem WD.slD' {t e:TypeId}{x:Operand}{lo hi:Option Operand}{z:Nat}{rows:List (List D)}{li hh:Int}(kk:WD E.P N ops ob K l (upd tm d (.d (.sl z ((rows.drop li.toNat).take (hh.toNat - li.toNat))))))
 (hw:St.want ⟨tm,ob⟩ ops ⟨some d,.slice t x lo hi none,ty,pos,after,gd⟩=some true:=by exact rfl) (hd:Nat.blt d N.n=true:=by exact rfl) (ht:(E.ty t).kind=.slice e:=by exact rfl) (he:(E.ty e).known=true:=by exact rfl) (hz:(E.ty e).size=z:=by exact rfl) (hx:norm ob (St.ev ⟨tm,ob⟩ x)=.d (.sl z rows):=by exact rfl) (hlo:evLow ⟨tm,ob⟩ lo=some li:=by exact rfl) (hhi:evBound ⟨tm,ob⟩ rows.length hi=some hh:=by exact rfl) (hb:0≤li∧li≤hh∧hh≤rows.length:=by first|omega|(simp only[List.length_map,List.length_append,List.length_cons,List.length_nil] at *;omega)):WD E.P N ops ob K (⟨some d,.slice t x lo hi none,ty,pos,after,gd⟩::l) tm:=
 WD.slD hw hd ht he hz hx hlo hhi hb kk
theorem WD.slS {t:TypeId}{x:Operand}{lo hi:Option Operand}{s:ByteArray}{li hh:Int}(hw:St.want ⟨tm,ob⟩ ops ⟨some d,.slice t x lo hi none,ty,pos,after,gd⟩=some true)(hd:Nat.blt d N.n=true)
 (ht:(E.ty t).kind=.string) (hx:St.ev ⟨tm,ob⟩ x=.d (.v (.string s))) (hlo:evLow ⟨tm,ob⟩ lo=some li)
 (hhi:evBound ⟨tm,ob⟩ s.size hi=some hh) (hb:0≤li∧li≤hh∧hh≤s.size)
 (kk:WD E.P N ops ob K l (upd tm d (.d (.v (.string (s.extract li.toNat hh.toNat)))))):WD E.P N ops ob K (⟨some d,.slice t x lo hi none,ty,pos,after,gd⟩::l) tm:=
 .cons _ (fun tm' hag l Q k'=>by
  refine WL.sliceS (S:=⟨tm',ob⟩) (by rw[want_agree hag];exact hw) hd ht (by rw[ev_agree hag (by simp[Op.operands])];exact hx) (li:=li) (hh:=hh) ?_ ?_ hb k'
  ·cases lo with
   |none=>exact hlo
   |some y=>simp only[evLow,evBound] at hlo ⊢;rw[ev_agree hag (by simp[Op.operands])];exact hlo
  ·cases hi with
   |none=>exact hhi
   |some y=>simp only[evBound] at hhi ⊢;rw[ev_agree hag (by simp[Op.operands])];exact hhi) kk
theorem WD.slS' {t:TypeId}{x:Operand}{lo hi:Option Operand}{s:ByteArray}{li hh:Int}(kk:WD E.P N ops ob K l (upd tm d (.d (.v (.string (s.extract li.toNat hh.toNat))))))
 (hw:St.want ⟨tm,ob⟩ ops ⟨some d,.slice t x lo hi none,ty,pos,after,gd⟩=some true:=by exact rfl) (hd:Nat.blt d N.n=true:=by exact rfl) (ht:(E.ty t).kind=.string:=by exact rfl) (hx:St.ev ⟨tm,ob⟩ x=.d (.v (.string s)):=by exact rfl) (hlo:evLow ⟨tm,ob⟩ lo=some li:=by exact rfl) (hhi:evBound ⟨tm,ob⟩ s.size hi=some hh:=by exact rfl) (hb:0≤li∧li≤hh∧hh≤s.size:=by first|omega|(simp only[List.length_map,List.length_append,List.length_cons,List.length_nil] at *;omega)):WD E.P N ops ob K (⟨some d,.slice t x lo hi none,ty,pos,after,gd⟩::l) tm:=
 WD.slS hw hd ht hx hlo hhi hb kk
theorem WD.ixo {t e:TypeId}{x ix:Operand}{z:Nat}{e':TypeId}{rows:List (List D)}{n m:Nat}{pub:Bool}{k:IntKind}{i:Int}(hw:St.want ⟨tm,ob⟩ ops ⟨some d,.indexAddr t x ix,ty,pos,after,gd⟩=some true)(hd:Nat.blt d N.n=true)
 (ht:(E.ty t).kind=.slice e) (he:(E.ty e).known=true) (hz:(E.ty e).size=z) (hx:St.ev ⟨tm,ob⟩ x=.og m n) (hm:ob[m]? =some (.gr z e' rows n pub)) (hi:St.ev ⟨tm,ob⟩ ix=.d (.v (.int k i)))
 (hb:0≤i∧i<rows.length)
 (kk:WD E.P N ops ob K l (upd tm d (.eg m n z i.toNat 0))):WD E.P N ops ob K (⟨some d,.indexAddr t x ix,ty,pos,after,gd⟩::l) tm:=
 .cons _ (fun tm' hag l Q k'=>WL.indexOg (S:=⟨tm',ob⟩) (by rw[want_agree hag];exact hw) hd ht he hz (by rw[ev_agree hag (by simp[Op.operands])];exact hx) hm (by rw[ev_agree hag (by simp[Op.operands])];exact hi) hb k') kk
theorem WD.ixo' {t e:TypeId}{x ix:Operand}{z:Nat}{e':TypeId}{rows:List (List D)}{n m:Nat}{pub:Bool}{k:IntKind}{i:Int}(kk:WD E.P N ops ob K l (upd tm d (.eg m n z i.toNat 0)))
 (hw:St.want ⟨tm,ob⟩ ops ⟨some d,.indexAddr t x ix,ty,pos,after,gd⟩=some true:=by exact rfl) (hd:Nat.blt d N.n=true:=by exact rfl) (ht:(E.ty t).kind=.slice e:=by exact rfl) (he:(E.ty e).known=true:=by exact rfl) (hz:(E.ty e).size=z:=by exact rfl) (hx:St.ev ⟨tm,ob⟩ x=.og m n:=by exact rfl) (hm:ob[m]? =some (.gr z e' rows n pub):=by exact rfl) (hi:St.ev ⟨tm,ob⟩ ix=.d (.v (.int k i)):=by exact rfl) (hb:0≤i∧i<rows.length:=by first|exact trivial|(simp only[inRange,List.length_map];omega)|omega|assumption):WD E.P N ops ob K (⟨some d,.indexAddr t x ix,ty,pos,after,gd⟩::l) tm:=
 WD.ixo hw hd ht he hz hx hm hi hb kk
theorem WD.leg {t:TypeId}{x:Operand}{z:Nat}{e':TypeId}{rows:List (List D)}{n m i off:Nat}{pub:Bool}{r:List D}{res:D}(hw:St.want ⟨tm,ob⟩ ops ⟨some d,.load t x,ty,pos,after,gd⟩=some true)(hd:Nat.blt d N.n=true)
 (hk:(E.ty t).known=true) (hx:St.ev ⟨tm,ob⟩ x=.eg m n z i off) (hm:ob[m]? =some (.gr z e' rows n pub)) (hr:rows[i]? =some r)
 (hres:(bif (E.ty t).agg then(bif Nat.ble (off+(E.ty t).size) r.length then some (.agg ((r.drop off).take (E.ty t).size)) else none) else r[off]?)=some res)
 (kk:WD E.P N ops ob K l (upd tm d (.d res))):WD E.P N ops ob K (⟨some d,.load t x,ty,pos,after,gd⟩::l) tm:=
 .cons _ (fun tm' hag l Q k'=>WL.loadEg (S:=⟨tm',ob⟩) (by rw[want_agree hag];exact hw) hd hk (by rw[ev_agree hag (by simp[Op.operands])];exact hx) hm hr hres k') kk
theorem WD.legm {α:Type} [Inhabited α]{f f':α→List D}{xs:List α}{t:TypeId}{x:Operand}{z:Nat}{e':TypeId}{n m i off:Nat}{pub:Bool}{res:D}(hw:St.want ⟨tm,ob⟩ ops ⟨some d,.load t x,ty,pos,after,gd⟩=some true)(hd:Nat.blt d N.n=true)
 (hk:(E.ty t).known=true) (hx:St.ev ⟨tm,ob⟩ x=.eg m n z i off) (hm:ob[m]? =some (.gr z e' (xs.map f) n pub)) (hf: ∀x,f x=f' x) (hi:i<xs.length)
 (hres:(bif (E.ty t).agg then(bif Nat.ble (off+(E.ty t).size) (f' (xs.getD i default)).length then some (.agg (((f' (xs.getD i default)).drop off).take (E.ty t).size)) else none) else(f' (xs.getD i default))[off]?)=some res)
 (kk:WD E.P N ops ob K l (upd tm d (.d res))):WD E.P N ops ob K (⟨some d,.load t x,ty,pos,after,gd⟩::l) tm:=
 WD.leg hw hd hk hx hm (r:=f' (xs.getD i default)) (by rw[←hf];simp[hi]) hres kk
theorem WD.legm' {α:Type} [Inhabited α]{f f':α→List D}{xs:List α}{t:TypeId}{x:Operand}{z:Nat}{e':TypeId}{n m i off:Nat}{pub:Bool}{res:D}(kk:WD E.P N ops ob K l (upd tm d (.d res)))
 (hw:St.want ⟨tm,ob⟩ ops ⟨some d,.load t x,ty,pos,after,gd⟩=some true:=by exact rfl) (hd:Nat.blt d N.n=true:=by exact rfl) (hk:(E.ty t).known=true:=by exact rfl) (hx:St.ev ⟨tm,ob⟩ x=.eg m n z i off:=by exact rfl) (hm:ob[m]? =some (.gr z e' (xs.map f) n pub):=by exact rfl) (hf: ∀x,f x=f' x:=by exact fun _=>rfl) (hi:i<xs.length:=by first|exact trivial|(simp only[inRange,List.length_map];omega)|omega|assumption) (hres:(bif (E.ty t).agg then(bif Nat.ble (off+(E.ty t).size) (f' (xs.getD i default)).length then some (.agg (((f' (xs.getD i default)).drop off).take (E.ty t).size)) else none) else(f' (xs.getD i default))[off]?)=some res:=by exact rfl):WD E.P N ops ob K (⟨some d,.load t x,ty,pos,after,gd⟩::l) tm:=
 WD.legm hw hd hk hx hm hf hi hres kk
theorem WD.c {f:FuncId}{xs:List Operand}{tys:List TypeId}{args:List D}{t:T}(hw:St.want ⟨tm,ob⟩ ops ⟨some d,.call ⟨.value (.func f),xs.toArray,tys.toArray⟩,ty,pos,after,gd⟩=some true)(hd:Nat.blt d N.n=true)
 (hc:Fun E.P f args t []) (hu:t.under 0=true) (ha:argsOf E ⟨tm,ob⟩ xs tys=some args)
 (k:WD E.P N ops ob K l (upd tm d t)):WD E.P N ops ob K (⟨some d,.call ⟨.value (.func f),xs.toArray,tys.toArray⟩,ty,pos,after,gd⟩::l) tm:=
 .cons t (fun tm' hag l Q k'=>WG.c (G:=[]) (by rw[want_agree hag];exact hw) hd hc hu (by rw[argsOf_agree (S:=⟨tm,ob⟩) (S':=⟨tm',ob⟩) rfl fun x hx=>ev_agree hag (by simp only[Op.operands,Call.operands,Array.toList_append,List.mem_append];exact .inr (by simpa using hx))];exact ha) k') k
theorem WD.c' {f:FuncId}{xs:List Operand}{tys:List TypeId}{args:List D}{t:T}(hc:Fun E.P f args t [])(k:WD E.P N ops ob K l (upd tm d t))
 (hw:St.want ⟨tm,ob⟩ ops ⟨some d,.call ⟨.value (.func f),xs.toArray,tys.toArray⟩,ty,pos,after,gd⟩=some true:=by exact rfl) (hd:Nat.blt d N.n=true:=by exact rfl) (hu:t.under 0=true:=by exact rfl) (ha:argsOf E ⟨tm,ob⟩ xs tys=some args:=by exact rfl):WD E.P N ops ob K (⟨some d,.call ⟨.value (.func f),xs.toArray,tys.toArray⟩,ty,pos,after,gd⟩::l) tm:=
 WD.c hw hd hc hu ha k
end
def byteRow (n:Int):List D:=[.v (.int .u8 n)]
def strB (ns:List Int):ByteArray:=ns.foldl (fun r n=>r.push (UInt8.ofNat n.toNat)) ByteArray.empty
section
variable {E:Env}{N:Nm}{Q:Exit→St→Prop}{S:St}{ops l:List Oper}{ty:TypeId}{pos:String}{after:Array Edge}{gd:Option (Nat×Bool)}{d:Nat}
theorem WL.b2s {src dst e:TypeId}{x:Operand}{ns:List Int}(hw:S.want ops ⟨some d,.convert src dst x,ty,pos,after,gd⟩=some true)(hd:Nat.blt d N.n=true)
 (hs:(E.ty src).kind=.slice e) (he:(E.ty e).kind=.int .u8) (hdst:(E.ty dst).kind=.string) (hx:srcRows S.ob (S.ev x)=some (1,ns.map byteRow))
 (k:WL E.P N ops l Q (S.set d (.d (.v (.string (strB ns)))))):WL E.P N ops (⟨some d,.convert src dst x,ty,pos,after,gd⟩::l) Q S:=
 WL.val hw hd (fun w0 σ0 a w g R=>by
  obtain⟨A,c,news,hxv,hA,hnl,hcell,hn1,hnz,hnr⟩:=R.inv.src hx (R.ev x) (by decide)
  have hnews:news=ns.map (Value.int .u8):=by
   apply List.ext_getElem?
   intro j
   have hlen:news.length=ns.length:=by simpa using hnl
   by_cases hj:j<ns.length
   ·obtain⟨y,hy,hd⟩:=hnr j 0 (byteRow ns[j]) (.v (.int .u8 ns[j])) (by simp[hj]) rfl
    rw[Nat.mul_one,Nat.add_zero] at hy
    rw[hy]
    cases hd
    simp[hj]
   ·rw[List.getElem?_eq_none (by omega),List.getElem?_eq_none (by simp;omega)]
  refine⟨_,?_,.d _ _ (.v _)⟩
  have hrun:(convert src dst (a.eval x)).run E.P w=.ok (.string (strB ns)) w:=by
   rw[hxv,run_convert_bytes_string w src dst e A _ c (E.slice hs) (E.int he) (E.string hdst)]
   cases A with
   |none=>
    obtain⟨h1,h2⟩:=hA rfl
    have:ns=[]:=by simpa using h1
    subst this
    simp[Conv.bytesToString,strB,ByteArray.empty,ByteArray.emptyWithCapacity]
   |some ad=>
    have hl:=run_loadCells_list (P:=E.P) (w:=w) ad news (fun j v hj=>hcell ad rfl j v hj)
    rw[hnews] at hl
    have h2:=run_bytesToString (P:=E.P) w ad (ns.map byteRow).length c ns (by simpa using hl)
    rw[h2];rfl
  simp[execOp,hrun]) k
section
variable {tm:Nat→T}{ob:List Ob}{G:List Nat}
theorem WG.b2s {src dst e:TypeId}{x:Operand}{ns:List Int}(hw:St.want ⟨tm,ob⟩ ops ⟨some d,.convert src dst x,ty,pos,after,gd⟩=some true)(hd:Nat.blt d N.n=true)
 (hs:(E.ty src).kind=.slice e) (he:(E.ty e).kind=.int .u8) (hdst:(E.ty dst).kind=.string) (hx:srcRows ob (St.ev ⟨tm,ob⟩ x)=some (1,ns.map byteRow))
 (k:WG G E.P N ops l Q ⟨upd tm d (.d (.v (.string (strB ns)))),ob⟩):WG G E.P N ops (⟨some d,.convert src dst x,ty,pos,after,gd⟩::l) Q ⟨tm,ob⟩:=WL.b2s (S:=⟨tm,ob⟩) hw hd hs he hdst hx k
theorem leOb {tm:Nat→T}{ob ob':List Ob}{S':St}(h:ob=ob')(k:St.le N ⟨tm,ob'⟩ S'):St.le N ⟨tm,ob⟩ S':=by subst h;exact k
theorem mid_at {α:Type}(A:List α)(r:α)(B:List α):(A++r::B)[A.length]? =some r:=by simp
theorem mid_set {α:Type}(A:List α)(r r':α)(B:List α):(A++r::B).set A.length r'=A++r'::B:=by simp
theorem WG.ixA {t e:TypeId}{x ix:Operand}{z:Nat}{e':TypeId}{A B:List (List D)}{r:List D}{n m:Nat}{pub:Bool}{k:IntKind}{i:Int}(hw:St.want ⟨tm,ob⟩ ops ⟨some d,.indexAddr t x ix,ty,pos,after,gd⟩=some true)(hd:Nat.blt d N.n=true)
 (ht:(E.ty t).kind=.slice e) (he:(E.ty e).known=true) (hz:(E.ty e).size=z) (hx:St.ev ⟨tm,ob⟩ x=.og m n) (hm:ob[m]? =some (.gr z e' (A++r::B) n pub)) (hi:St.ev ⟨tm,ob⟩ ix=.d (.v (.int k i)))
 (hA:i=(A.length:Int))
 (kk:WG G E.P N ops l Q ⟨upd tm d (.eg m n z A.length 0),ob⟩):WG G E.P N ops (⟨some d,.indexAddr t x ix,ty,pos,after,gd⟩::l) Q ⟨tm,ob⟩:=by
 have e1:i.toNat=A.length:=by omega
 have:=WG.ixo (E:=E) (G:=G) (Q:=Q) (l:=l) hw hd ht he hz hx hm hi ⟨by omega,by simp;omega⟩ (by rw[e1];exact kk)
 exact this
theorem WG.stA {t:TypeId}{x v:Operand}{m z n i off:Nat}{e:TypeId}{A B:List (List D)}{r vals:List D}(hw:St.want ⟨tm,ob⟩ ops ⟨none,.store t x v,ty,pos,after,gd⟩=some true)(hk:(E.ty t).known=true)
 (hx:St.ev ⟨tm,ob⟩ x=.eg m n z i off) (hm:ob[m]? =some (.gr z e (A++r::B) n false)) (hi:i=A.length) (hv:rowOf ob (fixNil E t (St.ev ⟨tm,ob⟩ v))=some vals) (hn:Nat.beq vals.length (E.ty t).size=true) (ho:Nat.ble (off+vals.length) z=true)
 (h1:onesD vals=true)
 (k:WG G E.P N ops l Q ⟨tm,ob.set m (.gr z e (A++setAll r off vals::B) n false)⟩):WG G E.P N ops (⟨none,.store t x v,ty,pos,after,gd⟩::l) Q ⟨tm,ob⟩:=by
 subst hi
 refine WG.stE hw hk hx hm (mid_at A r B) hv hn ho h1 ?_
 rw[mid_set]
 exact k
end
end
theorem FunQ.fin {P:Program}{f:FuncId}{args:List T}{ob ob1 ob2:List Ob}{t t2:T}(h:FunQ P f args ob (just t ob1))(k:Fin ob1 t ob2 t2):FunQ P f args ob (just t2 ob2):=
 ⟨h.enter,fun w g vals hI hl hr=>(h.calls w g vals hI hl hr).mono fun e w' ⟨v,t',ob',g',h1,⟨h2,h3⟩,h4,h5⟩=>by
   subst h2;subst h3
   obtain⟨g2,hI2,ht2⟩:=k _ _ _ _ _ h4 h5
   exact⟨v,t2,ob2,g2,h1,⟨rfl,rfl⟩,hI2,ht2⟩⟩
theorem FunQ.pubG {P:Program}{f:FuncId}{args:List T}{ob:List Ob}{z n:Nat}{e:TypeId}{rows:List (List D)}(h:FunQ P f args ob (just (.og 0 n) [.gr z e rows n false])):FunQ P f args ob (just (.d (.sl z rows)) []):=by
 refine h.fin (Fin.pub 0 rfl (Fin.norm ?_))
 have:norm ([Ob.gr z e rows n false].set 0 (.gr z e rows n true)) (.og 0 n)=.d (.sl z rows):=by simp[norm,norm1,normC]
 rw[this]
 exact Fin.data
theorem FunQ.pubA {P:Program}{f:FuncId}{args:List T}{ob:List Ob}{z n:Nat}{e:TypeId}{rows:List (List D)}{x:D}(hx:x.fix1=x)(h:FunQ P f args ob (just (.agg [.d x,.og 0 n]) [.gr z e rows n false])):FunQ P f args ob (just (.d (.agg [x,.sl z rows])) []):=by
 refine h.fin (Fin.pub 0 rfl (Fin.norm ?_))
 have:norm ([Ob.gr z e rows n false].set 0 (.gr z e rows n true)) (.agg [.d x,.og 0 n])=.d (.agg [x,.sl z rows]):=by simp[norm,norm1,normC,mkAgg,allD,hx]
 rw[this]
 exact Fin.data
section
variable {E:Env}{N:Nm}{Q:Exit→St→Prop}{ops l:List Oper}{ty:TypeId}{pos:String}{after:Array Edge}{gd:Option (Nat×Bool)}{d:Nat}{tm:Nat→T}{ob:List Ob}{G:List Nat}{f:FuncId}{xs:List Operand}{tys:List TypeId}{args:List D}{K z:Nat}{e:TypeId}{rows:List (List D)}
theorem WG.coG (hw:St.want ⟨tm,ob⟩ ops ⟨some d,.call ⟨.value (.func f),xs.toArray,tys.toArray⟩,ty,pos,after,gd⟩=some true)(hd:Nat.blt d N.n=true)
 (hc:Fun E.P f args (.og 0 0) [.gr z e rows 0 false]) (ha:argsOf E ⟨tm,ob⟩ xs tys=some args) (hK:ob.length=K)
 (k:WG G E.P N ops l Q ⟨upd tm d (.og K 0),ob++[.gr z e rows 0 false]⟩):WG G E.P N ops (⟨some d,.call ⟨.value (.func f),xs.toArray,tys.toArray⟩,ty,pos,after,gd⟩::l) Q ⟨tm,ob⟩:=
 WG.co hw hd hc ha hK (by simp[pushT,T.ren,Rn.ix,Rn.of]) (by simp[pushO,renFrom,Ob.ren,Rn.of]) k
theorem WG.coG'  (hw:St.want ⟨tm,ob⟩ ops ⟨some d,.call ⟨.value (.func f),xs.toArray,tys.toArray⟩,ty,pos,after,gd⟩=some true) (hd:Nat.blt d N.n=true) (hc:Fun E.P f args (.og 0 0) [.gr z e rows 0 false]) (ha:argsOf E ⟨tm,ob⟩ xs tys=some args)
 (k:WG G E.P N ops l Q ⟨upd tm d (.og K 0),ob++[.gr z e rows 0 false]⟩) (hK:ob.length=K:=by first|exact(rfl:_=(0:Nat))|exact(rfl:_=(1:Nat))|exact(rfl:_=(2:Nat))|exact(rfl:_=(3:Nat))|exact(rfl:_=(4:Nat))|exact(rfl:_=(5:Nat))|exact(rfl:_=(6:Nat))|exact(rfl:_=(7:Nat))|exact(rfl:_=(8:Nat))|exact(rfl:_=(9:Nat))|exact(rfl:_=(10:Nat))|exact(rfl:_=(11:Nat))|exact(rfl:_=(12:Nat))|exact(rfl:_=(13:Nat))|exact(rfl:_=(14:Nat))|exact(rfl:_=(15:Nat))|exact(rfl:_=(16:Nat))|exact(rfl:_=(17:Nat))|exact(rfl:_=(18:Nat))|exact(rfl:_=(19:Nat))|exact(rfl:_=(20:Nat))|exact(rfl:_=(21:Nat))|exact(rfl:_=(22:Nat))|exact(rfl:_=(23:Nat))):WG G E.P N ops (⟨some d,.call ⟨.value (.func f),xs.toArray,tys.toArray⟩,ty,pos,after,gd⟩::l) Q ⟨tm,ob⟩:=
 WG.coG hw hd hc ha hK k
theorem WG.coA {x:D}(hw:St.want ⟨tm,ob⟩ ops ⟨some d,.call ⟨.value (.func f),xs.toArray,tys.toArray⟩,ty,pos,after,gd⟩=some true)(hd:Nat.blt d N.n=true)
 (hc:Fun E.P f args (.agg [.d x,.og 0 0]) [.gr z e rows 0 false]) (ha:argsOf E ⟨tm,ob⟩ xs tys=some args) (hK:ob.length=K)
 (k:WG G E.P N ops l Q ⟨upd tm d (.agg [.d x,.og K 0]),ob++[.gr z e rows 0 false]⟩):WG G E.P N ops (⟨some d,.call ⟨.value (.func f),xs.toArray,tys.toArray⟩,ty,pos,after,gd⟩::l) Q ⟨tm,ob⟩:=
 WG.co hw hd hc ha hK (by simp[pushT,T.ren,T.renL,Rn.ix,Rn.of]) (by simp[pushO,renFrom,Ob.ren,Rn.of]) k
theorem WG.coA' {x:D}(hw:St.want ⟨tm,ob⟩ ops ⟨some d,.call ⟨.value (.func f),xs.toArray,tys.toArray⟩,ty,pos,after,gd⟩=some true)(hd:Nat.blt d N.n=true)(hc:Fun E.P f args (.agg [.d x,.og 0 0]) [.gr z e rows 0 false])(ha:argsOf E ⟨tm,ob⟩ xs tys=some args)
 (k:WG G E.P N ops l Q ⟨upd tm d (.agg [.d x,.og K 0]),ob++[.gr z e rows 0 false]⟩) (hK:ob.length=K:=by first|exact(rfl:_=(0:Nat))|exact(rfl:_=(1:Nat))|exact(rfl:_=(2:Nat))|exact(rfl:_=(3:Nat))|exact(rfl:_=(4:Nat))|exact(rfl:_=(5:Nat))|exact(rfl:_=(6:Nat))|exact(rfl:_=(7:Nat))|exact(rfl:_=(8:Nat))|exact(rfl:_=(9:Nat))|exact(rfl:_=(10:Nat))|exact(rfl:_=(11:Nat))|exact(rfl:_=(12:Nat))|exact(rfl:_=(13:Nat))|exact(rfl:_=(14:Nat))|exact(rfl:_=(15:Nat))|exact(rfl:_=(16:Nat))|exact(rfl:_=(17:Nat))|exact(rfl:_=(18:Nat))|exact(rfl:_=(19:Nat))|exact(rfl:_=(20:Nat))|exact(rfl:_=(21:Nat))|exact(rfl:_=(22:Nat))|exact(rfl:_=(23:Nat))):WG G E.P N ops (⟨some d,.call ⟨.value (.func f),xs.toArray,tys.toArray⟩,ty,pos,after,gd⟩::l) Q ⟨tm,ob⟩:=
 WG.coA hw hd hc ha hK k
theorem WG.coA3 {x y:D}(hw:St.want ⟨tm,ob⟩ ops ⟨some d,.call ⟨.value (.func f),xs.toArray,tys.toArray⟩,ty,pos,after,gd⟩=some true)(hd:Nat.blt d N.n=true)
 (hc:Fun E.P f args (.agg [.d x,.d y,.og 0 0]) [.gr z e rows 0 false]) (ha:argsOf E ⟨tm,ob⟩ xs tys=some args) (hK:ob.length=K)
 (k:WG G E.P N ops l Q ⟨upd tm d (.agg [.d x,.d y,.og K 0]),ob++[.gr z e rows 0 false]⟩):WG G E.P N ops (⟨some d,.call ⟨.value (.func f),xs.toArray,tys.toArray⟩,ty,pos,after,gd⟩::l) Q ⟨tm,ob⟩:=
 WG.co hw hd hc ha hK (by simp[pushT,T.ren,T.renL,Rn.ix,Rn.of]) (by simp[pushO,renFrom,Ob.ren,Rn.of]) k
theorem WG.coA3' {x y:D}(hw:St.want ⟨tm,ob⟩ ops ⟨some d,.call ⟨.value (.func f),xs.toArray,tys.toArray⟩,ty,pos,after,gd⟩=some true)(hd:Nat.blt d N.n=true)(hc:Fun E.P f args (.agg [.d x,.d y,.og 0 0]) [.gr z e rows 0 false])(ha:argsOf E ⟨tm,ob⟩ xs tys=some args)
 (k:WG G E.P N ops l Q ⟨upd tm d (.agg [.d x,.d y,.og K 0]),ob++[.gr z e rows 0 false]⟩) (hK:ob.length=K:=by first|exact(rfl:_=(0:Nat))|exact(rfl:_=(1:Nat))|exact(rfl:_=(2:Nat))|exact(rfl:_=(3:Nat))|exact(rfl:_=(4:Nat))|exact(rfl:_=(5:Nat))|exact(rfl:_=(6:Nat))|exact(rfl:_=(7:Nat))|exact(rfl:_=(8:Nat))|exact(rfl:_=(9:Nat))|exact(rfl:_=(10:Nat))|exact(rfl:_=(11:Nat))|exact(rfl:_=(12:Nat))|exact(rfl:_=(13:Nat))|exact(rfl:_=(14:Nat))|exact(rfl:_=(15:Nat))|exact(rfl:_=(16:Nat))|exact(rfl:_=(17:Nat))|exact(rfl:_=(18:Nat))|exact(rfl:_=(19:Nat))|exact(rfl:_=(20:Nat))|exact(rfl:_=(21:Nat))|exact(rfl:_=(22:Nat))|exact(rfl:_=(23:Nat))):WG G E.P N ops (⟨some d,.call ⟨.value (.func f),xs.toArray,tys.toArray⟩,ty,pos,after,gd⟩::l) Q ⟨tm,ob⟩:=
 WG.coA3 hw hd hc ha hK k
end
section
variable {P:Program}{fn:Func}{m:Nat}{e:Exit}{S:St}{ts:List T}{k n z:Nat}{e':TypeId}{rows rows':List (List D)}{x x' y y':D}
theorem RetR.g (he:e=.ret∨e=.normal)(hts:resL S fn.results.toList=some ts)(hok:resOK P S fn.results.toList)(hn:norm S.ob (resT ts)=.og k n)(hk:S.ob[k]? =some (.gr z e' rows n false))(hr:rows=rows'):
 RetR P fn 0 (just (.og 0 0) [.gr z e' rows' 0 false]) e S:=by
 subst hr
 exact RetQ.own (tt:=.og k n) k n he hts hok hn (by simp[T.ren,Rn.ix,Rn.of]) rfl hk rfl
theorem RetR.g'  (hr:rows=rows')
 (he:e=.ret∨e=.normal:=by exact .inl rfl) (hts:resL S fn.results.toList=some ts:=by exact rfl) (hok:resOK P S fn.results.toList:=by first|trivial|exact resOK_of (by exact rfl)) (hn:norm S.ob (resT ts)=.og k n:=by exact rfl) (hk:S.ob[k]? =some (.gr z e' rows n false):=by exact rfl):RetR P fn 0 (just (.og 0 0) [.gr z e' rows' 0 false]) e S:=
 RetR.g he hts hok hn hk hr
theorem RetR.ag (he:e=.ret∨e=.normal)(hts:resL S fn.results.toList=some ts)(hok:resOK P S fn.results.toList)(hn:norm S.ob (resT ts)=.agg [.d x,.og k n])(hk:S.ob[k]? =some (.gr z e' rows n false))(hx:x=x')(hr:rows=rows'):
 RetR P fn 0 (just (.agg [.d x',.og 0 0]) [.gr z e' rows' 0 false]) e S:=by
 subst hr;subst hx
 exact RetR.own (ob':=[.gr z e' rows 0 false]) ⟨[k],[n],S.ob.length⟩ he hts hok (by simp[hn,T.ren,T.renL,Rn.ix,Rn.of]) rfl rfl rfl rfl rfl ⟨by simpa [Rn.ix,Rn.of,Ob.ren] using hk,trivial⟩ rfl ⟨rfl,rfl⟩
theorem RetR.ag'  (hx:x=x') (hr:rows=rows')
 (he:e=.ret∨e=.normal:=by exact .inl rfl) (hts:resL S fn.results.toList=some ts:=by exact rfl) (hok:resOK P S fn.results.toList:=by first|trivial|exact resOK_of (by exact rfl)) (hn:norm S.ob (resT ts)=.agg [.d x,.og k n]:=by exact rfl) (hk:S.ob[k]? =some (.gr z e' rows n false):=by exact rfl):RetR P fn 0 (just (.agg [.d x',.og 0 0]) [.gr z e' rows' 0 false]) e S:=
 RetR.ag he hts hok hn hk hx hr
theorem RetR.ag3 (he:e=.ret∨e=.normal)(hts:resL S fn.results.toList=some ts)(hok:resOK P S fn.results.toList)(hn:norm S.ob (resT ts)=.agg [.d x,.d y,.og k n])(hk:S.ob[k]? =some (.gr z e' rows n false))(hx:x=x')(hy:y=y')(hr:rows=rows'):
 RetR P fn 0 (just (.agg [.d x',.d y',.og 0 0]) [.gr z e' rows' 0 false]) e S:=by
 subst hr;subst hx;subst hy
 exact RetR.own (ob':=[.gr z e' rows 0 false]) ⟨[k],[n],S.ob.length⟩ he hts hok (by simp[hn,T.ren,T.renL,Rn.ix,Rn.of]) rfl rfl rfl rfl rfl ⟨by simpa [Rn.ix,Rn.of,Ob.ren] using hk,trivial⟩ rfl ⟨rfl,rfl⟩
theorem RetR.ag3'  (hx:x=x') (hy:y=y') (hr:rows=rows')
 (he:e=.ret∨e=.normal:=by exact .inl rfl) (hts:resL S fn.results.toList=some ts:=by exact rfl) (hok:resOK P S fn.results.toList:=by first|trivial|exact resOK_of (by exact rfl)) (hn:norm S.ob (resT ts)=.agg [.d x,.d y,.og k n]:=by exact rfl) (hk:S.ob[k]? =some (.gr z e' rows n false):=by exact rfl):RetR P fn 0 (just (.agg [.d x',.d y',.og 0 0]) [.gr z e' rows' 0 false]) e S:=
 RetR.ag3 he hts hok hn hk hx hy hr
theorem RetR.agn (he:e=.ret∨e=.normal)(hts:resL S fn.results.toList=some ts)(hok:resOK P S fn.results.toList)(hn:resT ts=.agg [.d x,.d (.nl z)])(hx:x=x'):
 RetR P fn 0 (just (.agg [.d x',.og 0 0]) [.gr z e' [] 0 false]) e S:=by
 subst hx
 refine⟨he,ts,hts,hok,fun w0 σ0 w g v hm0 I hv=>?_⟩
 have h:=hv
 rw[hn] at h
 obtain⟨vs,rfl,hl,hat⟩:=h.inv_agg
 match vs,hl with
 |[v1,v2],_=>
  have h1:=(hat 0 _ v1 rfl rfl).inv_d
  have h2:=(hat 1 _ v2 rfl rfl).inv_d.inv_nl
  subst h2
  have I0:=I.trim (ob':=[]) trivial
  obtain⟨g1,hle,I1,ht⟩:=I0.adopt (by rw[hm0];exact Nat.le_refl _) z e'
  refine⟨_,_,g1,⟨rfl,rfl⟩,I1,.agg _ [v1,.slice none 0 0] rfl fun i y u hy hu=>?_⟩
  match i with
  |0=>
   simp only[List.getElem?_cons_zero,Option.some.injEq] at hy hu
   subst hy;subst hu
   exact .d _ _ (h1.mono hle.σ)
  |1=>
   simp only[List.getElem?_cons_succ,List.getElem?_cons_zero,Option.some.injEq] at hy hu
   subst hy;subst hu
   exact ht
  |i+2=>simp at hy
theorem RetR.agn'  (hx:x=x')
 (he:e=.ret∨e=.normal:=by exact .inl rfl) (hts:resL S fn.results.toList=some ts:=by exact rfl) (hok:resOK P S fn.results.toList:=by first|trivial|exact resOK_of (by exact rfl)) (hn:resT ts=.agg [.d x,.d (.nl z)]:=by exact rfl):RetR P fn 0 (just (.agg [.d x',.og 0 0]) [.gr z e' [] 0 false]) e S:=
 RetR.agn he hts hok hn hx
theorem RetR.agn3 (he:e=.ret∨e=.normal)(hts:resL S fn.results.toList=some ts)(hok:resOK P S fn.results.toList)(hn:resT ts=.agg [.d x,.d y,.d (.nl z)])(hx:x=x')(hy:y=y'):
 RetR P fn 0 (just (.agg [.d x',.d y',.og 0 0]) [.gr z e' [] 0 false]) e S:=by
 subst hx;subst hy
 refine⟨he,ts,hts,hok,fun w0 σ0 w g v hm0 I hv=>?_⟩
 have h:=hv
 rw[hn] at h
 obtain⟨vs,rfl,hl,hat⟩:=h.inv_agg
 match vs,hl with
 |[v1,v2,v3],_=>
  have h1:=(hat 0 _ v1 rfl rfl).inv_d
  have h2:=(hat 1 _ v2 rfl rfl).inv_d
  have h3:=(hat 2 _ v3 rfl rfl).inv_d.inv_nl
  subst h3
  have I0:=I.trim (ob':=[]) trivial
  obtain⟨g1,hle,I1,ht⟩:=I0.adopt (by rw[hm0];exact Nat.le_refl _) z e'
  refine⟨_,_,g1,⟨rfl,rfl⟩,I1,.agg _ [v1,v2,.slice none 0 0] rfl fun i y u hy hu=>?_⟩
  match i with
  |0=>
   simp only[List.getElem?_cons_zero,Option.some.injEq] at hy hu
   subst hy;subst hu
   exact .d _ _ (h1.mono hle.σ)
  |1=>
   simp only[List.getElem?_cons_succ,List.getElem?_cons_zero,Option.some.injEq] at hy hu
   subst hy;subst hu
   exact .d _ _ (h2.mono hle.σ)
  |2=>
   simp only[List.getElem?_cons_succ,List.getElem?_cons_zero,Option.some.injEq] at hy hu
   subst hy;subst hu
   exact ht
  |i+3=>simp at hy
theorem RetR.agn3'  (hx:x=x') (hy:y=y')
 (he:e=.ret∨e=.normal:=by exact .inl rfl) (hts:resL S fn.results.toList=some ts:=by exact rfl) (hok:resOK P S fn.results.toList:=by first|trivial|exact resOK_of (by exact rfl)) (hn:resT ts=.agg [.d x,.d y,.d (.nl z)]:=by exact rfl):RetR P fn 0 (just (.agg [.d x',.d y',.og 0 0]) [.gr z e' [] 0 false]) e S:=
 RetR.agn3 he hts hok hn hx hy
theorem RetR.gp (he:e=.ret∨e=.normal)(hts:resL S fn.results.toList=some ts)(hok:resOK P S fn.results.toList)(hn:norm S.ob (resT ts)=.og k n)(hk:S.ob[k]? =some (.gr z e' rows n false))(hr:rows=rows'):
 RetR P fn 0 (just (.d (.sl z rows')) []) e S:=by
 subst hr
 refine⟨he,ts,hts,hok,fun w0 σ0 w g v hm0 I hv=>?_⟩
 have h:=I.norm hv
 rw[hn] at h
 have hlt:k<S.ob.length:=(List.getElem?_eq_some_iff.1 hk).1
 obtain⟨g1,hle,hlim,I1⟩:=I.pub hk
 have h1:=I1.read (k:=k) (rows:=rows) (by rw[List.getElem?_set_self hlt])
 obtain⟨hl,hv'⟩:=h.inv_og
 subst hv'
 rw[(hle.γ k n hl).2] at h1
 exact⟨_,[],_,⟨rfl,rfl⟩,I1.trim (ob':=[]) trivial,.d _ _ h1⟩
theorem RetR.gp'  (hr:rows=rows')
 (he:e=.ret∨e=.normal:=by exact .inl rfl) (hts:resL S fn.results.toList=some ts:=by exact rfl) (hok:resOK P S fn.results.toList:=by first|trivial|exact resOK_of (by exact rfl)) (hn:norm S.ob (resT ts)=.og k n:=by exact rfl) (hk:S.ob[k]? =some (.gr z e' rows n false):=by exact rfl):RetR P fn 0 (just (.d (.sl z rows')) []) e S:=
 RetR.gp he hts hok hn hk hr
theorem RetR.agp (he:e=.ret∨e=.normal)(hts:resL S fn.results.toList=some ts)(hok:resOK P S fn.results.toList)(hn:norm S.ob (resT ts)=.agg [.d x,.og k n])(hk:S.ob[k]? =some (.gr z e' rows n false))(hx:x=x')(hr:rows=rows'):
 RetR P fn 0 (just (.d (.agg [x',.sl z rows'])) []) e S:=by
 subst hr;subst hx
 refine⟨he,ts,hts,hok,fun w0 σ0 w g v hm0 I hv=>?_⟩
 have h:=I.norm hv
 rw[hn] at h
 have hlt:k<S.ob.length:=(List.getElem?_eq_some_iff.1 hk).1
 obtain⟨g1,hle,hlim,I1⟩:=I.pub hk
 have h1:=I1.read (k:=k) (rows:=rows) (by rw[List.getElem?_set_self hlt])
 obtain⟨vs,rfl,hl,hat⟩:=h.inv_agg
 match vs,hl with
 |[v1,v2],_=>
  have q1:=(hat 0 _ v1 rfl rfl).inv_d
  obtain⟨hl,hv'⟩:=(hat 1 _ v2 rfl rfl).inv_og
  subst hv'
  rw[(hle.γ k n hl).2] at h1
  refine⟨_,[],_,⟨rfl,rfl⟩,I1.trim (ob':=[]) trivial,.d _ _ (.agg _ [v1,g.γ k n] rfl fun i y u hy hu=>?_)⟩
  match i with
  |0=>
   simp only[List.getElem?_cons_zero,Option.some.injEq] at hy hu
   subst hy;subst hu
   exact q1.mono hle.σ
  |1=>
   simp only[List.getElem?_cons_succ,List.getElem?_cons_zero,Option.some.injEq] at hy hu
   subst hy;subst hu
   exact h1
  |i+2=>simp at hy
theorem RetR.agp'  (hx:x=x') (hr:rows=rows')
 (he:e=.ret∨e=.normal:=by exact .inl rfl) (hts:resL S fn.results.toList=some ts:=by exact rfl) (hok:resOK P S fn.results.toList:=by first|trivial|exact resOK_of (by exact rfl)) (hn:norm S.ob (resT ts)=.agg [.d x,.og k n]:=by exact rfl) (hk:S.ob[k]? =some (.gr z e' rows n false):=by exact rfl):RetR P fn 0 (just (.d (.agg [x',.sl z rows'])) []) e S:=
 RetR.agp he hts hok hn hk hx hr
theorem RetR.gn (he:e=.ret∨e=.normal)(hts:resL S fn.results.toList=some ts)(hok:resOK P S fn.results.toList)(hn:nilT (resT ts)=true):
 RetR P fn 0 (just (.og 0 0) [.gr z e' [] 0 false]) e S:=by
 refine⟨he,ts,hts,hok,fun w0 σ0 w g v hm0 I hv=>?_⟩
 have h2:=RT.nil hn hv
 subst h2
 have I0:=I.trim (ob':=[]) trivial
 obtain⟨g1,hle,I1,ht⟩:=I0.adopt (by rw[hm0];exact Nat.le_refl _) z e'
 exact⟨_,_,g1,⟨rfl,rfl⟩,I1,ht⟩
theorem RetR.gn'  
 (he:e=.ret∨e=.normal:=by exact .inl rfl) (hts:resL S fn.results.toList=some ts:=by exact rfl) (hok:resOK P S fn.results.toList:=by first|trivial|exact resOK_of (by exact rfl)) (hn:nilT (resT ts)=true:=by exact rfl):RetR P fn 0 (just (.og 0 0) [.gr z e' [] 0 false]) e S:=
 RetR.gn he hts hok hn
end
theorem Rel.buildRun {E:Env}{N:Nm}{S:St}{w0:World}{σ0:Bs}{a:Act}{w:World}{g:Gh}(R:Rel N w0 σ0 S a w g){d:Option Nat}{ty:TypeId}{pos:String}{after:Array Edge}{gd:Option (Nat×Bool)}{t e:TypeId}{len:Nat}{parts:List (Nat×Operand)}{z:Nat}{rows:List (List D)}
 (ht:(E.ty t).kind=.slice e) (he:(E.ty e).known=true) (hz:(E.ty e).size=z) (hz0:Nat.blt 0 z=true) (hlen:Nat.beq len parts.length=true) (hmax:Nat.ble (len*z) 16777216=true)
 (hrows:rowsOf S 0 parts=some rows) (hwd:widths z rows=true):
 ∃xs:List Value,(execOp a.eval ⟨d,.buildSlice t len parts.toArray,ty,pos,after,gd⟩).run E.P w=.ok (.value (.slice (some ⟨w.heap.size,0,none⟩) rows.length rows.length)) (w.alloc (.cells xs.toArray e))∧
  (w.alloc (.cells xs.toArray e)).ownsRow w.heap.size e z (.slice (some ⟨w.heap.size,0,none⟩) rows.length rows.length) rows.length xs∧(∀r∈rows,r.length=z)∧
  (∀(i j:Nat) (r:List D) (x:D),rows[i]? =some r→r[j]? =some x→ ∃u,xs[i*z+j]? =some u∧RD g.σ x u)∧ ∀u∈xs,u.oneCell'=true:=by
 obtain⟨inf,zz,hinf,hsz,_,hzv,hzs,hzc⟩:=E.info he
 have hlen':=Nat.eq_of_beq_eq_true hlen
 have hmax':=Nat.le_of_ble_eq_true hmax
 have hz0':0<z:=by simpa using hz0
 obtain⟨hrl,hrp⟩:=rowsOf_at hrows
 have hwa:=widths_at hwd
 let vals:List (Nat×Value):=parts.map fun p=>(p.1,a.eval p.2)
 have hval: ∀(j:Nat) (p:Nat×Value),vals[j]? =some p→p.1=0+j∧p.2.cells.size=z:=fun j p hp=>by
  simp only[vals,List.getElem?_map,Option.map_eq_some_iff] at hp
  obtain⟨q,hq,rfl⟩:=hp
  have hj:j<rows.length:=by rw[hrl];exact(List.getElem?_eq_some_iff.1 hq).1
  obtain⟨h1,h2⟩:=hrp j q _ hq (List.getElem?_eq_getElem hj)
  obtain⟨h3,h4⟩:=hwa _ (List.getElem_mem hj)
  obtain⟨c1,_,_⟩:=R.inv.row h2 (R.ev q.2) h4
  exact⟨h1,by show(a.eval q.2).cells.size=z;rw[←Array.length_toList];omega⟩
 let L:List (List Value):=vals.map fun p=>p.2.cells.toList
 have hL: ∀r∈L,r.length=z:=fun r hr=>by
  obtain⟨j,hj⟩:=List.getElem?_of_mem hr
  simp only[L,List.getElem?_map,Option.map_eq_some_iff] at hj
  obtain⟨p,hp,rfl⟩:=hj
  simpa using(hval j p hp).2
 have hLl:L.length=rows.length:=by simp[L,vals,hrl]
 have hfl:(vals.flatMap fun p=>p.2.cells.toList)=L.flatten:=by simp[L,List.flatMap]
 have hlt:vals.length=len:=by simp[vals,hlen']
 let zc:Array Value:=if len*z=0 then #[] else zz.cells
 have hfill:=fill_rows (z:=z) (len:=len) vals 0 [] (((Array.range (len*z)).map fun i=>zc[i % zc.size]!).toList) (by simp) hval (by simp[hlt])
 simp only[List.nil_append,Array.toArray_toList] at hfill
 rw[hfl] at hfill
 have hrun:(Instr.buildSlice t len (parts.toArray.map fun(i,x)=>(i,a.eval x))).run E.P w=
  .ok (.slice (some ⟨w.heap.size,0,none⟩) len len) (w.alloc (.cells L.flatten.toArray e)):=by
  have e1:(parts.toArray.map fun(x:Nat×Operand)=>(x.1,a.eval x.2)).toList=vals:=by simp[vals]
  have hnot:¬len*z>2 ^ 24:=by omega
  unfold Instr.buildSlice
  simp only[Sem.run_bind,run_underlying (E.slice ht),Result.andThen_ok,sizeOf,typeInfo,run_program,hinf,Sem.run_pure,hsz,hz]
  rw[if_neg hnot]
  simp only[Sem.run_bind,Result.andThen_ok,Sem.run_pure,pure_bind]
  by_cases h0:len*z=0
  ·simp only[h0,if_true,Sem.run_pure,Result.andThen_ok]
   have hzc0:zc= #[]:=by simp[zc,h0]
   rw[hzc0,h0] at hfill
   rw[e1]
   simp only[hfill]
   simp[newRow]
  ·simp only[h0,if_false,zeroValue,typeInfo,Sem.run_bind,run_program,hinf,Result.andThen_ok,Sem.run_pure,hzv]
   have hzc0:zc=zz.cells:=by simp[zc,h0]
   rw[hzc0] at hfill
   rw[e1]
   simp only[hfill]
   simp[newRow]
 have hrowlen:rows.length=len:=by omega
 have hown:(w.alloc (.cells L.flatten.toArray e)).ownsRow w.heap.size e z (.slice (some ⟨w.heap.size,0,none⟩) len len) len L.flatten:=by simpa using World.ownsRow_lit (base:=w.heap.size) (e:=e) (size:=z) w L.flatten.toArray len (Nat.le_refl _) (by unfold maxLen;have:len≤len*z:=Nat.le_mul_of_pos_right _ hz0';omega) (by simp[←List.length_flatten,flat_len L hL,hLl,hrowlen])
 rw[←hrowlen] at hown hrun ⊢
 exact⟨L.flatten,by simp only[execOp,Sem.run_bind,hrun,Result.andThen_ok,Sem.run_pure],hown,fun r hr=>(hwa r hr).1,
  (fun i j r x hr hx=>by
    have hi:i<parts.length:=by rw[←hrl];exact(List.getElem?_eq_some_iff.1 hr).1
    obtain⟨h1,h2⟩:=hrp i parts[i] r (List.getElem?_eq_getElem hi) hr
    obtain⟨h3,h4⟩:=hwa r (List.mem_of_getElem? hr)
    obtain⟨c1,c2,c3⟩:=R.inv.row h2 (R.ev parts[i].2) h4
    have hj:j<r.length:=(List.getElem?_eq_some_iff.1 hx).1
    have hLi:L[i]? =some (a.eval parts[i].2).cells.toList:=by simp[L,vals,hi]
    have hju:j<(a.eval parts[i].2).cells.toList.length:=by omega
    exact⟨_,by rw[flat_at L hL i j _ hLi (by omega)];exact List.getElem?_eq_getElem hju,c2 j x _ hx (List.getElem?_eq_getElem hju)⟩),
  (fun u hu=>by
    obtain⟨r,hr,hur⟩:=List.mem_flatten.1 hu
    obtain⟨i,hi⟩:=List.getElem?_of_mem hr
    simp only[L,vals,List.getElem?_map,Option.map_eq_some_iff] at hi
    obtain⟨p,⟨q,hq,rfl⟩,rfl⟩:=hi
    have hir:i<rows.length:=by rw[hrl];exact(List.getElem?_eq_some_iff.1 hq).1
    obtain⟨h1,h2⟩:=hrp i q _ hq (List.getElem?_eq_getElem hir)
    obtain⟨h3,h4⟩:=hwa _ (List.getElem_mem hir)
    exact(R.inv.row h2 (R.ev q.2) h4).2.2 u hur)⟩
theorem Inv.known {w0:World}{σ0:Bs}{ob:List Ob}{w:World}{g:Gh}(I:Inv w0 σ0 ob w g){w':World}(hb:Below w.heap.size w w')(b:Nat)(xs:List Value)(hbn:w.heap.size≤b)(hc: ∀(o:Nat) (u:Value),xs[o]? =some u→w'.cell? ⟨b,o,none⟩=some u):
 ∃g',g.le g'∧(∀o,g'.σ b o=xs[o]?)∧Inv w0 σ0 ob w' g':=by
 have hn:=fun o=>I.new_none hbn o
 let g':Gh:={ g with σ:=fun k o=>if k=b then xs[o]? else g.σ k o }
 have hle:g.le g':=⟨fun k o u hu=>by
  by_cases e:k=b
  ·subst e;rw[hn o] at hu;cases hu
  ·simpa [g',e] using hu,fun k n h=>⟨h,rfl⟩⟩
 have hlt: ∀(k:Nat) (o:Ob) (b':Nat),ob[k]? =some o→g.at k o b'→b'<w.heap.size:=fun k o b' ho h=>((I.obs k o ho).at_lt h).2
 refine⟨g',hle,fun o=>by simp[g'],I.below.trans hb,fun k o hk hn'=>?_,fun k o u hu=>?_,fun k o ho=>?_,I.lim,fun k k' o o' b' hne ho ho' h=>?_,I.ext⟩
 ·have:¬k=b:=by have:=I.below.size;omega
  simpa [g',this] using I.old k o hk hn'
 ·by_cases e:k=b
  ·subst e
   simp only[g',if_true] at hu
   exact hc o u hu
  ·simp only[g',if_neg e] at hu
   rw[hb.cell (p:=⟨k,o,none⟩) (I.lt_of_σ hu)]
   exact I.con k o u hu
 ·refine(I.obs k o ho).mono hle rfl rfl (fun b' h=>⟨hb.block b' (hlt k o b' ho h),fun x=>?_⟩) hb.size
  have:=hlt k o b' ho h
  have:¬b'=b:=by omega
  simp[g',this]
 ·rw[Gh.at_mono hle (I.obs k o ho) rfl] at h
  rw[Gh.at_mono hle (I.obs k' o' ho') rfl]
  exact I.dis k k' o o' b' hne ho ho' h
section
variable {E:Env}{N:Nm}{Q:Exit→St→Prop}{S:St}{ops l:List Oper}{ty:TypeId}{pos:String}{after:Array Edge}{gd:Option (Nat×Bool)}{d:Nat}
theorem WL.bsD {t e:TypeId}{len:Nat}{parts:List (Nat×Operand)}{z:Nat}{rows:List (List D)}(hw:S.want ops ⟨some d,.buildSlice t len parts.toArray,ty,pos,after,gd⟩=some true)(hd:Nat.blt d N.n=true)
 (ht:(E.ty t).kind=.slice e) (he:(E.ty e).known=true) (hz:(E.ty e).size=z) (hz0:Nat.blt 0 z=true) (hlen:Nat.beq len parts.length=true) (hmax:Nat.ble (len*z) 16777216=true)
 (hrows:rowsOf S 0 parts=some rows) (hwd:widths z rows=true)
 (k:WL E.P N ops l Q ⟨(S.set d (.d (.sl z rows))).tm,S.ob⟩):WL E.P N ops (⟨some d,.buildSlice t len parts.toArray,ty,pos,after,gd⟩::l) Q S:=
 WL.eff (Nat.le_refl _) hw hd (fun w0 σ0 a w g R=>by
  obtain⟨xs,hrun,hown,h1,h2,h3⟩:=R.buildRun (d:=some d) (ty:=ty) (pos:=pos) (after:=after) (gd:=gd) ht he hz hz0 hlen hmax hrows hwd
  have hcell: ∀(o:Nat) (u:Value),xs[o]? =some u→(w.alloc (.cells xs.toArray e)).cell? ⟨w.heap.size,o,none⟩=some u:=fun o u hu=>by
   have:=hown.cells (by rfl) o u hu
   rwa [Addr.add_lit,Nat.zero_add] at this
  obtain⟨g',hle,hσ,I'⟩:=R.inv.known (below_alloc w _) w.heap.size xs (Nat.le_refl _) hcell
  refine⟨_,_,g',hrun,hle,I',.d _ _ ?_⟩
  have hlen:=hown.1
  have hin: ∀i j,i<rows.length→j<z→i*z+j<xs.length:=fun i j hi hj=>by
   rw[hlen]
   exact row_lt hi hj
  have hmx:rows.length≤maxLen:=by
   rcases hown.2 with⟨hv,_⟩|⟨b2,cap2,cur2,hv2,hb2,hh2,hc2,hm2,_⟩
   ·cases hv
   ·exact Nat.le_trans hc2 hm2
  refine .sl z rows w.heap.size 0 rows.length (fun i j=>(xs[i*z+j]?).getD undef) (Nat.le_refl _) hmx h1 (fun i j hi hj=>?_) (fun i j r x hr hx=>?_)
  ·have hlt:=hin i j hi hj
   rw[Nat.zero_add,hσ,List.getElem?_eq_getElem hlt]
   exact⟨rfl,h3 _ (List.getElem_mem hlt)⟩
  ·obtain⟨u,hu,hd⟩:=h2 i j r x hr hx
   rw[hu]
   exact hd.mono hle.σ) k
end
theorem rowsOf_agree {S S':St}(hob:S'.ob=S.ob): ∀(parts:List (Nat×Operand)) (i:Nat),(∀p∈parts,S'.ev p.2=S.ev p.2)→rowsOf S' i parts=rowsOf S i parts
 |[],i,_=>rfl
 |(j,x)::r,i,h=>by
  simp only[rowsOf]
  rw[h (j,x) (List.mem_cons_self ..),rowsOf_agree hob r (i+1) fun p hp=>h p (List.mem_cons_of_mem _ hp),hob]
section
variable {E:Env}{N:Nm}{K:St→Prop}{ops l:List Oper}{ty:TypeId}{pos:String}{after:Array Edge}{gd:Option (Nat×Bool)}{d:Nat}{tm:Nat→T}{ob:List Ob}
theorem WD.bs {t e:TypeId}{len:Nat}{parts:List (Nat×Operand)}{z:Nat}{rows:List (List D)}(hw:St.want ⟨tm,ob⟩ ops ⟨some d,.buildSlice t len parts.toArray,ty,pos,after,gd⟩=some true)(hd:Nat.blt d N.n=true)
 (ht:(E.ty t).kind=.slice e) (he:(E.ty e).known=true) (hz:(E.ty e).size=z) (hz0:Nat.blt 0 z=true) (hlen:Nat.beq len parts.length=true) (hmax:Nat.ble (len*z) 16777216=true)
 (hrows:rowsOf ⟨tm,ob⟩ 0 parts=some rows) (hwd:widths z rows=true)
 (k:WD E.P N ops ob K l (upd tm d (.d (.sl z rows)))):WD E.P N ops ob K (⟨some d,.buildSlice t len parts.toArray,ty,pos,after,gd⟩::l) tm:=
 .cons (.d (.sl z rows)) (fun tm' hag l Q k'=>WL.bsD (S:=⟨tm',ob⟩) (by rw[want_agree hag];exact hw) hd ht he hz hz0 hlen hmax (by
  rw[rowsOf_agree (S:=⟨tm,ob⟩) (S':=⟨tm',ob⟩) rfl parts 0 fun p hp=>ev_agree hag (by simp[Op.operands];exact⟨p.1,hp⟩)]
  exact hrows) hwd k') k
theorem WD.bs' {t e:TypeId}{len:Nat}{parts:List (Nat×Operand)}{z:Nat}{rows:List (List D)}(k:WD E.P N ops ob K l (upd tm d (.d (.sl z rows))))
 (hw:St.want ⟨tm,ob⟩ ops ⟨some d,.buildSlice t len parts.toArray,ty,pos,after,gd⟩=some true:=by exact rfl) (hd:Nat.blt d N.n=true:=by exact rfl) (ht:(E.ty t).kind=.slice e:=by exact rfl) (he:(E.ty e).known=true:=by exact rfl) (hz:(E.ty e).size=z:=by exact rfl) (hz0:Nat.blt 0 z=true:=by exact rfl) (hlen:Nat.beq len parts.length=true:=by exact rfl) (hmax:Nat.ble (len*z) 16777216=true:=by exact rfl) (hrows:rowsOf ⟨tm,ob⟩ 0 parts=some rows:=by exact rfl) (hwd:widths z rows=true:=by exact rfl):WD E.P N ops ob K (⟨some d,.buildSlice t len parts.toArray,ty,pos,after,gd⟩::l) tm:=
 WD.bs hw hd ht he hz hz0 hlen hmax hrows hwd k
end
section
variable {E:Env}{N:Nm}{Q:Exit→St→Prop}{S:St}{ops l:List Oper}{ty:TypeId}{pos:String}{after:Array Edge}{gd:Option (Nat×Bool)}{d:Nat}{tm:Nat→T}{ob:List Ob}{G:List Nat}
end
def onceE (ops:List Oper):Nat→List Oper→Bool
 |_,[]=>true
 |i,o::l=>
  (o.after.toList.all fun e=> !Region.binds .any e||Nat.blt e.on i)&&
  (match o.dst with|some d=> !(dstsOf l).elem d&&((List.range i).all fun j=>match ops[j]? with|some p=> !(p.looksAt ops.toArray).elem d||o.after.toList.any (fun e=>Region.binds .any e&&e.on==j)|none=>true)&& !(o.looksAt ops.toArray).elem d|none=>true)&&
  ((o.looksAt ops.toArray).all fun s=>((List.range i).all fun j=>match ops[j]? with|some p=> !(p.dst==some s)||o.after.toList.any (fun e=>Region.binds .any e&&e.on==j)|none=>true))&&
  onceE ops (i+1) l
theorem onceE_at {ops:List Oper}: ∀ {l:List Oper} {i:Nat},onceE ops i l=true→ ∀(k:Nat) (o:Oper),l[k]? =some o→
 (∀e∈o.after,Region.binds .any e=true→e.on<i+k)∧
 (∀d,o.dst=some d→(∀(j:Nat) (p:Oper),k<j→l[j]? =some p→p.dst≠some d)∧(∀(j:Nat) (p:Oper),j<i+k→ops[j]? =some p→d∈p.looksAt ops.toArray→ ∃e∈o.after,Region.binds .any e=true∧e.on=j)∧d∉o.looksAt ops.toArray)∧
 (∀s∈o.looksAt ops.toArray,∀(j:Nat) (p:Oper),j<i+k→ops[j]? =some p→p.dst=some s→ ∃e∈o.after,Region.binds .any e=true∧e.on=j)
 |[],i,_,k,o,hk=>by simp at hk
 |q::l,i,h,k,o,hk=>by
  simp only[onceE,Bool.and_eq_true] at h
  obtain⟨⟨⟨h1,h2⟩,h3⟩,h4⟩:=h
  cases k with
  |zero=>
   simp at hk
   subst hk
   refine⟨fun e he hb=>?_,fun d hd=>?_,fun s hs j p hj hp hps=>?_⟩
   ·have:=List.all_eq_true.1 h1 e (by simpa using he)
    rw[hb] at this
    simpa using this
   ·rw[hd] at h2
    simp only[Bool.and_eq_true,Bool.not_eq_true',List.elem_eq_mem,decide_eq_false_iff_not] at h2
    obtain⟨⟨g1,g2⟩,g3⟩:=h2
    refine⟨fun j p hj hp hpd=>g1 ?_,fun j p hj hp hm=>?_,g3⟩
    ·cases j with
     |zero=>omega
     |succ j=>exact List.mem_filterMap.2 ⟨p,List.mem_of_getElem? (by simpa using hp),hpd⟩
    ·have:=List.all_eq_true.1 g2 j (by simpa using hj)
     rw[hp] at this
     simp only[hm,decide_true,Bool.not_true,Bool.false_or,List.any_eq_true,Bool.and_eq_true,beq_iff_eq] at this
     obtain⟨e,he,hb,hj⟩:=this
     exact⟨e,by simpa using he,hb,hj⟩
   ·have:=List.all_eq_true.1 h3 s hs
    have:=List.all_eq_true.1 this j (by simpa using hj)
    rw[hp] at this
    simp only[hps,beq_self_eq_true,Bool.not_true,Bool.false_or,List.any_eq_true,Bool.and_eq_true,beq_iff_eq] at this
    obtain⟨e,he,hb,hj⟩:=this
    exact⟨e,by simpa using he,hb,hj⟩
  |succ k=>
   obtain⟨g1,g2,g3⟩:=onceE_at h4 k o (by simpa using hk)
   rw[show i+1+k=i+(k+1) by omega] at g1 g2 g3
   refine⟨g1,fun d hd=>?_,g3⟩
   obtain⟨p1,p2,p3⟩:=g2 d hd
   refine⟨fun j p hj hp=>?_,p2,p3⟩
   cases j with
   |zero=>omega
   |succ j=>exact p1 j p (by omega) (by simpa using hp)
open Classical in
noncomputable def knownE (ops:List Oper)(listed:Array Bool)(tm0 tmF:Nat→T)(s:Nat):T:=if ∃j p,ops[j]? =some p∧listed.getD j true=false∧p.dst=some s then tm0 s else tmF s
def AllF :List Nat→(Nat→Prop)→Prop
 |[],_=>True
 |f::r,p=>p f∧AllF r p
theorem AllF.at {p:Nat→Prop}: ∀ {l:List Nat},AllF l p→ ∀f∈l,p f
 |[],_,f,h=>by cases h
 |x::r,h,f,hf=>by
  rcases List.mem_cons.1 hf with rfl|hf
  ·exact h.1
  ·exact AllF.at h.2 f hf
def flM (done:Nat→Bool):List Nat→Nat→Nat
 |[],_=>0
 |e::r,w=>(bif done e then w else 0)+flM done r (2*w)
def edgeM (ms:List Nat):List Edge→Nat
 |[]=>0
 |e::r=>(bif Region.binds .any e then(1 <<< e.on) ||| ms.getD e.on 0 else 0) ||| edgeM ms r
def ancs :List Nat→List Oper→List Nat
 |ms,[]=>ms
 |ms,o::l=>ancs (ms++[edgeM ms o.after.toList]) l
def subs :List Nat→List (List Nat)
 |[]=>[[]]
 |e::r=>(subs r).flatMap fun s=>[s,e::s]
def consB (ms es:List Nat)(i:Nat)(s:List Nat):Bool:=
 !s.elem i&&(s.all fun e=> !(ms.getD e 0).testBit i&&es.all fun e'=> !(ms.getD e 0).testBit e'||s.elem e')&&(es.all fun e=> !(ms.getD i 0).testBit e||s.elem e)
def masksOK (ops:List Oper)(ms:List Nat):Bool:=(List.range ops.length).all fun i=>match ops[i]? with|some o=>ms.getD i 0==edgeM ms o.after.toList|none=>false
def possOK (ops:List Oper)(ms es:List Nat)(ps:List (Nat×List Nat)):Bool:=
 ps.length==ops.length&&(es.all fun e=>decide (e<ops.length))&&(List.range ops.length).all fun i=>match ps[i]? with
  |some (w,p)=>w==flM (fun e=>e==i) es 1&&(subs es).all fun s=> !consB ms es i s||p.elem (flM (fun e=>s.elem e) es 1)
  |none=>false
def dreOK (ops:List Oper)(es:List Nat)(ps:List (Nat×List Nat)):Bool:=
 onceE ops 0 ops&&masksOK ops (ancs [] ops)&&possOK ops (ancs [] ops) es ps
theorem flM_congr {d d':Nat→Bool}: ∀ {es:List Nat} {w:Nat},(∀e∈es,d e=d' e)→flM d es w=flM d' es w
 |[],_,_=>rfl
 |e::r,w,h=>by
  simp only[flM]
  rw[h e (List.mem_cons_self ..),flM_congr fun x hx=>h x (List.mem_cons_of_mem _ hx)]
theorem flM_add {d:Nat→Bool}{i:Nat}(hi:d i=false): ∀ {es:List Nat} {w:Nat},flM (fun e=>(e==i)||d e) es w=flM d es w+flM (fun e=>e==i) es w
 |[],_=>rfl
 |e::r,w=>by
  simp only[flM]
  rw[flM_add hi]
  by_cases h:e=i
  ·subst h;simp[hi];omega
  ·have:(e==i)=false:=by simpa using h
   simp[this];omega
theorem subs_filter (d:Nat→Bool): ∀es:List Nat,es.filter d∈subs es
 |[]=>by simp[subs]
 |e::r=>by
  simp only[subs,List.mem_flatMap,List.mem_cons,List.not_mem_nil,or_false]
  refine⟨r.filter d,subs_filter d r,?_⟩
  by_cases h:d e=true
  ·right;simp[h]
  ·left;simp[h]
section
variable {ops:List Oper}
theorem testBit_edgeM {ms:List Nat}{b:Nat}: ∀ {es:List Edge},(edgeM ms es).testBit b=true→ ∃e∈es,Region.binds .any e=true∧(e.on=b∨(ms.getD e.on 0).testBit b=true)
 |[],h=>by simp[edgeM] at h
 |e::r,h=>by
  simp only[edgeM,Nat.testBit_or,Bool.or_eq_true] at h
  rcases h with h|h
  ·cases hb:Region.binds .any e with
   |false=>rw[hb] at h;simp at h
   |true=>
    rw[hb] at h
    simp only[cond_true,Nat.testBit_or,Bool.or_eq_true] at h
    refine⟨e,List.mem_cons_self ..,hb,?_⟩
    rcases h with h|h
    ·left
     rw[Nat.one_shiftLeft,Nat.testBit_two_pow] at h
     simpa using h
    ·exact .inr h
  ·obtain⟨x,hx,h⟩:=testBit_edgeM h
   exact⟨x,List.mem_cons_of_mem _ hx,h⟩
theorem anc_done {ms:List Nat}(hm:masksOK ops ms=true)(ho:onceE ops 0 ops=true){d:Nat→Bool}(hcl: ∀(k:Nat) (o:Oper),ops[k]? =some o→d k=true→ ∀e∈o.after,Region.binds .any e=true→d e.on=true):
 ∀(i:Nat) (o:Oper),ops[i]? =some o→(∀e∈o.after,Region.binds .any e=true→d e.on=true)→ ∀b,(ms.getD i 0).testBit b=true→d b=true:=by
 intro i
 induction i using Nat.strongRecOn with
 |_ i ih=>
  intro o hoi hd b hb
  have hlt:=(List.getElem?_eq_some_iff.1 hoi).1
  have h1:=List.all_eq_true.1 hm i (by simpa using hlt)
  rw[hoi] at h1
  simp only[beq_iff_eq] at h1
  rw[h1] at hb
  obtain⟨e,he,hbi,h⟩:=testBit_edgeM hb
  have he':e∈o.after:=by simpa using he
  have hde:=hd e he' hbi
  rcases h with h|h
  ·rw[←h];exact hde
  ·have hlt2:=(onceE_at ho i o hoi).1 e he' hbi
   rw[Nat.zero_add] at hlt2
   obtain⟨o2,ho2⟩: ∃o2,ops[e.on]? =some o2:=⟨_,List.getElem?_eq_getElem (by omega)⟩
   exact ih e.on hlt2 o2 ho2 (hcl e.on o2 ho2 hde) b h
theorem poss_at {es:List Nat}{ps:List (Nat×List Nat)}(hk:dreOK ops es ps=true){d:Nat→Bool}(hcl: ∀(k:Nat) (o:Oper),ops[k]? =some o→d k=true→ ∀e∈o.after,Region.binds .any e=true→d e.on=true)
 {i:Nat} {o:Oper} (hoi:ops[i]? =some o) (hdi:d i=false) (hde: ∀e∈o.after,Region.binds .any e=true→d e.on=true):
 ∃w p,ps[i]? =some (w,p)∧w=flM (fun e=>e==i) es 1∧flM d es 1∈p:=by
 simp only[dreOK,possOK,Bool.and_eq_true] at hk
 obtain⟨⟨ho,hm⟩,⟨hl,hes⟩,hp⟩:=hk
 have hlt:=(List.getElem?_eq_some_iff.1 hoi).1
 have h1:=List.all_eq_true.1 hp i (by simpa using hlt)
 have hanc:=fun k o h1 h2=>anc_done hm ho hcl k o h1 h2
 cases hps:ps[i]? with
 |none=>rw[hps] at h1;cases h1
 |some wp=>
  obtain⟨w,p⟩:=wp
  rw[hps] at h1
  simp only[Bool.and_eq_true,beq_iff_eq] at h1
  refine⟨w,p,rfl,h1.1,?_⟩
  have h2:=List.all_eq_true.1 h1.2 (es.filter d) (subs_filter d es)
  have hmem: ∀e∈es,(es.filter d).elem e=d e:=fun e he=>by
   rw[Bool.eq_iff_iff,List.elem_eq_mem,decide_eq_true_eq,List.mem_filter]
   exact⟨fun h=>h.2,fun h=>⟨he,h⟩⟩
  have hcons:consB (ancs [] ops) es i (es.filter d)=true:=by
   unfold consB
   simp only[Bool.and_eq_true,Bool.not_eq_true']
   refine⟨⟨?_,?_⟩,?_⟩
   ·cases h:(es.filter d).elem i with
    |false=>rfl
    |true=>
     rw[List.elem_eq_mem,decide_eq_true_eq,List.mem_filter] at h
     rw[hdi] at h;cases h.2
   ·refine List.all_eq_true.2 fun e he=>?_
    obtain⟨he1,he2⟩:=List.mem_filter.1 he
    have helt:e<ops.length:=by simpa using List.all_eq_true.1 hes e he1
    have hoe:ops[e]? =some ops[e]:=List.getElem?_eq_getElem helt
    have hA:=hanc e _ hoe (hcl e _ hoe he2)
    simp only[Bool.and_eq_true,Bool.not_eq_true']
    refine⟨?_,List.all_eq_true.2 fun e' he'=>?_⟩
    ·cases h:((ancs [] ops).getD e 0).testBit i with
     |false=>rfl
     |true=>rw[hA i h] at hdi;cases hdi
    ·cases h:((ancs [] ops).getD e 0).testBit e' with
     |false=>rfl
     |true=>rw[hmem e' he',hA e' h];rfl
   ·refine List.all_eq_true.2 fun e he=>?_
    cases h:((ancs [] ops).getD i 0).testBit e with
    |false=>rfl
    |true=>rw[hmem e he,hanc i o hoi hde e h];rfl
  rw[hcons] at h2
  simp only[Bool.not_true,Bool.false_or] at h2
  have h2:=List.mem_of_elem_eq_true h2
  rw[flM_congr (d:=d) (d':=fun e=>(es.filter d).elem e) fun e he=>(hmem e he).symm]
  exact h2
end
def OpSe (P:Program)(N:Nm)(ops:List Oper)(obF:Nat→List Ob)(w:Nat)(p:List Nat)(o:Oper)(tm:Nat→T)(t:T):Prop:=
 ∀f∈p,∀tm':Nat→T,(∀s∈o.looksAt ops.toArray,tm' s=tm s)→ ∀(l:List Oper) (Q:Exit→St→Prop),WL P N ops l Q ⟨updO tm' o.dst t,obF (f+w)⟩→WL P N ops (o::l) Q ⟨tm',obF f⟩
inductive WE (P:Program) (N:Nm) (ops:List Oper) (obF:Nat→List Ob) (K:(Nat→T)→Prop):List (Nat×List Nat)→List Oper→(Nat→T)→Prop
 |nil {tm} (h:K tm):WE P N ops obF K [] [] tm
 |cons {w p ps o l tm} (t:T) (h:OpSe P N ops obF w p o tm t) (k:WE P N ops obF K ps l (updO tm o.dst t)):WE P N ops obF K ((w,p)::ps) (o::l) tm
inductive ChainE (P:Program) (N:Nm) (ops:List Oper) (obF:Nat→List Ob):List (Nat×List Nat)→List Oper→(Nat→T)→(Nat→T)→Prop
 |nil {tm}:ChainE P N ops obF [] [] tm tm
 |cons {w p ps o l tm tmF} (t:T) (h:OpSe P N ops obF w p o tm t) (k:ChainE P N ops obF ps l (updO tm o.dst t) tmF):ChainE P N ops obF ((w,p)::ps) (o::l) tm tmF
section
variable {P:Program}{N:Nm}{ops:List Oper}{obF:Nat→List Ob}
theorem WE.chain {K:(Nat→T)→Prop}{ps:List (Nat×List Nat)}{l:List Oper}{tm:Nat→T}(h:WE P N ops obF K ps l tm): ∃tmF,ChainE P N ops obF ps l tm tmF∧K tmF:=by
 induction h with
 |nil h=>exact⟨_,.nil,h⟩
 |cons t h k ih=>
  obtain⟨tmF,h1,h2⟩:=ih
  exact⟨tmF,.cons t h h1,h2⟩
theorem ChainE.keeps {ps:List (Nat×List Nat)}{l:List Oper}{tm tmF:Nat→T}(h:ChainE P N ops obF ps l tm tmF): ∀s,s∉dstsOf l→tmF s=tm s:=by
 induction h with
 |nil=>intro s _;rfl
 |cons t h k ih=>
  rename_i w p ps o l tm tmF
  intro s hs
  have hs':s∉dstsOf l:=fun hm=>hs (by
   obtain⟨p,hp,hd⟩:=List.mem_filterMap.1 hm
   exact List.mem_filterMap.2 ⟨p,List.mem_cons_of_mem _ hp,hd⟩)
  rw[ih s hs']
  cases hd:o.dst with
  |none=>rfl
  |some d=>
   have:s≠d:=fun e=>hs (List.mem_filterMap.2 ⟨o,List.mem_cons_self ..,by rw[hd,e]⟩)
   simp[updO,upd,nbeq this]
theorem ChainE.at : ∀ {ps:List (Nat×List Nat)} {l:List Oper} {i:Nat} {tm tmF:Nat→T},ChainE P N ops obF ps l tm tmF→onceE ops i l=true→ ∀(k:Nat) (o:Oper) (w:Nat) (p:List Nat),l[k]? =some o→ps[k]? =some (w,p)→
 ∃tmi,OpSe P N ops obF w p o tmi (match o.dst with|some d=>tmF d|none=>.any)∧(∀s,s∉dstsOf (l.drop k)→tmi s=tmF s)∧(∀s,s∉dstsOf (l.take k)→tmi s=tm s)
 |_,_,_,_,_,.nil,_,k,o,_,_,hk,_=>by simp at hk
 |(w',p')::ps,q::l,i,tm,tmF,.cons t h c,ho,k,o,w,p,hk,hpk=>by
  have ho':=ho
  simp only[onceE,Bool.and_eq_true] at ho'
  cases k with
  |succ k=>
   obtain⟨tmi,h1,h2,h3⟩:=ChainE.at c ho'.2 k o w p (by simpa using hk) (by simpa using hpk)
   refine⟨tmi,h1,h2,fun s hs=>?_⟩
   have hs1:s∉dstsOf (l.take k):=fun hm=>hs (by
    obtain⟨p,hp,hd⟩:=List.mem_filterMap.1 hm
    exact List.mem_filterMap.2 ⟨p,by rw[List.take_succ_cons];exact List.mem_cons_of_mem _ hp,hd⟩)
   rw[h3 s hs1]
   cases hd:q.dst with
   |none=>rfl
   |some d=>
    have:s≠d:=fun e=>hs (List.mem_filterMap.2 ⟨q,by rw[List.take_succ_cons];exact List.mem_cons_self ..,by rw[hd,e]⟩)
    simp[updO,upd,nbeq this]
  |zero=>
   simp at hk hpk
   obtain⟨rfl,rfl⟩:=hpk
   subst hk
   obtain⟨_,g2,_⟩:=onceE_at ho 0 q rfl
   refine⟨tm,?_,fun s hs=>?_,fun s _=>rfl⟩
   ·intro f hf tm' hag l' Q k'
    refine h f hf tm' hag l' Q ?_
    cases hd:q.dst with
    |none=>rw[hd] at k';exact k'
    |some d=>
     rw[hd] at k'
     have:tmF d=t:=by
      rw[c.keeps d fun hm=>?_]
      ·rw[hd];simp[updO,upd]
      ·obtain⟨p,hp,hpd⟩:=List.mem_filterMap.1 hm
       obtain⟨j,hj⟩:=List.getElem?_of_mem hp
       exact(g2 d hd).1 (j+1) p (by omega) (by simpa using hj) hpd
     simp only[this] at k'
     exact k'
   ·exact((ChainE.cons t h c).keeps s (by simpa using hs)).symm
def doneF (listed:Array Bool)(i:Nat):Bool:=listed.getD i false
theorem wpAny_chainE {es:List Nat}{ps:List (Nat×List Nat)}{Q:Exit→St→Prop}{tm tmF:Nat→T}(hc:ChainE P N ops obF ps ops tm tmF)(hk:dreOK ops es ps=true)(hQ:Q .normal ⟨tmF,obF (flM (fun _=>true) es 1)⟩){w0:World}{σ0:Bs}:
 ∀(fuel:Nat) (listed:Array Bool) (a:Act) (w:World),listed.size=ops.length→unl ops.length listed=fuel→(∀(k:Nat) (o:Oper),ops[k]? =some o→doneF listed k=true→ ∀e∈o.after,Region.binds .any e=true→doneF listed e.on=true)→
  (∃g,Rel N w0 σ0 ⟨knownE ops listed tm tmF,obF (flM (doneF listed) es 1)⟩ a w g)→
  wpAny P .any ops.toArray (lift N w0 σ0 Q) fuel listed a w:=by
 have ho:onceE ops 0 ops=true:=by
  simp only[dreOK,Bool.and_eq_true] at hk
  exact hk.1.1
 have hes: ∀e∈es,e<ops.length:=by
  simp only[dreOK,possOK,Bool.and_eq_true] at hk
  exact fun e he=>by simpa using List.all_eq_true.1 hk.2.1.2 e he
 intro fuel
 have hready: ∀(listed:Array Bool) (i:Nat),i∈Region.ready .any ops.toArray listed→ ∃o,ops[i]? =some o∧listed.getD i true=false∧ ∀e∈o.after,Region.binds .any e=true→listed.getD e.on false=true:=fun listed i hi=>by
  simp only[Region.ready,List.mem_filter,List.mem_range,Bool.and_eq_true,Bool.not_eq_true'] at hi
  obtain⟨h1,h2,h3⟩:=hi
  have hlt:i<ops.length:=by simpa using h1
  refine⟨ops[i],List.getElem?_eq_getElem hlt,h2,fun e he hb=>?_⟩
  rw[show ops.toArray[i]? =some ops[i] by simp[hlt]] at h3
  simp only[Option.map_some,Option.getD_some] at h3
  have:=Array.all_eq_true'.1 h3 e he
  rw[hb] at this
  simpa using this
 have hall: ∀(listed:Array Bool),listed.size=ops.length→Region.ready .any ops.toArray listed=[]→ ∀i,i<ops.length→listed.getD i true=true:=fun listed hs hr=>by
  intro i
  induction i using Nat.strongRecOn with
  |_ i ih=>
   intro hi
   by_cases hu:listed.getD i true=true
   ·exact hu
   ·have hu':listed.getD i true=false:=by simpa using hu
    have:i∈Region.ready .any ops.toArray listed:=by
     simp only[Region.ready,List.mem_filter,List.mem_range,Bool.and_eq_true,Bool.not_eq_true']
     refine⟨by simpa using hi,hu',?_⟩
     rw[show ops.toArray[i]? =some ops[i] by simp[hi]]
     simp only[Option.map_some,Option.getD_some]
     refine Array.all_eq_true'.2 fun e he=>?_
     cases hb:Region.binds .any e with
     |false=>rfl
     |true=>
      have hlt:=(onceE_at ho i ops[i] (List.getElem?_eq_getElem hi)).1 e he hb
      rw[Nat.zero_add] at hlt
      have h2:=ih e.on hlt (by omega)
      have:e.on<listed.size:=by omega
      simp[Array.getD_eq_getD_getElem?,this] at h2 ⊢
      exact h2
    rw[hr] at this;cases this
 have hdone: ∀(listed:Array Bool) (a:Act) (w:World),listed.size=ops.length→Region.ready .any ops.toArray listed=[]→(∃g,Rel N w0 σ0 ⟨knownE ops listed tm tmF,obF (flM (doneF listed) es 1)⟩ a w g)→lift N w0 σ0 Q .normal a w:=fun listed a w hs hr ⟨g,r⟩=>by
  have h1:knownE ops listed tm tmF=tmF:=by
   funext s
   unfold knownE
   rw[if_neg]
   rintro⟨j,p,hj,hu,_⟩
   rw[hall listed hs hr j (List.getElem?_eq_some_iff.1 hj).1] at hu
   cases hu
  have h2:flM (doneF listed) es 1=flM (fun _=>true) es 1:=flM_congr fun e he=>by
   have hlt:=hes e he
   have:=hall listed hs hr e hlt
   have h3:e<listed.size:=by omega
   simp[doneF,Array.getD_eq_getD_getElem?,h3] at this ⊢
   exact this
  rw[h1,h2] at r
  exact⟨_,g,hQ,r⟩
 induction fuel with
 |zero=>
  intro listed a w hs hu hcl hr
  have hnil:Region.ready .any ops.toArray listed=[]:=by
   cases h:Region.ready .any ops.toArray listed with
   |nil=>rfl
   |cons i l=>
    obtain⟨o,ho',hu',_⟩:=hready listed i (by rw[h];exact List.mem_cons_self ..)
    have hlt:=(List.getElem?_eq_some_iff.1 ho').1
    have:=unl_set hlt (by omega) hu'
    omega
  exact⟨hnil,hdone listed a w hs hnil hr⟩
 |succ fuel ih=>
  intro listed a w hs hu hcl hr
  refine⟨fun hnil=>hdone listed a w hs hnil hr,fun i hi=>?_⟩
  obtain⟨o,hoi,hui,hdep⟩:=hready listed i hi
  have hlt:=(List.getElem?_eq_some_iff.1 hoi).1
  obtain⟨g1,g2,g3⟩:=onceE_at ho i o hoi
  have hdi:doneF listed i=false:=by
   have:i<listed.size:=by omega
   simp[doneF,Array.getD_eq_getD_getElem?,this] at hui ⊢
   exact hui
  obtain⟨wi,pi,hpi,hwi,hfi⟩:=poss_at hk hcl hoi hdi hdep
  obtain⟨tmi,hst,hst1,hst2⟩:=ChainE.at hc ho i o wi pi hoi hpi
  have hag: ∀s∈o.looksAt ops.toArray,knownE ops listed tm tmF s=tmi s:=fun s hs'=>by
   unfold knownE
   by_cases hu: ∃j p,ops[j]? =some p∧listed.getD j true=false∧p.dst=some s
   ·rw[if_pos hu]
    obtain⟨j,p,hj,huj,hps⟩:=hu
    refine(hst2 s fun hm=>?_).symm
    obtain⟨q,hq,hqs⟩:=List.mem_filterMap.1 hm
    obtain⟨j',hj'⟩:=List.getElem?_of_mem hq
    rw[List.getElem?_take] at hj'
    split at hj'
    ·rename_i hlt'
     have hjj:j=j':=by
      rcases Nat.lt_trichotomy j j' with h|h|h
      ·exact absurd hqs (((onceE_at ho j p hj).2.1 s hps).1 j' q h hj')
      ·exact h
      ·exact absurd hps (((onceE_at ho j' q hj').2.1 s hqs).1 j p h hj)
     subst hjj
     obtain⟨e,he,hb,hej⟩:=g3 s hs' j q (by omega) hj' hqs
     have h2:=hdep e he hb
     rw[hej] at h2
     have:j<listed.size:=by have:=(List.getElem?_eq_some_iff.1 hj).1;omega
     simp[Array.getD_eq_getD_getElem?,this] at huj h2
     rw[huj] at h2;cases h2
    ·cases hj'
   ·rw[if_neg hu]
    refine(hst1 s fun hm=>?_).symm
    obtain⟨q,hq,hqs⟩:=List.mem_filterMap.1 hm
    obtain⟨j',hj'⟩:=List.getElem?_of_mem hq
    rw[List.getElem?_drop] at hj'
    by_cases e0:j'=0
    ·subst e0
     rw[Nat.add_zero,hoi] at hj'
     cases hj'
     exact(g2 s hqs).2.2 hs'
    ·obtain⟨e,he,hb,hej⟩:=((onceE_at ho (i+j') q hj').2.1 s hqs).2.1 i o (by omega) hoi hs'
     have hlt2:=(List.getElem?_eq_some_iff.1 hj').1
     have hd1:doneF listed (i+j')=true:=by
      have hl2:i+j'<listed.size:=by omega
      cases hh:listed.getD (i+j') true with
      |false=>exact absurd ⟨i+j',q,hj',hh,hqs⟩ hu
      |true=>simp[doneF,Array.getD_eq_getD_getElem?,hl2] at hh ⊢;exact hh
     have:=hcl (i+j') q hj' hd1 e he hb
     rw[hej,hdi] at this
     cases this
  obtain⟨g,r⟩:=hr
  have hset: ∀j,(listed.setIfInBounds i true).getD j true=if i=j then true else listed.getD j true:=fun j=>by
   simp only[Array.getD_eq_getD_getElem?,Array.getElem?_setIfInBounds]
   by_cases e:i=j
   ·subst e
    have:i<listed.size:=by omega
    simp[this]
   ·simp[e]
  have hset2: ∀j,doneF (listed.setIfInBounds i true) j=((j==i)||doneF listed j):=fun j=>by
   simp only[doneF,Array.getD_eq_getD_getElem?,Array.getElem?_setIfInBounds]
   by_cases e:i=j
   ·subst e
    have:i<listed.size:=by omega
    simp[this]
   ·have e2:(j==i)=false:=by simpa using fun h=>e h.symm
    simp[e,e2]
  have hfl:flM (doneF (listed.setIfInBounds i true)) es 1=flM (doneF listed) es 1+wi:=by
   rw[flM_congr (d':=fun e=>(e==i)||doneF listed e) fun e _=>hset2 e,flM_add hdi,←hwi]
  let S2:St:=⟨updO (knownE ops listed tm tmF) o.dst (match o.dst with|some d=>tmF d|none=>.any),obF (flM (doneF listed) es 1+wi)⟩
  have h1:=hst _ hfi (knownE ops listed tm tmF) hag [] (fun e S=>e=.normal∧S=S2) (fun _ _ _ _ g r=>⟨_,g,⟨rfl,rfl⟩,r⟩)
  have h2:=h1 w0 σ0 a w g r
  unfold wpList at h2
  have next: ∀a' w',(∃S g,(Exit.normal=.normal∧S=S2)∧Rel N w0 σ0 S a' w' g)→wpAny P .any ops.toArray (lift N w0 σ0 Q) fuel (listed.setIfInBounds i true) a' w':=fun a' w' ⟨S,g',⟨_,hS⟩,r'⟩=>by
   subst hS
   refine ih _ a' w' (by simpa using hs) (by have:=unl_set hlt (by omega) hui;omega) (fun k o' hk' hd' e he hb=>?_) ⟨g',?_⟩
   ·rw[hset2] at hd' ⊢
    by_cases e1:k=i
    ·subst e1
     rw[hk'] at hoi;cases hoi
     have:=hdep e he hb
     simp only[Bool.or_eq_true]
     exact .inr this
    ·have e2:(k==i)=false:=by simpa using e1
     rw[e2,Bool.false_or] at hd'
     simp only[Bool.or_eq_true]
     exact .inr (hcl k o' hk' hd' e he hb)
   rw[hfl]
   refine⟨r'.inv,r'.defers,r'.size,r'.hm,r'.hl,fun s=>?_⟩
   show RT g' (knownE ops (listed.setIfInBounds i true) tm tmF s) _
   by_cases hk: ∃j p,ops[j]? =some p∧(listed.setIfInBounds i true).getD j true=false∧p.dst=some s
   ·have hk0:=hk
    obtain⟨j,p,hj,huj,hps⟩:=hk
    have hji:j≠i:=fun e=>by
     subst e
     have hl2:j<listed.size:=by have:=(List.getElem?_eq_some_iff.1 hj).1;omega
     simp[Array.getD_eq_getD_getElem?,hl2] at huj
    have e1:knownE ops (listed.setIfInBounds i true) tm tmF s=tm s:=by unfold knownE;rw[if_pos hk0]
    have huj2:listed.getD j true=false:=by
     rw[hset,if_neg fun e=>hji e.symm] at huj
     exact huj
    have e2:S2.tm s=tm s:=by
     have e3:knownE ops listed tm tmF s=tm s:=by unfold knownE;rw[if_pos ⟨j,p,hj,huj2,hps⟩]
     cases hd:o.dst with
     |none=>simp only[S2,hd,updO];exact e3
     |some d=>
      have:s≠d:=fun e=>by
       subst e
       rcases Nat.lt_trichotomy j i with h|h|h
       ·exact absurd hd (((onceE_at ho j p hj).2.1 s hps).1 i o h hoi)
       ·exact hji h
       ·exact absurd hps (((onceE_at ho i o hoi).2.1 s hd).1 j p h hj)
      simp only[S2,hd,updO,upd,nbeq this,cond_false]
      exact e3
    have:=r'.tm s
    rw[e2] at this
    rw[e1]
    exact this
   ·have e1:knownE ops (listed.setIfInBounds i true) tm tmF s=tmF s:=by unfold knownE;rw[if_neg hk]
    rw[e1]
    have:=r'.tm s
    cases hd:o.dst with
    |none=>
     have e2:S2.tm s=tmF s:=by
      simp only[S2,hd,updO]
      unfold knownE
      rw[if_neg]
      rintro⟨j,p,hj,huj,hps⟩
      refine hk ⟨j,p,hj,?_,hps⟩
      rw[hset]
      by_cases e:i=j
      ·subst e;rw[hj] at hoi;cases hoi;rw[hd] at hps;cases hps
      ·rw[if_neg e];exact huj
     rwa [e2] at this
    |some d=>
     have e2:S2.tm s=tmF s:=by
      simp only[S2,hd,updO]
      by_cases e:s=d
      ·subst e;simp[upd]
      ·simp only[upd,nbeq e,cond_false]
       unfold knownE
       rw[if_neg]
       rintro⟨j,p,hj,huj,hps⟩
       refine hk ⟨j,p,hj,?_,hps⟩
       rw[hset]
       by_cases e':i=j
       ·subst e';rw[hj] at hoi;cases hoi;rw[hd] at hps;cases hps;exact(e rfl).elim
       ·rw[if_neg e'];exact huj
     rwa [e2] at this
  unfold wpOp
  simp only[show ops.toArray[i]? =some o by simpa using hoi]
  split at h2
  ·rename_i hw
   rw[if_pos hw]
   rcases h2 with h2|⟨_,a',w',S,g',⟨he,_⟩,_⟩
   ·left
    have h3:=Oper.wp_mono (K':=wpAny P .any ops.toArray (lift N w0 σ0 Q) fuel (listed.setIfInBounds i true)) next h2
    unfold Oper.wp at h3 ⊢
    generalize (execOp a.eval o).run P w=res at h3 ⊢
    cases res with
    |ok n w'=>
     cases n<;>simp only[Oper.upon] at h3 ⊢ <;>
      first
       |exact h3
       |exact Calls.mono h3 (fun e w'' he=>by
         cases e with
         |returned v=>exact he
         |panicked ch=>obtain⟨S,g,⟨h,_⟩,_⟩:=he;cases h
         |outgrown=>obtain⟨_,_,S,g,⟨h,_⟩,_⟩:=he;cases h)
       |(obtain⟨S,g,⟨h,_⟩,_⟩:=h3;cases h;done)
       |(obtain⟨_,_,S,g,⟨h,_⟩,_⟩:=h3;cases h;done)
    |halt x w'=>
     cases x<;>simp only[Oper.upon] at h3 ⊢ <;>
      first
       |exact h3
       |(obtain⟨S,g,⟨h,_⟩,_⟩:=h3;cases h;done)
       |(obtain⟨_,_,S,g,⟨h,_⟩,_⟩:=h3;cases h;done)
   ·cases he
  ·rename_i hw
   rw[if_neg hw]
   exact next _ _ h2
end
theorem W.dre {P:Program}{N:Nm}{id:Nat}{l:List Oper}{Q:Exit→St→Prop}{tm:Nat→T}{ob:List Ob}(es:List Nat)(obF:Nat→List Ob)(ps:List (Nat×List Nat))(hm:P.follows .mixedOrders=true)(hk:dreOK l es ps=true)(h0:obF 0=ob)
 (h:WE P N l obF (fun tm'=>Q .normal ⟨tm',obF (flM (fun _=>true) es 1)⟩) ps l tm):W P N (.region id l.toArray true) Q ⟨tm,ob⟩:=fun w0 σ0 a w g r=>by
 subst h0
 obtain⟨tmF,hc,hQ⟩:=h.chain
 refine wp_region_any hm ?_
 have hsz:(Array.replicate l.toArray.size false).size=l.length:=by simp
 have hun:unl l.length (Array.replicate l.toArray.size false)=l.toArray.size:=by
  unfold unl
  rw[List.filter_eq_self.2]
  ·simp
  ·intro i hi
   have:i<l.length:=by simpa using hi
   simp[Array.getD_eq_getD_getElem?,this]
 have hdn: ∀i,doneF (Array.replicate l.toArray.size false) i=false:=fun i=>by
  simp only[doneF,Array.getD_eq_getD_getElem?,Array.getElem?_replicate]
  split<;>rfl
 have hf0:flM (doneF (Array.replicate l.toArray.size false)) es 1=0:=by
  have: ∀(es:List Nat) (w:Nat),flM (doneF (Array.replicate l.toArray.size false)) es w=0:=by
   intro es
   induction es with
   |nil=>intro w;rfl
   |cons e r ih=>intro w;simp only[flM,hdn,ih];rfl
  exact this es 1
 refine wpAny_chainE hc hk hQ l.toArray.size _ a _ hsz hun (fun k o _ hd=>by rw[hdn] at hd;cases hd) ⟨g,?_⟩
 rw[hf0]
 have r2:Rel N w0 σ0 ⟨tm,obF 0⟩ a { w with drawn:=w.drawn+1 } g:=r.later ((Below.refl _ w).drew)
 refine⟨r2.inv,r2.defers,r2.size,r2.hm,r2.hl,fun s=>?_⟩
 show RT g (knownE l (Array.replicate l.toArray.size false) tm tmF s) _
 by_cases hk:s∈dstsOf l
 ·obtain⟨p,hp,hd⟩:=List.mem_filterMap.1 hk
  obtain⟨j,hj⟩:=List.getElem?_of_mem hp
  have:j<l.length:=(List.getElem?_eq_some_iff.1 hj).1
  have e1:knownE l (Array.replicate l.toArray.size false) tm tmF s=tm s:=by
   unfold knownE
   rw[if_pos ⟨j,p,hj,by simp[Array.getD_eq_getD_getElem?,this],hd⟩]
  rw[e1]
  exact r2.tm s
 ·have e1:knownE l (Array.replicate l.toArray.size false) tm tmF s=tm s:=by
   unfold knownE
   rw[if_neg,hc.keeps s hk]
   rintro⟨j,p,hj,_,hps⟩
   exact hk (List.mem_filterMap.2 ⟨p,List.mem_of_getElem? hj,hps⟩)
  rw[e1]
  exact r2.tm s
end Go.Proofs.YtmmjbpgdkokjgaaGreatDoor
