/-
  A text of this claim. Conditions: none.
-/
import Derived.Test.YtmmjbpgdkokjgaaGreatDoorQLV2
import Derived.Test.YtmmjbpgdkokjgaaGreatDoorQLCp2
import Derived.Test.YtmmjbpgdkokjgaaGreatDoorQLTr4
set_option linter.unusedVariables false
set_option linter.unusedSimpArgs false
set_option maxRecDepth 100000
set_option maxHeartbeats 16000000
namespace Go.Proofs.YtmmjbpgdkokjgaaGreatDoor
open Go.RowKit
section
variable {w0:World}{σ0:Bs}{ob:List Ob}{w:World}{g:Gh}
theorem Inv.turnIn (I:Inv w0 σ0 ob w g){w':World}{g':Gh}{k K:Nat}{o p o':Ob}(hkK:k≠K)(hk:ob[k]? =some o)(hK:ob[K]? =some p)(hnp: ∀z e rows n,o≠ .gr z e rows n true)(h0:0<g.lim k)(hle:g.le g')(hσ:g'.σ=g.σ)
 (hoj: ∀j,j≠k→g'.lim j=g.lim j∧g'.foot j=g.foot j) (hos:w'.os=w.os) (htape:w'.tape=w.tape) (hout:w'.output=w.output) (hsize:w.heap.size≤w'.heap.size)
 (hoth: ∀b,b<w.heap.size→¬g.at k o b→w'.heap[b]? =w.heap[b]?) (hok:ObOK (mineB w0 σ0) g' w' k o') (hat: ∀b,g'.at k o' b→g.at k o b∨g.at K p b∨w.heap.size≤b):
 Inv w0 σ0 ((ob.set k o').set K .dead) w' g':=by
 have hlt:k<ob.length:=(List.getElem?_eq_some_iff.1 hk).1
 have hltK:K<ob.length:=(List.getElem?_eq_some_iff.1 hK).1
 have hmine:=fun b hb=>(I.obs k o hk).at_lt (b:=b) hb
 have hget: ∀(j:Nat) (q:Ob),((ob.set k o').set K .dead)[j]? =some q→(j=k∧q=o')∨(j=K∧q=.dead)∨(j≠k∧j≠K∧ob[j]? =some q):=fun j q hq=>by
  by_cases hj:K=j
  ·subst hj
   rw[List.getElem?_set_self (by simpa using hltK)] at hq
   exact .inr (.inl ⟨rfl,(Option.some.inj hq).symm⟩)
  ·rw[List.getElem?_set_ne hj] at hq
   by_cases hj2:k=j
   ·subst hj2
    rw[List.getElem?_set_self hlt] at hq
    exact .inl ⟨rfl,(Option.some.inj hq).symm⟩
   ·rw[List.getElem?_set_ne hj2] at hq
    exact .inr (.inr ⟨fun h=>hj2 h.symm,fun h=>hj h.symm,hq⟩)
 refine⟨I.below.then hos htape hout hsize fun b hb hn=>hoth b (Nat.lt_of_lt_of_le hb I.below.size) fun h=>?_,fun b x hb hn=>by rw[hσ];exact I.old b x hb hn,fun b x u hu=>?_,fun j q hq=>?_,fun j hj=>?_,fun i j q q' b hne hq hq' hb=>?_,fun j hj=>?_⟩
 ·rcases(hmine b h).1 with h|h
  ·omega
  ·exact hn h
 ·rw[hσ] at hu
  have hn:¬g.at k o b:=fun h=>by rw[(I.obs k o hk).hid hnp h x] at hu;cases hu
  rw[World.cell?_of_block (w:=w) (w':=w') (hoth b (I.lt_of_σ hu) hn)]
  exact I.con b x u hu
 ·rcases hget j q hq with⟨rfl,rfl⟩|⟨rfl,rfl⟩|⟨hj,_,hq⟩
  ·exact hok
  ·trivial
  ·exact(I.obs j q hq).mono hle (hoj j hj).1 (hoj j hj).2 (fun b hbk=>⟨hoth b ((I.obs j q hq).at_lt hbk).2 fun h=>I.dis k j o q b (fun e=>hj e.symm) hk hq h hbk,fun x=>by rw[hσ]⟩) hsize
 ·have hj2:ob.length≤j:=by simpa using hj
  rw[(hoj j (by omega)).1]
  exact I.lim j hj2
 ·have same: ∀(j:Nat) (q:Ob) (b:Nat),j≠k→ob[j]? =some q→g'.at j q b→g.at j q b:=fun j q b hj hq hb=>by
   rwa [Gh.at_mono hle (I.obs j q hq) (hoj j hj).2] at hb
  intro hb'
  rcases hget i q hq with⟨h1,h2⟩|⟨h1,h2⟩|⟨hi,hiK,hq2⟩
  ·subst h1 h2
   rcases hget j q' hq' with⟨h3,h4⟩|⟨h3,h4⟩|⟨hj,hjK,hq2'⟩
   ·exact hne h3.symm
   ·subst h4;exact hb'
   ·have h5:=same j q' b hj hq2' hb'
    rcases hat b hb with h|h|h
    ·exact I.dis _ j o q' b hne hk hq2' h h5
    ·exact I.dis K j p q' b (fun e=>hjK e.symm) hK hq2' h h5
    ·have:=((I.obs j q' hq2').at_lt h5).2;omega
  ·subst h2;exact hb
  ·have h6:=same i q b hi hq2 hb
   rcases hget j q' hq' with⟨h3,h4⟩|⟨h3,h4⟩|⟨hj,hjK,hq2'⟩
   ·subst h3 h4
    rcases hat b hb' with h|h|h
    ·exact I.dis i _ q o b hi hq2 hk h6 h
    ·exact I.dis i K q p b hiK hq2 hK h6 h
    ·have:=((I.obs i q hq2).at_lt h6).2;omega
   ·subst h4;exact hb'
   ·exact I.dis i j q q' b hne hq2 hq2' h6 (same j q' b hj hq2' hb')
 ·by_cases hjk:j=k
  ·subst hjk
   rcases I.ext j hj with h|h
   ·omega
   ·exact .inr ((hle.γ j 0 (by omega)).2.trans h)
  ·rcases I.ext j hj with h|h
   ·exact .inl ((hoj j hjk).1.trans h)
   ·by_cases h0:0<g.lim j
    ·exact .inr ((hle.γ j 0 h0).2.trans h)
    ·exact .inl ((hoj j hjk).1.trans (by omega))
theorem ownH.lt {w:World}{e:TypeId}{z n:Nat}{v:Value}{xs:List Value}(k:ownH (fun b=>w.heap[b]?) e z v n xs): ∀b,v.ownBlock=some b→b<w.heap.size:=fun b hb=>by
 obtain⟨h1,h2|⟨b',cap,cur,hv,hh,rest⟩⟩:=k
 ·rw[h2.1] at hb;cases hb
 ·rw[hv] at hb
  simp only[Value.ownBlock,Option.some.injEq] at hb
  subst hb
  exact(Array.getElem?_eq_some_iff.1 hh).1
theorem Inv.nestNew (I:Inv w0 σ0 ob w g){K m z j0 zi:Nat}{eo ei:TypeId}{q:List (List D)}{ds:List D}{us:List Value}(hK:ob[K]? =some (.gr zi ei q m false))(hjz:j0<z)(hds:ds.length=z)(hul:us.length=z)
 (hU:us[j0]? =some (g.γ K m)) (hrd: ∀(j:Nat) (x:D) (u:Value),j≠j0→ds[j]? =some x→us[j]? =some u→RD g.σ x u) (h1: ∀u∈us,u.oneCell'=true) (V:Value)
 (hown:(w.alloc (.cells us.toArray eo)).ownsRow w.heap.size eo z V 1 us):
 ∃g',g.le g'∧Inv w0 σ0 (ob.set K (.x (nestX eo z j0 ei zi [⟨ds,some q⟩] none none) (m+1))) (w.alloc (.cells us.toArray eo)) g'∧RT g' (.og K (m+1)) V:=by
 obtain⟨hlim,xs,⟨hin,hmine⟩,hz,hxr,hx1,hσK⟩:=I.obs K _ hK
 have hb:=below_alloc w (.cells us.toArray eo)
 let F:Nat→Prop:=fun b=>V.ownBlock=some b∨(g.γ K m).ownBlock=some b
 let g':Gh:={ σ:=g.σ,γ:=fun j n=>if j=K∧n=m+1 then V else g.γ j n,lim:=fun j=>if j=K then m+2 else g.lim j,foot:=fun j=>if j=K then F else g.foot j }
 have hle:g.le g':=⟨fun _ _ _ h=>h,fun j n hn=>by
  by_cases hj:j=K
  ·subst hj
   have:¬n=m+1:=by omega
   simp[g',this];omega
  ·simp[g',hj,hn]⟩
 have hγ:g'.γ K (m+1)=V:=by simp[g']
 have hF:g'.foot K=F:=by simp[g']
 have hlt: ∀b,(g.γ K m).ownBlock=some b→b<w.heap.size:=(ownH_iff.2 hin).lt
 have hVb:=hown.lt
 have hown':ownH (fun b=>(w.alloc (.cells us.toArray eo)).heap[b]?) eo z V 1 us:=by
  refine⟨hown.1,?_⟩
  rcases hown.2 with h|⟨b,cap,cur,hv,hbb,rest⟩
  ·exact .inl h
  ·exact .inr ⟨b,cap,cur,hv,rest⟩
 refine⟨g',hle,I.turn hK (fun _ _ _ _ h=>by cases h) (by omega) hle rfl (fun j hj=>⟨by simp[g',hj],by simp[g',hj]⟩) hb.os hb.tape hb.output hb.size (fun b hbb _=>hb.block b hbb) ⟨by simp[g'],?_,fun b hbF=>?_⟩ (fun b hbF=>?_),?_⟩
 ·rw[hF,hγ]
  refine⟨hjz,⟨us,⟨hown',fun b hb=>.inl hb,h1,fun r hr=>?_,fun i j r x hr hjj hx=>?_,fun i r q' hr hq=>?_,fun i i' r r' q1 q2 u u' b hne hr hr'=>?_⟩,fun _ _ h=>by cases h⟩,fun ds hd=>by cases hd⟩
  ·simp at hr;subst hr;exact hds
  ·have hi:i=0:=by have:=(List.getElem?_eq_some_iff.1 hr).1;simp at this;omega
   subst hi
   simp at hr;subst hr
   have hjl:j<us.length:=by have:=(List.getElem?_eq_some_iff.1 hx).1;simp at this;omega
   exact⟨us[j],by simp,hrd j x _ hjj hx (List.getElem?_eq_getElem hjl)⟩
  ·have hi:i=0:=by have:=(List.getElem?_eq_some_iff.1 hr).1;simp at this;omega
   subst hi
   simp at hr;subst hr
   cases hq
   refine⟨_,by simpa using hU,⟨xs,(ownH_iff.2 hin).mono fun b hbk=>hb.block b (hlt b hbk),hz,hxr,hx1⟩,fun b hbk=>⟨.inr hbk,fun e=>?_⟩⟩
   have:=(hVb b e).1
   have:=hlt b hbk
   omega
  ·have h1:=(List.getElem?_eq_some_iff.1 hr).1
   have h2:=(List.getElem?_eq_some_iff.1 hr').1
   simp at h1 h2
   omega
 ·rw[hF] at hbF
  rcases hbF with h|h
  ·obtain⟨h1,h2⟩:=hVb b h
   exact⟨.inl (Nat.le_trans I.below.size h1),h2,fun o=>I.new_none h1 o⟩
  ·refine⟨hmine b h,Nat.lt_of_lt_of_le (hlt b h) hb.size,?_⟩
   have:=hσK b h
   simpa using this
 ·simp only[Gh.at,hF] at hbF
  rcases hbF with h|h
  ·exact .inr (hVb b h).1
  ·exact .inl h
 ·have:=RT.og (g:=g') K (m+1) (by simp[g'])
  rwa [hγ] at this
theorem Inv.nestGrow (I:Inv w0 σ0 ob w g){w':World}{k K n m z j0 zi:Nat}{eo ei:TypeId}{rows rows':List NR}{hint hint':Option (Nat×Value)}{dd dd':Option (List (List D))}(hkK:k≠K)
 (hk:ob[k]? =some (.x (nestX eo z j0 ei zi rows hint dd) n)) (hK:ob[K]? =some (.x (nestX eo z j0 ei zi rows' hint' dd') m)) {us us':List Value} {V:Value}
 (hN:NestOK eo z j0 ei zi rows g.σ (fun b=>w.heap[b]?) (g.foot k) (g.γ k n) us) (hM:NestOK eo z j0 ei zi rows' g.σ (fun b=>w.heap[b]?) (g.foot K) (g.γ K m) us')
 (hown:w'.ownsRow 0 eo z V (rows.length+rows'.length) (us++us')) (hgrow:w.grownBy w' (g.γ k n).ownBlock) (hatV:V.ownBlock=(g.γ k n).ownBlock∨V.ownBlock=some w.heap.size):
 ∃g',g.le g'∧Inv w0 σ0 ((ob.set k (.x (nestX eo z j0 ei zi (rows++rows') none none) (n+1))).set K .dead) w' g'∧RT g' (.og k (n+1)) V:=by
 obtain⟨hlim,⟨hjz,_,_⟩,hFk⟩:=I.obs k _ hk
 obtain⟨_,_,hFK⟩:=I.obs K _ hK
 have hdis: ∀b,g.foot k b→¬g.foot K b:=fun b hb hb'=>I.dis k K _ _ b hkK hk hK hb hb'
 let F:Nat→Prop:=fun b=>g.foot k b∨g.foot K b∨V.ownBlock=some b
 let g':Gh:={ σ:=g.σ,γ:=fun j m=>if j=k∧m=n+1 then V else g.γ j m,lim:=fun j=>if j=k then n+2 else g.lim j,foot:=fun j=>if j=k then F else g.foot j }
 have hle:g.le g':=⟨fun _ _ _ h=>h,fun j m hm=>by
  by_cases hj:j=k
  ·subst hj
   have:¬m=n+1:=by omega
   simp[g',this];omega
  ·simp[g',hj,hm]⟩
 have hγ:g'.γ k (n+1)=V:=by simp[g']
 have hF:g'.foot k=F:=by simp[g']
 have hVb: ∀b,V.ownBlock=some b→(g.γ k n).ownBlock=some b∨b=w.heap.size:=fun b hb=>by
  rcases hatV with h|h
  ·exact .inl (h▸hb)
  ·rw[h] at hb;cases hb;exact .inr rfl
 have hxl:us.length=rows.length*z:=hN.outer.1
 have hyl:us'.length=rows'.length*z:=hM.outer.1
 have split: ∀ {i:Nat} {r:NR},(rows++rows')[i]? =some r→(i<rows.length∧rows[i]? =some r)∨(rows.length≤i∧rows'[i - rows.length]? =some r):=fun {i r} h=>by
  by_cases hi:i<rows.length
  ·rw[List.getElem?_append_left hi] at h
   exact .inl ⟨hi,h⟩
  ·rw[List.getElem?_append_right (by omega)] at h
   exact .inr ⟨by omega,h⟩
 have left: ∀ {i j:Nat},i<rows.length→j<z→(us++us')[i*z+j]? =us[i*z+j]? :=fun {i j} hi hj=>by
  rw[List.getElem?_append_left]
  rw[hxl]
  exact row_lt hi hj
 have right: ∀ {i j:Nat},rows.length≤i→(us++us')[i*z+j]? =us'[(i - rows.length)*z+j]? :=fun {i j} hi=>by
  have e2:i*z=rows.length*z+(i - rows.length)*z:=by rw[←Nat.add_mul];congr 1;omega
  rw[List.getElem?_append_right (by omega),show i*z+j - us.length=(i - rows.length)*z+j by omega]
 have keep: ∀b,b<w.heap.size→(g.γ k n).ownBlock≠some b→w'.heap[b]? =w.heap[b]? :=fun b hb hn=>hgrow.block b hb fun e=>hn e.symm
 have nV: ∀b,b<w.heap.size→(g.γ k n).ownBlock≠some b→V.ownBlock≠some b:=fun b hb hn e=>by
  rcases hVb b e with h|h
  ·exact hn h
  ·omega
 have sz:=hgrow.size
 have inL: ∀ {i:Nat} {r:NR} {q:List (List D)},rows[i]? =some r→r.own=some q→ ∃u,us[i*z+j0]? =some u∧rowOK g.σ (fun b=>w'.heap[b]?) ei zi q u∧ ∀b,u.ownBlock=some b→g.foot k b∧V.ownBlock≠some b:=fun {i r q} hr hq=>by
  obtain⟨u,h1,h2,h3⟩:=hN.inner i r q hr hq
  exact⟨u,h1,h2.mono (fun _ _ _ h=>h) fun b hb=>keep b (hFk b (h3 b hb).1).2.1 (h3 b hb).2,fun b hb=>⟨(h3 b hb).1,nV b (hFk b (h3 b hb).1).2.1 (h3 b hb).2⟩⟩
 have nK: ∀b,g.foot K b→(g.γ k n).ownBlock≠some b:=fun b hb e=>hdis b (hN.fo b e) hb
 have inR: ∀ {i:Nat} {r:NR} {q:List (List D)},rows'[i]? =some r→r.own=some q→ ∃u,us'[i*z+j0]? =some u∧rowOK g.σ (fun b=>w'.heap[b]?) ei zi q u∧ ∀b,u.ownBlock=some b→g.foot K b∧V.ownBlock≠some b:=fun {i r q} hr hq=>by
  obtain⟨u,h1,h2,h3⟩:=hM.inner i r q hr hq
  exact⟨u,h1,h2.mono (fun _ _ _ h=>h) fun b hb=>keep b (hFK b (h3 b hb).1).2.1 (nK b (h3 b hb).1),fun b hb=>⟨(h3 b hb).1,nV b (hFK b (h3 b hb).1).2.1 (nK b (h3 b hb).1)⟩⟩
 have hown':ownH (fun b=>w'.heap[b]?) eo z V (rows++rows').length (us++us'):=by rw[List.length_append];exact ownH_iff.2 hown
 refine⟨g',hle,I.turnIn hkK hk hK (fun _ _ _ _ h=>by cases h) (by omega) hle rfl (fun j hj=>⟨by simp[g',hj],by simp[g',hj]⟩) hgrow.os hgrow.tape hgrow.output hgrow.size (fun b hb hn=>keep b hb fun e=>hn (hN.fo b e)) ⟨by simp[g'],?_,fun b hbF=>?_⟩ (fun b hbF=>?_),?_⟩
 ·rw[hF,hγ]
  refine⟨hjz,⟨us++us',⟨hown',fun b hb=>.inr (.inr hb),fun u hu=>?_,fun r hr=>?_,fun i j r x hr hjj hx=>?_,fun i r q hr hq=>?_,fun i i' r r' q1 q2 u u' b hne hr hr' hq1 hq2 hu hu' hb=>?_⟩,fun _ _ h=>by cases h⟩,fun ds hd=>by cases hd⟩
  ·rcases List.mem_append.1 hu with h|h
   ·exact hN.one u h
   ·exact hM.one u h
  ·rcases List.mem_append.1 hr with h|h
   ·exact hN.len r h
   ·exact hM.len r h
  ·rcases split hr with⟨hi,hr⟩|⟨hi,hr⟩
   ·have hjz':j<z:=by
     have:=(List.getElem?_eq_some_iff.1 hx).1
     rwa [hN.len r (List.mem_of_getElem? hr)] at this
    rw[left hi hjz']
    exact hN.cell i j r x hr hjj hx
   ·rw[right hi]
    exact hM.cell _ j r x hr hjj hx
  ·rcases split hr with⟨hi,hr⟩|⟨hi,hr⟩
   ·obtain⟨u,h1,h2,h3⟩:=inL hr hq
    exact⟨u,by rw[left hi hjz];exact h1,h2,fun b hb=>⟨.inl (h3 b hb).1,(h3 b hb).2⟩⟩
   ·obtain⟨u,h1,h2,h3⟩:=inR hr hq
    exact⟨u,by rw[right hi];exact h1,h2,fun b hb=>⟨.inr (.inl (h3 b hb).1),(h3 b hb).2⟩⟩
  ·rcases split hr with⟨hi,hr⟩|⟨hi,hr⟩
   ·rw[left hi hjz] at hu
    rcases split hr' with⟨hi',hr'⟩|⟨hi',hr'⟩
    ·rw[left hi' hjz] at hu'
     exact hN.dis i i' r r' q1 q2 u u' b hne hr hr' hq1 hq2 hu hu' hb
    ·rw[right hi'] at hu'
     obtain⟨v,h1,_,h3⟩:=inL hr hq1
     obtain⟨v',h1',_,h3'⟩:=inR hr' hq2
     rw[h1] at hu;cases hu
     rw[h1'] at hu';cases hu'
     exact fun hb'=>hdis b (h3 b hb).1 (h3' b hb').1
   ·rw[right hi] at hu
    rcases split hr' with⟨hi',hr'⟩|⟨hi',hr'⟩
    ·rw[left hi' hjz] at hu'
     obtain⟨v,h1,_,h3⟩:=inR hr hq1
     obtain⟨v',h1',_,h3'⟩:=inL hr' hq2
     rw[h1] at hu;cases hu
     rw[h1'] at hu';cases hu'
     exact fun hb'=>hdis b (h3' b hb').1 (h3 b hb).1
    ·rw[right hi'] at hu'
     exact hM.dis _ _ r r' q1 q2 u u' b (by omega) hr hr' hq1 hq2 hu hu' hb
 ·rw[hF] at hbF
  rcases hbF with h|h|h
  ·obtain⟨h1,h2,h3⟩:=hFk b h
   exact⟨h1,by omega,h3⟩
  ·obtain⟨h1,h2,h3⟩:=hFK b h
   exact⟨h1,by omega,h3⟩
  ·rcases hVb b h with h'|h'
   ·obtain⟨h1,h2,h3⟩:=hFk b (hN.fo b h')
    exact⟨h1,by omega,h3⟩
   ·exact⟨.inl (by have:=I.below.size;omega),hown'.lt b h,fun o=>I.new_none (by omega) o⟩
 ·simp only[Gh.at,hF] at hbF
  rcases hbF with h|h|h
  ·exact .inl h
  ·exact .inr (.inl h)
  ·rcases hVb b h with h'|h'
   ·exact .inl (hN.fo b h')
   ·exact .inr (.inr (by omega))
 ·have:=RT.og (g:=g') k (n+1) (by simp[g'])
  rwa [hγ] at this
end
theorem St.imp.revX {N:Nm}{S:St}(k n:Nat){X:ObX}(hk:S.ob[k]? =some (.x X n))(hm:Nat.ble N.m k=true:=by rfl):
 St.imp N S ⟨fun i=>(S.tm i).rev k n,revObs k n S.ob 0⟩:=fun w0 σ0 a w g r=>by
 have I:=r.inv
 have hlt:k<S.ob.length:=(List.getElem?_eq_some_iff.1 hk).1
 have hget: ∀(j:Nat) (p:Ob),(revObs k n S.ob 0)[j]? =some p→(j=k∧p=.x X 0)∨(j≠k∧ ∃q,S.ob[j]? =some q∧p=q.rev k n):=by
  intro j p hp
  rw[revObs_at,Nat.zero_add] at hp
  by_cases hj:j=k
  ·subst hj
   rw[hk] at hp
   simp only[Option.map_some,Option.some.injEq,show Nat.beq j j=true by simp,cond_true,show Nat.beq n n=true by simp] at hp
   exact .inl ⟨rfl,hp.symm⟩
  ·cases hq:S.ob[j]? with
   |none=>rw[hq] at hp;simp at hp
   |some q=>
    rw[hq] at hp
    simp only[Option.map_some,Option.some.injEq,nbeq hj,cond_false] at hp
    exact .inr ⟨hj,q,rfl,hp.symm⟩
 have hat: ∀(j:Nat) (q:Ob) (b:Nat),j≠k→((g.rev k n).at j (q.rev k n) b↔g.at j q b):=fun j q b hj=>by
  cases q<;>simp[Gh.at,Ob.rev,Gh.rev,hj]
 have hobk:=I.obs k _ hk
 have hm':=Nat.le_of_ble_eq_true hm
 refine⟨g.rev k n,⟨I.below,I.old,I.con,fun j p hp=>?_,fun j hj=>?_,fun j j' p p' b hne hp hp' hb hb'=>?_,fun j hj=>?_⟩,r.defers,r.size,r.hm,by rw[revObs_length];exact r.hl,fun i=>(r.tm i).rev⟩
 ·rcases hget j p hp with⟨rfl,rfl⟩|⟨hj,q,hq,rfl⟩
  ·obtain⟨h1,h2⟩:=hobk
   exact⟨by simp[Gh.rev],by simpa [Gh.rev] using h2⟩
  ·have:=I.obs j q hq
   cases q with
   |pv cs=>
    obtain⟨h1,b,vs,e',h2,h3,h4,h5,h6,h7,h8⟩:=this
    refine⟨by simpa [Gh.rev,hj] using h1,b,vs,e',by simpa [Gh.rev,hj] using h2,h3,h4,by rw[T.revL_map];simpa using h5,fun i x u hx hu=>?_,h7,h8⟩
    rw[T.revL_map] at hx
    simp only[List.getElem?_map,Option.map_eq_some_iff] at hx
    obtain⟨y,hy,rfl⟩:=hx
    exact(h6 i y u hy hu).rev
   |gr z' e' rows' n' pub'=>
    obtain⟨h1,xs,h2,h3,h4,h5,h6⟩:=this
    exact⟨by simpa [Gh.rev,hj] using h1,xs,by simpa [Gh.rev,hj] using h2,h3,h4,h5,by simpa [Gh.rev,hj] using h6⟩
   |x X n'=>
    obtain⟨h1,h2⟩:=this
    exact⟨by simpa [Gh.rev,hj] using h1,by simpa [Gh.rev,hj] using h2⟩
   |dead=>trivial
   |new=>simpa [ObOK,Ob.rev,Gh.rev,hj] using this
 ·rw[revObs_length] at hj
  have:¬j=k:=by omega
  simp[Gh.rev,this,I.lim j hj]
 ·have same: ∀(i:Nat) (p:Ob),(revObs k n S.ob 0)[i]? =some p→ ∃q,S.ob[i]? =some q∧ ∀b,(g.rev k n).at i p b→g.at i q b:=fun i p hp=>by
   rcases hget i p hp with⟨rfl,rfl⟩|⟨hi,q,hq,rfl⟩
   ·exact⟨_,hk,fun b hb=>by simpa [Gh.at,Gh.rev] using hb⟩
   ·exact⟨q,hq,fun b hb=>(hat i q b hi).1 hb⟩
  obtain⟨q,hq,hqb⟩:=same j p hp
  obtain⟨q',hq',hqb'⟩:=same j' p' hp'
  exact I.dis j j' q q' b hne hq hq' (hqb b hb) (hqb' b hb')
 ·have:¬j=k:=by have:=r.hm;omega
  simpa [Gh.rev,this] using I.ext j hj
theorem run_build1 {E:Env}{a:Act}{w:World}{d:Option Nat}{ty:TypeId}{pos:String}{after:Array Edge}{gd:Option (Nat×Bool)}{t e:TypeId}{x:Operand}{z:Nat}
 (ht:(E.ty t).kind=.slice e) (he:(E.ty e).known=true) (hz:(E.ty e).size=z) (hz0:0<z) (hmax:z≤16777216) (hs:(a.eval x).cells.toList.length=z):
 (execOp a.eval ⟨d,.buildSlice t 1 [(0,x)].toArray,ty,pos,after,gd⟩).run E.P w=.ok (.value (.slice (some ⟨w.heap.size,0,none⟩) 1 1)) (w.alloc (.cells (a.eval x).cells.toList.toArray e))∧
   (w.alloc (.cells (a.eval x).cells.toList.toArray e)).ownsRow w.heap.size e z (.slice (some ⟨w.heap.size,0,none⟩) 1 1) 1 (a.eval x).cells.toList:=by
 obtain⟨inf,zz,hinf,hsz,_,hzv,hzs,hzc⟩:=E.info he
 have hs':(a.eval x).cells.size=z:=by rw[←hs,Array.length_toList]
 let vals:List (Nat×Value):=[(0,a.eval x)]
 have hval: ∀(j:Nat) (p:Nat×Value),vals[j]? =some p→p.1=0+j∧p.2.cells.size=z:=fun j p hp=>by
  have hj:=(List.getElem?_eq_some_iff.1 hp).1
  simp[vals] at hj
  subst hj
  simp[vals] at hp
  subst hp
  exact⟨rfl,hs'⟩
 have hfl:(vals.flatMap fun p=>p.2.cells.toList)=(a.eval x).cells.toList:=by simp[vals]
 have hlt:vals.length=1:=rfl
 let zc:Array Value:=if 1*z=0 then #[] else zz.cells
 have hfill:=fill_rows (z:=z) (len:=1) vals 0 [] (((Array.range (1*z)).map fun i=>zc[i % zc.size]!).toList) (by simp) hval (by simp[hlt])
 simp only[List.nil_append,Array.toArray_toList] at hfill
 rw[hfl] at hfill
 have h0:¬1*z=0:=by omega
 have hrun:(Instr.buildSlice t 1 ([(0,x)].toArray.map fun(i,x)=>(i,a.eval x))).run E.P w=
  .ok (.slice (some ⟨w.heap.size,0,none⟩) 1 1) (w.alloc (.cells (a.eval x).cells.toList.toArray e)):=by
  have e1:([(0,x)].toArray.map fun(x:Nat×Operand)=>(x.1,a.eval x.2)).toList=vals:=by simp[vals]
  have hnot:¬1*z>2 ^ 24:=by omega
  unfold Instr.buildSlice
  simp only[Sem.run_bind,run_underlying (E.slice ht),Result.andThen_ok,sizeOf,typeInfo,run_program,hinf,Sem.run_pure,hsz,hz]
  rw[if_neg hnot]
  simp only[Sem.run_bind,Result.andThen_ok,Sem.run_pure,pure_bind]
  simp only[h0,if_false,zeroValue,typeInfo,Sem.run_bind,run_program,hinf,Result.andThen_ok,Sem.run_pure,hzv]
  have hzc0:zc=zz.cells:=if_neg h0
  rw[hzc0] at hfill
  rw[e1]
  simp only[hfill]
  simp[newRow]
 refine⟨by simp only[execOp,Sem.run_bind,hrun,Result.andThen_ok,Sem.run_pure],?_⟩
 simpa using World.ownsRow_lit (base:=w.heap.size) (e:=e) (size:=z) w (a.eval x).cells.toList.toArray 1 (Nat.le_refl _) (by unfold maxLen;omega) (by simp[hs'])
section
variable {E:Env}{N:Nm}{Q:Exit→St→Prop}{S:St}{ops l:List Oper}{ty:TypeId}{pos:String}{after:Array Edge}{gd:Option (Nat×Bool)}{d:Nat}{tm:Nat→T}{ob ob':List Ob}{G:List Nat}
theorem WL.bsN {t e:TypeId}{x:Operand}{z j0 zi K m:Nat}{ei:TypeId}{q:List (List D)}{cs:List T}{ds:List D}(hw:S.want ops ⟨some d,.buildSlice t 1 [(0,x)].toArray,ty,pos,after,gd⟩=some true)(hd:Nat.blt d N.n=true)
 (ht:(E.ty t).kind=.slice e) (he:(E.ty e).known=true) (hz:(E.ty e).size=z) (hmax:Nat.ble z 16777216=true) (hv:cellsT S.ob (S.ev x)=some cs) (hn:Nat.beq cs.length z=true) (h1:onesT cs=true) (h2:cursT S.ob cs=true)
 (hj:cs[j0]? =some (.og K m)) (hK:S.ob[K]? =some (.gr zi ei q m false)) (hds:allD (cs.set j0 (.d (.v undef)))=some ds)
 (k:WL E.P N ops l Q ⟨(S.set d (.og K (m+1))).tm,S.ob.set K (.x (nestX e z j0 ei zi [⟨ds,some q⟩] none none) (m+1))⟩):WL E.P N ops (⟨some d,.buildSlice t 1 [(0,x)].toArray,ty,pos,after,gd⟩::l) Q S:=
 WL.eff (by simp) hw hd (fun w0 σ0 a w g R=>by
  obtain⟨c1,c2,c3⟩:=R.inv.cells hv (R.ev x) h1 h2
  have hn':=Nat.eq_of_beq_eq_true hn
  have hj0:j0<cs.length:=(List.getElem?_eq_some_iff.1 hj).1
  have hjl:j0<(a.eval x).cells.toList.length:=by omega
  have hdl:=allD_at hds
  have hdsl:ds.length=z:=by
   have:=congrArg List.length hdl
   simp at this
   omega
  obtain⟨hrun,hown⟩:=run_build1 (E:=E) (a:=a) (w:=w) (d:=some d) (ty:=ty) (pos:=pos) (after:=after) (gd:=gd) (t:=t) (e:=e) (x:=x) (z:=z) ht he hz (by omega) (Nat.le_of_ble_eq_true hmax) (by omega)
  obtain⟨g',hle,I',ht'⟩:=R.inv.nestNew (z:=z) (j0:=j0) (eo:=e) (ds:=ds) (us:=(a.eval x).cells.toList) hK (by omega) hdsl (by omega) (by
   have:=c2 j0 _ _ hj (List.getElem?_eq_getElem hjl)
   rw[List.getElem?_eq_getElem hjl,this.inv_og.2]) (fun j y u hjj hy hu=>by
   have e1:cs[j]? =some (.d y):=by
    have:=congrArg (·[j]?) hdl
    simp only[List.getElem?_set_ne (fun e=>hjj e.symm),List.getElem?_map,hy,Option.map_some] at this
    exact this
   exact(c2 j _ u e1 hu).inv_d) c3 _ hown
  exact⟨_,_,g',hrun,hle,I',ht'⟩) k
theorem WL.apN {t e:TypeId}{s x:Operand}{z j0 zi k K n m:Nat}{ei:TypeId}{rows rows':List NR}{hint hint':Option (Nat×Value)}{dd dd':Option (List (List D))}(hw:S.want ops ⟨some d,.call ⟨.builtin .append,#[s,x],#[t,t]⟩,ty,pos,after,gd⟩=some true)(hd:Nat.blt d N.n=true)
 (ht:(E.ty t).kind=.slice e) (he:(E.ty e).known=true) (hz:(E.ty e).size=z) (hz0:Nat.blt 0 z=true) (hby:Nat.ble 1 (E.ty e).bytes=true) (hs:S.ev s=.og k n) (hx:S.ev x=.og K m) (hkK:Nat.beq k K=false)
 (hk:S.ob[k]? =some (.x (nestX e z j0 ei zi rows hint dd) n)) (hK:S.ob[K]? =some (.x (nestX e z j0 ei zi rows' hint' dd') m))
 (hroom:(rows.length+rows'.length)*(E.ty e).bytes≤140737488355328)
 (kk:WL E.P N ops l Q ⟨(S.set d (.og k (n+1))).tm,(S.ob.set k (.x (nestX e z j0 ei zi (rows++rows') none none) (n+1))).set K .dead⟩):WL E.P N ops (⟨some d,.call ⟨.builtin .append,#[s,x],#[t,t]⟩,ty,pos,after,gd⟩::l) Q S:=
 WL.eff (by simp) hw hd (fun w0 σ0 a w g R=>by
  obtain⟨inf,zz,hinf,hsz,hbs,hzv,hzs,hzc⟩:=E.info he
  have hz0':0<z:=by simpa using hz0
  have hne:k≠K:=fun e=>by subst e;simp at hkK
  have hsr:=R.ev s
  rw[hs] at hsr
  obtain⟨_,hsv⟩:=hsr.inv_og
  have hxr:=R.ev x
  rw[hx] at hxr
  obtain⟨_,hxv⟩:=hxr.inv_og
  obtain⟨_,⟨_,⟨us,hN,_⟩,_⟩,_⟩:=R.inv.obs k _ hk
  obtain⟨_,⟨_,⟨us',hM,_⟩,_⟩,_⟩:=R.inv.obs K _ hK
  have hsrc: ∃A c,g.γ K m=.slice A rows'.length c∧(A=none→rows'.length=0∧c=0)∧ ∀ad,A=some ad→ ∀(j:Nat) (u:Value),us'[j]? =some u→w.cell? (ad.add j)=some u:=by
   rcases hM.outer.2 with⟨hv,hn⟩|⟨b,cap,cur,hv,hh,hc1,hc2,hcs,htk⟩
   ·exact⟨none,0,by rw[hv,hn],fun _=>⟨hn,rfl⟩,fun ad h=>by cases h⟩
   ·refine⟨some ⟨b,0,none⟩,cap,hv,(fun h=>by cases h),fun ad h j u hu=>?_⟩
    cases h
    have hh:w.heap[b]? =some (.cells cur e (0,0)):=hh
    obtain⟨cur⟩:=cur
    rw[Addr.add_lit,Nat.zero_add,cell_of_heap hh j]
    rw[←htk,List.getElem?_take] at hu
    split at hu
    ·simpa using hu
    ·cases hu
  obtain⟨A,c,hγK,hA,hcell⟩:=hsrc
  obtain⟨v',w',hrun,hown,hgrow,hat⟩:=run_append_slice (P:=E.P) (w:=w) 0 t ty e inf zz z (E.ty e).bytes (E.slice ht) hinf hzv (hsz.trans hz) hbs (hzc.trans hz) hz0' (g.γ k n) rows.length us (ownH_iff.1 hN.outer)
   A rows'.length c us' hA hM.outer.1 hcell hM.one (room_of (Nat.le_of_ble_eq_true hby) hroom) hroom (Nat.zero_le _)
  obtain⟨g',hle,I',ht'⟩:=R.inv.nestGrow hne hk hK hN hM hown hgrow hat
  exact⟨v',w',g',by simp[execOp,resolve,invoke,builtin,hsv,hxv,hγK,hrun],hle,I',ht'⟩) kk
theorem OpS1.bsN {t e:TypeId}{x:Operand}{z j0 zi K m:Nat}{ei:TypeId}{q:List (List D)}{cs:List T}{ds:List D}(hw:St.want ⟨tm,ob⟩ ops ⟨some d,.buildSlice t 1 [(0,x)].toArray,ty,pos,after,gd⟩=some true)(hd:Nat.blt d N.n=true)
 (ht:(E.ty t).kind=.slice e) (he:(E.ty e).known=true) (hz:(E.ty e).size=z) (hmax:Nat.ble z 16777216=true) (hv:cellsT ob (St.ev ⟨tm,ob⟩ x)=some cs) (hn:Nat.beq cs.length z=true) (h1:onesT cs=true) (h2:cursT ob cs=true)
 (hj:cs[j0]? =some (.og K m)) (hK:ob[K]? =some (.gr zi ei q m false)) (hds:allD (cs.set j0 (.d (.v undef)))=some ds) (ho:ob.set K (.x (nestX e z j0 ei zi [⟨ds,some q⟩] none none) (m+1))=ob'):
 OpS1 E.P N ops ⟨some d,.buildSlice t 1 [(0,x)].toArray,ty,pos,after,gd⟩ tm (.og K (m+1)) ob ob':=fun tm' hag l Q k'=>by
 subst ho
 exact WL.bsN (S:=⟨tm',ob⟩) (by rw[want_agree hag];exact hw) hd ht he hz hmax (by rw[ev_agree hag (by simp[Op.operands])];exact hv) hn h1 h2 hj hK hds k'
theorem OpS1.apN {t e:TypeId}{s x:Operand}{z j0 zi k K n m:Nat}{ei:TypeId}{rows rows':List NR}{hint hint':Option (Nat×Value)}{dd dd':Option (List (List D))}(hw:St.want ⟨tm,ob⟩ ops ⟨some d,.call ⟨.builtin .append,#[s,x],#[t,t]⟩,ty,pos,after,gd⟩=some true)(hd:Nat.blt d N.n=true)
 (ht:(E.ty t).kind=.slice e) (he:(E.ty e).known=true) (hz:(E.ty e).size=z) (hz0:Nat.blt 0 z=true) (hby:Nat.ble 1 (E.ty e).bytes=true) (hs:St.ev ⟨tm,ob⟩ s=.og k n) (hx:St.ev ⟨tm,ob⟩ x=.og K m) (hkK:Nat.beq k K=false)
 (hk:ob[k]? =some (.x (nestX e z j0 ei zi rows hint dd) n)) (hK:ob[K]? =some (.x (nestX e z j0 ei zi rows' hint' dd') m))
 (hroom:(rows.length+rows'.length)*(E.ty e).bytes≤140737488355328) (ho:(ob.set k (.x (nestX e z j0 ei zi (rows++rows') none none) (n+1))).set K .dead=ob'):
 OpS1 E.P N ops ⟨some d,.call ⟨.builtin .append,#[s,x],#[t,t]⟩,ty,pos,after,gd⟩ tm (.og k (n+1)) ob ob':=fun tm' hag l Q k'=>by
 subst ho
 exact WL.apN (S:=⟨tm',ob⟩) (by rw[want_agree hag];exact hw) hd ht he hz hz0 hby (by rw[ev_agree hag (by simp[Op.operands,Call.operands])];exact hs) (by rw[ev_agree hag (by simp[Op.operands,Call.operands])];exact hx) hkK hk hK hroom k'
end
theorem D.flatL_at : ∀ {l:List D},D.flatL l=true→ ∀(j:Nat) (x:D),l[j]? =some x→x.flat=true
 |[],_,j,x,hx=>by simp at hx
 |d::l,h,j,x,hx=>by
  simp only[D.flatL,Bool.and_eq_true] at h
  cases j with
  |zero=>simp at hx;subst hx;exact h.1
  |succ j=>exact D.flatL_at h.2 j x (by simpa using hx)
theorem Fin.nest0 {e ei:TypeId}{z j0 zi:Nat}{t:T}(hj:j0<z):Fin [.gr z e [] 0 false] t [.x (nestX e z j0 ei zi [] none (some [])) 0] t:=fun w0 σ0 w g v I hv=>by
 obtain⟨hlim,xs,⟨hown,hmine⟩,_,_,h1,hσ⟩:=I.obs 0 _ rfl
 have hN:NestOK e z j0 ei zi [] g.σ (fun b=>w.heap[b]?) (fun b=>(g.γ 0 0).ownBlock=some b) (g.γ 0 0) xs:=
  ⟨ownH_iff.2 hown,fun b hb=>hb,h1,fun p hp=>by simp at hp,fun i j p x hp=>by simp at hp,fun i p q hp=>by simp at hp,fun i i' p p' q q' u u' b _ hp=>by simp at hp⟩
 have I2:=I.recast (k:=0) (o':=.x (nestX e z j0 ei zi [] none (some [])) 0) (fun b=>(g.γ 0 0).ownBlock=some b) rfl
  ⟨hlim,⟨hj,⟨xs,by simpa using hN,fun _ _ h=>by cases h⟩,fun ds hds=>by cases hds;rfl⟩,fun b hb=>by
    simp only[if_true] at hb
    refine⟨hmine b hb,(ownH_iff.2 hown).lt b hb,?_⟩
    have:=hσ b hb
    simpa using this⟩ (fun b hb=>by simpa [Gh.at] using hb)
 exact⟨_,I2,hv.mono (Gh.le_foot g _)⟩
theorem Fin.pubX {X:ObX}{x d:D}(hX:X.dat=some d):Fin [.x X 0] (.agg [.d x,.og 0 0]) [] (.d (.agg [x,d])):=fun w0 σ0 w g v I hv=>by
 obtain⟨g',hle,hγ,hlim,I',hd⟩:=I.pubX (k:=0) rfl hX
 obtain⟨vs,rfl,hl,hat⟩:=hv.inv_agg
 match vs,hl with
 |[v1,v2],_=>
  have h1:=(hat 0 _ v1 rfl rfl).inv_d
  obtain⟨_,hv'⟩:=(hat 1 _ v2 rfl rfl).inv_og
  subst hv'
  refine⟨_,I'.trim (ob':=[]) trivial,.d _ _ (.agg _ [v1,g.γ 0 0] rfl fun i y u hy hu=>?_)⟩
  match i with
  |0=>
   simp only[List.getElem?_cons_zero,Option.some.injEq] at hy hu
   subst hy;subst hu
   exact h1.mono hle.σ
  |1=>
   simp only[List.getElem?_cons_succ,List.getElem?_cons_zero,Option.some.injEq] at hy hu
   subst hy;subst hu
   exact hd
  |i+2=>simp at hy
theorem Fin.pubX3 {X:ObX}{x y d:D}(hX:X.dat=some d):Fin [.x X 0] (.agg [.d x,.d y,.og 0 0]) [] (.d (.agg [x,y,d])):=fun w0 σ0 w g v I hv=>by
 obtain⟨g',hle,hγ,hlim,I',hd⟩:=I.pubX (k:=0) rfl hX
 obtain⟨vs,rfl,hl,hat⟩:=hv.inv_agg
 match vs,hl with
 |[v1,v2,v3],_=>
  have h1:=(hat 0 _ v1 rfl rfl).inv_d
  have h2:=(hat 1 _ v2 rfl rfl).inv_d
  obtain⟨_,hv'⟩:=(hat 2 _ v3 rfl rfl).inv_og
  subst hv'
  refine⟨_,I'.trim (ob':=[]) trivial,.d _ _ (.agg _ [v1,v2,g.γ 0 0] rfl fun i z u hz hu=>?_)⟩
  match i with
  |0=>
   simp only[List.getElem?_cons_zero,Option.some.injEq] at hz hu
   subst hz;subst hu
   exact h1.mono hle.σ
  |1=>
   simp only[List.getElem?_cons_succ,List.getElem?_cons_zero,Option.some.injEq] at hz hu
   subst hz;subst hu
   exact h2.mono hle.σ
  |2=>
   simp only[List.getElem?_cons_succ,List.getElem?_cons_zero,Option.some.injEq] at hz hu
   subst hz;subst hu
   exact hd
  |i+3=>simp at hz
section
variable {P:Program}{fn:Func}{e:Exit}{S:St}{ts:List T}{k n:Nat}{x x' y y':D}{X:ObX}
theorem RetR.agx3 (he:e=.ret∨e=.normal)(hts:resL S fn.results.toList=some ts)(hok:resOK P S fn.results.toList)(hn:norm S.ob (resT ts)=.agg [.d x,.d y,.og k n])(hk:S.ob[k]? =some (.x X n))(hx:x=x')(hy:y=y'):
 RetR P fn 0 (just (.agg [.d x',.d y',.og 0 0]) [.x X 0]) e S:=by
 subst hx;subst hy
 exact RetR.own (ob':=[.x X 0]) ⟨[k],[n],S.ob.length⟩ he hts hok (by simp[hn,T.ren,T.renL,Rn.ix,Rn.of]) rfl rfl rfl rfl rfl ⟨by simpa [Rn.ix,Rn.of,Ob.ren] using hk,trivial⟩ rfl ⟨rfl,rfl⟩
end
section
variable {E:Env}{N:Nm}{Q:Exit→St→Prop}{tm:Nat→T}{ob ob':List Ob}{ops l:List Oper}{ty:TypeId}{pos:String}{after:Array Edge}{gd:Option (Nat×Bool)}{d:Nat}{G:List Nat}
theorem WG.adoptA {P:Program}(i j0:Nat)(z:Nat)(e:TypeId){cs:List T}{t0:T}{K:Nat}(hi:tm i=.agg cs)(hj:cs[j0]? =some t0)(hn:nilT t0=true)(hK:ob.length=K)
 (k:WG G P N ops l Q ⟨upd tm i (.agg (cs.set j0 (.og K 0))),ob++[.gr z e [] 0 false]⟩):WG G P N ops l Q ⟨tm,ob⟩:=fun w0 σ0 a w g r=>by
 subst hK
 obtain⟨g',hle,I,ht⟩:=r.inv.adopt (by rw[r.hm];exact r.hl) z e
 refine k w0 σ0 a w g' ⟨I,r.defers,r.size,r.hm,by have:=r.hl;simp at this ⊢;omega,fun j=>?_⟩
 have h1:=r.tm j
 show RT g' (upd tm i _ j) _
 by_cases hjj:j=i
 ·subst hjj
  have h1:RT g (tm j) _:=h1
  rw[hi] at h1
  obtain⟨vs,hv,hl,hat⟩:=h1.inv_agg
  rw[show upd tm j (.agg (cs.set j0 (.og ob.length 0))) j=.agg (cs.set j0 (.og ob.length 0)) by simp[upd]]
  rw[hv]
  refine .agg _ vs (by simpa using hl) fun a x u hx hu=>?_
  by_cases hb:j0=a
  ·subst hb
   have hlo:j0<cs.length:=(List.getElem?_eq_some_iff.1 hj).1
   rw[List.getElem?_set_self hlo] at hx
   simp only[Option.some.injEq] at hx
   subst hx
   have:=RT.nil hn (hat j0 _ u hj hu)
   rw[this]
   exact ht
  ·rw[List.getElem?_set_ne hb] at hx
   exact(hat a x u hx hu).mono hle
 ·rw[show upd tm i (.agg (cs.set j0 (.og ob.length 0))) j=tm j by simp[upd,nbeq hjj]]
  exact h1.mono hle
theorem WG.adoptD {P:Program}(i j0:Nat)(z:Nat)(e:TypeId){ds:List D}{z0 K:Nat}(hi:tm i=.d (.agg ds))(hj:ds[j0]? =some (.nl z0))(hK:ob.length=K)
 (k:WG G P N ops l Q ⟨upd tm i (.agg ((ds.map T.d).set j0 (.og K 0))),ob++[.gr z e [] 0 false]⟩):WG G P N ops l Q ⟨tm,ob⟩:=fun w0 σ0 a w g r=>by
 subst hK
 obtain⟨g',hle,I,ht⟩:=r.inv.adopt (by rw[r.hm];exact r.hl) z e
 refine k w0 σ0 a w g' ⟨I,r.defers,r.size,r.hm,by have:=r.hl;simp at this ⊢;omega,fun j=>?_⟩
 have h1:=r.tm j
 show RT g' (upd tm i _ j) _
 by_cases hjj:j=i
 ·subst hjj
  have h1:RT g (tm j) _:=h1
  rw[hi] at h1
  obtain⟨vs,hv,hl,hat⟩:=h1.inv_d.inv_agg
  rw[show upd tm j (.agg ((ds.map T.d).set j0 (.og ob.length 0))) j=.agg ((ds.map T.d).set j0 (.og ob.length 0)) by simp[upd]]
  rw[hv]
  refine .agg _ vs (by simpa using hl) fun a x u hx hu=>?_
  by_cases hb:j0=a
  ·subst hb
   have hlo:j0<(ds.map T.d).length:=by have:=(List.getElem?_eq_some_iff.1 hj).1;simpa using this
   rw[List.getElem?_set_self hlo] at hx
   simp only[Option.some.injEq] at hx
   subst hx
   have:=(hat j0 _ u hj hu).inv_nl
   rw[this]
   exact ht
  ·rw[List.getElem?_set_ne hb,List.getElem?_map,Option.map_eq_some_iff] at hx
   obtain⟨y,hy,rfl⟩:=hx
   exact .d _ _ ((hat a y u hy hu).mono hle.σ)
 ·rw[show upd tm i (.agg ((ds.map T.d).set j0 (.og ob.length 0))) j=tm j by simp[upd,nbeq hjj]]
  exact h1.mono hle
end
section
variable {E:Env}{N:Nm}{G:List Nat}{Q:Exit→St→Prop}{ops:List Oper}
def runK (E:Env)(N:Nm)(G:List Nat)(ops:List Oper):Nat→List Oper→(Nat→T)→List Ob→List Prop→Out
 |0,l,tm,ob,ps=>⟨ps,l,tm,ob⟩
 |n+1,[],tm,ob,ps=>⟨ps,[],tm,ob⟩
 |n+1,o::l,tm,ob,ps=>stepOp E N G ops o tm ob (fun p tm' ob'=>runK E N G ops n l tm' ob' (p::ps)) ⟨ps,o::l,tm,ob⟩
theorem runK_ok : ∀(n:Nat) (l:List Oper) (tm:Nat→T) (ob:List Ob) (ps:List Prop),AllP (runK E N G ops n l tm ob ps).conds→
 AllP ps∧(WG G E.P N ops (runK E N G ops n l tm ob ps).rest Q ⟨(runK E N G ops n l tm ob ps).tm,(runK E N G ops n l tm ob ps).ob⟩→WG G E.P N ops l Q ⟨tm,ob⟩)
 |0,l,tm,ob,ps=>fun h=>⟨h,fun k=>k⟩
 |n+1,[],tm,ob,ps=>fun h=>⟨h,fun k=>k⟩
 |n+1,o::l,tm,ob,ps=>by
  unfold runK
  refine stepOp_ok (Q:=Q) (l:=l) (M:=fun r=>AllP r.conds→AllP ps∧(WG G E.P N ops r.rest Q ⟨r.tm,r.ob⟩→WG G E.P N ops (o::l) Q ⟨tm,ob⟩)) (fun h=>⟨h,fun k=>k⟩) fun p tm' ob' hk h=>?_
  obtain⟨h1,h2⟩:=runK_ok n l tm' ob' (p::ps) h
  exact⟨h1.2,fun k=>hk h1.1 (h2 k)⟩
theorem WG.runN (n:Nat){l l':List Oper}{tm tm':Nat→T}{ob ob':List Ob}{ps:List Prop}(k:WG G E.P N ops l' Q ⟨tm',ob'⟩)
 (h:runK E N G ops n l tm ob []=⟨ps,l',tm',ob'⟩:=by exact rfl) (hlen:Nat.blt l'.length l.length=true:=by exact rfl) (hp:AllP ps:=by repeat(first|exact trivial|refine⟨trivial,?_⟩|refine⟨by first|exact trivial|(simp only[inRange,List.length_map];omega)|omega|assumption,?_⟩)):WG G E.P N ops l Q ⟨tm,ob⟩:=
 by
  have:=runK_ok (E:=E) (N:=N) (G:=G) (ops:=ops) (Q:=Q) n l tm ob []
  rw[h] at this
  exact(this hp).2 k
end
section
variable {P:Program}{E:Env}{N:Nm}{tm:Nat→T}{ob ob2:List Ob}{ops:List Oper}{ty:TypeId}{pos:String}{after:Array Edge}{gd:Option (Nat×Bool)}{d:Nat}
theorem OpS1.cqM {f:FuncId}{fop:Operand}{xs:List Operand}{tys:List TypeId}{cap args:List T}{obA obB:List Ob}{t t':T}{KK:Nat}(idx off:List Nat)(hw:St.want ⟨tm,ob⟩ ops ⟨some d,.call ⟨.value fop,xs.toArray,tys.toArray⟩,ty,pos,after,gd⟩=some true)(hd:Nat.blt d N.n=true)
 (hc:FunQ E.P f args obA (just t obB)) (hclo:cloOf (norm ob (St.ev ⟨tm,ob⟩ fop))=some (f,cap)) (hK:KK=ob.length) (ha:argsT E ⟨tm,ob⟩ false xs tys++cap=T.renL ⟨idx,off,KK⟩ args) (hlp:T.lpOKL ⟨idx,off,KK⟩ args=true) (hnd:nodupB idx=true)
 (hA:Nat.beq obA.length idx.length=true) (hs:startL ⟨idx,off,KK⟩ 0 obA=true) (hmt:matchO ⟨idx,off,KK⟩ ob 0 obA) (hal:aliveN idx.length obB=true) (ht:T.ren ⟨idx,off,KK⟩ t=t') (ho:mergeO ⟨idx,off,KK⟩ 0 ob idx obB=ob2):
 OpS1 E.P N ops ⟨some d,.call ⟨.value fop,xs.toArray,tys.toArray⟩,ty,pos,after,gd⟩ tm t' ob ob2:=fun tm' hag l Q k'=>by
 have hfo:St.ev ⟨tm',ob⟩ fop=St.ev ⟨tm,ob⟩ fop:=ev_agree hag (by simp only[Op.operands,Call.operands,Array.toList_append,List.mem_append];exact .inl (by simp))
 refine WG.cq (G:=[]) idx off false (by rw[want_agree hag];exact hw) hd hc (by rw[hfo];exact hclo) hK ?_ hlp hnd hA hs hmt (.inl rfl) hal (fun h=>nomatch h) ht ho k'
 rw[argsT_agree (S:=⟨tm,ob⟩) (S':=⟨tm',ob⟩) rfl false fun x hx=>ev_agree hag (by simp only[Op.operands,Call.operands,Array.toList_append,List.mem_append];exact .inr (by simpa using hx))]
 exact ha
end
section
variable {E:Env}{N:Nm}{Q:Exit→St→Prop}{tm:Nat→T}{ob:List Ob}{ops l:List Oper}{ty:TypeId}{pos:String}{after:Array Edge}{gd:Option (Nat×Bool)}{d:Nat}{G:List Nat}
end
theorem WG.pubK {P:Program}{N:Nm}{G:List Nat}{ops l:List Oper}{Q:Exit→St→Prop}{tm:Nat→T}{ob:List Ob}(k:Nat){z n:Nat}{e:TypeId}{rows:List (List D)}(hk:ob[k]? =some (.gr z e rows n false))
 (h:WG G P N ops l Q ⟨fun i=>pubd k n (.sl z rows) (tm i),ob.set k (.gr z e rows n true)⟩):WG G P N ops l Q ⟨tm,ob⟩:=fun w0 σ0 a w g r=>by
 obtain⟨g',hle,hlim,I⟩:=r.inv.pub hk
 have hlt:k<ob.length:=(List.getElem?_eq_some_iff.1 hk).1
 exact h w0 σ0 a w g' ⟨I,r.defers,r.size,r.hm,by simpa using r.hl,fun i=>((r.tm i).mono hle).pubd I (List.getElem?_set_self hlt)⟩
def plc (L:List Co):Int:=(L.length:Int) - 1
abbrev loS (ns:List Nd)(L:List Co)(v:Nat):List Ob:=[.pv [.d (nodesD ns),.og 1 v],.gr 6 59 (L.map Co.row) v false]
def Pt.on (p:Pt)(L:List Co):List Co:=L++p.flat L.length
theorem Pt.on_length (p:Pt)(L:List Co):(p.on L).length=L.length+p.count:=by rw[Pt.on,List.length_append,Pt.flat_length]
theorem plc_on (p:Pt)(L:List Co):plc (p.on L)=((L.length+p.count:Nat):Int) - 1:=by rw[plc,Pt.on_length]
theorem Pt.on_leaf (n:Co)(L:List Co):L++[n]=(Pt.mk n []).on L:=by
 simp[Pt.on,Pt.flat,Pt.flats,Pt.ends,Co.put]
theorem Pt.on_1 (n:Co)(A:Pt)(L:List Co):A.on L++[⟨n.op,plc (A.on L),n.b,n.c,n.num,n.val⟩]=(Pt.mk n [A]).on L:=by
 rw[plc_on]
 simp[Pt.on,Pt.flat,Pt.flats,Pt.ends,Co.put]
theorem Pt.on_2 (n:Co)(A B:Pt)(L:List Co):B.on (A.on L)++[⟨n.op,plc (A.on L),plc (B.on (A.on L)),n.c,n.num,n.val⟩]=(Pt.mk n [A,B]).on L:=by
 rw[plc_on,plc_on,Pt.on_length]
 simp[Pt.on,Pt.flat,Pt.flats,Pt.ends,Co.put,Pt.flat_length]
theorem Pt.on_3 (n:Co)(A B C:Pt)(L:List Co):C.on (B.on (A.on L))++[⟨n.op,plc (A.on L),plc (B.on (A.on L)),plc (C.on (B.on (A.on L))),n.num,n.val⟩]=(Pt.mk n [A,B,C]).on L:=by
 rw[plc_on,plc_on,plc_on,Pt.on_length,Pt.on_length]
 simp[Nat.add_assoc,Pt.on,Pt.flat,Pt.flats,Pt.ends,Co.put,Pt.flat_length]
section
variable {N:Nm}{Q:Exit→St→Prop}{tm:Nat→T}{R:List Ob}{ops l:List Oper}{ty:TypeId}{pos:String}{after:Array Edge}{gd:Option (Nat×Bool)}{d:Nat}{G:List Nat}
theorem WG.loS {ns:List Nd}{L L':List Co}{w c:Nat}{x:Int}{f:FuncId}{xs:List Operand}{tys:List TypeId}{args:List T}
 (hw:St.want ⟨tm,.pv [.d (nodesD ns),.og 1 w]:: .gr 6 59 (L.map Co.row) w false::R⟩ ops ⟨some d,.call ⟨.value (.func f),xs.toArray,tys.toArray⟩,ty,pos,after,gd⟩=some true) (hd:Nat.blt d N.n=true)
 (hc:FunQ env.P f args (Go.Proofs.YtmmjbpgdkokjgaaGreatDoor.loS ns L 0) (just (.d (dI x)) (Go.Proofs.YtmmjbpgdkokjgaaGreatDoor.loS ns L' c))) (ha:argsT env ⟨tm,.pv [.d (nodesD ns),.og 1 w]:: .gr 6 59 (L.map Co.row) w false::R⟩ false xs tys++[]=T.renL ⟨[0,1],[0,w],R.length+2⟩ args)
 (hlp:T.lpOKL ⟨[0,1],[0,w],R.length+2⟩ args=true)
 (k:WG G env.P N ops l Q ⟨upd tm d (.d (dI x)),.pv [.d (nodesD ns),.og 1 (w+c)]:: .gr 6 59 (L'.map Co.row) (w+c) false::R⟩):
 WG G env.P N ops (⟨some d,.call ⟨.value (.func f),xs.toArray,tys.toArray⟩,ty,pos,after,gd⟩::l) Q ⟨tm,.pv [.d (nodesD ns),.og 1 w]:: .gr 6 59 (L.map Co.row) w false::R⟩:=by
 refine WG.cq (E:=env) (K:=R.length+2) (t':=.d (dI x)) (ob2:=.pv [.d (nodesD ns),.og 1 (w+c)]:: .gr 6 59 (L'.map Co.row) (w+c) false::R) [0,1] [0,w] false hw hd hc rfl (by simp) ha hlp rfl rfl (by simp[startL,Ob.start,Ob.renOK,T.lpOKL,T.lpOK,Rn.of]) ⟨rfl,rfl,trivial⟩ (.inl rfl) rfl (fun h=>nomatch h) rfl ?_ k
 simp[mergeO,renFrom,Ob.ren,T.renL,T.ren,Rn.ix,Rn.of]
end
theorem RetR.loS {fn:Func}{e:Exit}{S:St}{ts:List T}{ns:List Nd}{L L':List Co}{w c:Nat}{x x':Int}{rest:List Ob}(he:e=.ret∨e=.normal)(hts:resL S fn.results.toList=some ts)(hok:resOK env.P S fn.results.toList)
 (hn:norm S.ob (resT ts)=.d (dI x)) (hob:S.ob=.pv [.d (nodesD ns),.og 1 w]:: .gr 6 59 (L.map Co.row) w false::rest) (hL:L=L') (hv:w=c) (hx:x=x'):RetR env.P fn 2 (just (.d (dI x')) (Go.Proofs.YtmmjbpgdkokjgaaGreatDoor.loS ns L' c)) e S:=by
 subst hL;subst hv;subst hx
 refine RetR.own (t:=.d (dI x)) (ob':=Go.Proofs.YtmmjbpgdkokjgaaGreatDoor.loS ns L w) ⟨[0,1],[0,0],S.ob.length⟩ he hts hok hn rfl rfl rfl rfl ?_ ⟨?_,?_,trivial⟩ rfl ⟨rfl,rfl⟩
 ·simp[renOKL,Ob.renOK,Rn.of,T.lpOKL,T.lpOK]
 ·rw[hob];simp[Ob.ren,Rn.of,Rn.ix,T.renL,T.ren]
 ·rw[hob];simp[Ob.ren,Rn.of,Rn.ix]
theorem l6Put_fn (ns:List Nd)(L:List Co)(n:Co)(hl:L.length≤100000):FunQ env.P 65 [.lp 0 0,.d (.agg n.row)] (Go.Proofs.YtmmjbpgdkokjgaaGreatDoor.loS ns L 0) (just (.d (dI (plc (L++[n])))) (Go.Proofs.YtmmjbpgdkokjgaaGreatDoor.loS ns (L++[n]) 1)):=by
 have hr:(L++[n]).map Co.row=L.map Co.row++[n.row]:=by simp
 have hl2:(L.map Co.row++[n.row]).length=L.length+1:=by simp
 have hp:plc (L++[n])=(((L.map Co.row++[n.row]).length:Nat):Int) - 1:=by rw[←hr,List.length_map];rfl
 rw[hp]
 have hlm:(L.map Co.row).length=L.length:=by simp
 refine FunQ.intro Tryz.func65 rfl (by kernel_rfl) rfl ?_
 unfold Go.Proofs.YtmmjbpgdkokjgaaGreatDoor.loS
 rw[hr]
 generalize L.map Co.row=R at*
 repeat'(first|refine W.dre' (id:=1) [7,10] (fun f=>bif bt f 2 then [.pv [.d (nodesD ns),.og 1 1],.gr 6 59 (R++[n.row]) 1 false,.pv (n.row.map .d)] else bif bt f 1 then [.pv [.d (nodesD ns),.og 1 0],.gr 6 59 (R++[n.row]) 1 false,.pv (n.row.map .d)] else [.pv [.d (nodesD ns),.og 1 0],.gr 6 59 R 0 false,.pv (n.row.map .d)]) [(0,[0,1]),(0,[0]),(0,[0]),(0,[0]),(0,[0]),(0,[0]),(0,[0]),(1,[0]),(0,[1]),(0,[1]),(2,[1])] [.pv [.d (nodesD ns),.og 1 1],.gr 6 59 (R++[n.row]) 1 false,.pv (n.row.map .d)] ?_|refine Z2 ?_|refine Z1 ?_|fail)
 refine W.ret ?_
 exact RetR.own (ob':=[.pv [.d (nodesD ns),.og 1 1],.gr 6 59 (R++[n.row]) 1 false]) ⟨[0,1],[0,0],3⟩ (.inl rfl) rfl rO rfl rfl rfl rfl rfl rfl ⟨rfl,rfl,trivial⟩ rfl ⟨rfl,rfl⟩
section
variable (ns:List Nd)(L:List Co)
theorem putLeafS (op num:Int)(hl:L.length≤100000):FunQ env.P 65 [.lp 0 0,.d (.agg [dI op,dI 0,dI 0,dI 0,dI num,.sl 5 []])] (loS ns L 0) (just (.d (dI (plc ((Pt.lf op num).on L)))) (loS ns ((Pt.lf op num).on L) 1)):=by
 have:=l6Put_fn ns L ⟨op,0,0,0,num,[]⟩ hl
 rw[Pt.on_leaf] at this
 exact this
theorem putCvS (v:List Cell)(hl:L.length≤100000):FunQ env.P 65 [.lp 0 0,.d (.agg [dI 2,dI 0,dI 0,dI 0,dI 0,cellsD v])] (loS ns L 0) (just (.d (dI (plc ((Pt.cv v).on L)))) (loS ns ((Pt.cv v).on L) 1)):=by
 have:=l6Put_fn ns L ⟨2,0,0,0,0,v⟩ hl
 rw[Pt.on_leaf] at this
 exact this
theorem put1S (op:Int)(A:Pt)(hl:(A.on L).length≤100000):FunQ env.P 65 [.lp 0 0,.d (.agg [dI op,dI (plc (A.on L)),dI 0,dI 0,dI 0,.sl 5 []])] (loS ns (A.on L) 0) (just (.d (dI (plc ((Pt.n1 op A).on L)))) (loS ns ((Pt.n1 op A).on L) 1)):=by
 have:=l6Put_fn ns (A.on L) ⟨op,plc (A.on L),0,0,0,[]⟩ hl
 rw[Pt.on_1 ⟨op,0,0,0,0,[]⟩] at this
 exact this
theorem put2S (op num:Int)(v:List Cell)(A B:Pt)(hl:(B.on (A.on L)).length≤100000):FunQ env.P 65 [.lp 0 0,.d (.agg [dI op,dI (plc (A.on L)),dI (plc (B.on (A.on L))),dI 0,dI num,cellsD v])] (loS ns (B.on (A.on L)) 0) (just (.d (dI (plc ((Pt.n2 op num v A B).on L)))) (loS ns ((Pt.n2 op num v A B).on L) 1)):=by
 have:=l6Put_fn ns (B.on (A.on L)) ⟨op,plc (A.on L),plc (B.on (A.on L)),0,num,v⟩ hl
 rw[Pt.on_2 ⟨op,0,0,0,num,v⟩] at this
 exact this
theorem put3S (op num:Int)(A B C:Pt)(hl:(C.on (B.on (A.on L))).length≤100000):FunQ env.P 65 [.lp 0 0,.d (.agg [dI op,dI (plc (A.on L)),dI (plc (B.on (A.on L))),dI (plc (C.on (B.on (A.on L)))),dI num,.sl 5 []])] (loS ns (C.on (B.on (A.on L))) 0) (just (.d (dI (plc ((Pt.n3 op num A B C).on L)))) (loS ns ((Pt.n3 op num A B C).on L) 1)):=by
 have:=l6Put_fn ns (C.on (B.on (A.on L))) ⟨op,plc (A.on L),plc (B.on (A.on L)),plc (C.on (B.on (A.on L))),num,[]⟩ hl
 rw[Pt.on_3 ⟨op,0,0,0,num,[]⟩] at this
 exact this
end
theorem tru_count (b:Bool):(truP b).count=1:=rfl
theorem cv_count (v:List Cell):(Pt.cv v).count=1:=rfl
theorem lf_count (op num:Int):(Pt.lf op num).count=1:=rfl
theorem n1_count (op:Int)(A:Pt):(Pt.n1 op A).count=A.count+1:=by simp[Pt.n1,Pt.count,Pt.counts]
theorem n2_count (op num:Int)(v:List Cell)(A B:Pt):(Pt.n2 op num v A B).count=A.count+B.count+1:=by simp[Pt.n2,Pt.count,Pt.counts]
theorem n3_count (op num:Int)(A B C:Pt):(Pt.n3 op num A B C).count=A.count+B.count+C.count+1:=by simp[Pt.n3,Pt.count,Pt.counts];omega
theorem l6Num_fn (n:Int):Fun env.P 116 [dI n] (.d (cellsD (cellN n))) []:=by
 refine Fun.intro Tryz.func116 rfl (by kernel_rfl) rfl ?_
 repeat'(first|refine Z1 ?_)
 (refine W.ret ?_;first|refine RetR.agp' ?_ ?_|refine RetR.gp' ?_|(first|fail))
 rfl
theorem l6Str_fn (t:ByteArray):Fun env.P 67 [dS t] (.d (cellsD (cellT t))) []:=by
 refine Fun.intro Tryz.func67 rfl (by kernel_rfl) rfl ?_
 repeat'(first|refine Z1 ?_)
 (refine W.ret ?_;first|refine RetR.agp' ?_ ?_|refine RetR.gp' ?_|(first|fail))
 rfl
theorem l6BoolV_fn (b:Bool):Fun env.P 119 [dB b] (.d (cellsD (cellK (if b then 2 else 1)))) []:=by
 cases b<;>
 ·refine Fun.intro Tryz.func119 rfl (by kernel_rfl) rfl ?_
  repeat'(first|refine Z1 ?_)
  (refine W.ret ?_;first|refine RetR.agp' ?_ ?_|refine RetR.gp' ?_|(first|fail))
  rfl
theorem l6Bool_fn (ns:List Nd)(L:List Co)(b:Bool)(hl:L.length≤100000):FunQ env.P 63 [.lp 0 0,.d (dB b)] (loS ns L 0) (just (.d (dI (plc ((truP b).on L)))) (loS ns ((truP b).on L) 1)):=by
 have hb:=l6BoolV_fn b
 refine FunQ.intro Tryz.func63 rfl (by kernel_rfl) rfl ?_
 unfold Go.Proofs.YtmmjbpgdkokjgaaGreatDoor.loS
 repeat'(first|refine Z3 ?_|refine WG.loS rfl rfl (putCvS ns _ _ (by omega)) rfl rfl ?_|refine WG.c (E:=env) rfl rfl (hb) rfl rfl ?_)
 refine W.ret ?_
 exact RetR.loS (.inl rfl) rfl rO rfl rfl rfl rfl rfl
theorem l6Truth_fn (ns:List Nd)(L:List Co)(A:Pt)(hl:L.length+A.count≤90000):FunQ env.P 64 [.lp 0 0,.d (dI (plc (A.on L)))] (loS ns (A.on L) 0) (just (.d (dI (plc ((Pt.n3 12 0 A (truP true) (truP false)).on L)))) (loS ns ((Pt.n3 12 0 A (truP true) (truP false)).on L) 3)):=by
 have h1:=Pt.on_length A L
 have h2:=Pt.on_length (truP true) (A.on L)
 have h3:=Pt.on_length (truP false) ((truP true).on (A.on L))
 rw[tru_count] at h2 h3
 refine FunQ.intro Tryz.func64 rfl (by kernel_rfl) rfl ?_
 unfold Go.Proofs.YtmmjbpgdkokjgaaGreatDoor.loS
 repeat'(first|refine Z3 ?_|refine WG.loS rfl rfl (l6Bool_fn ns _ _ (by omega)) rfl rfl ?_|refine WG.loS rfl rfl (put3S ns _ _ _ _ _ _ (by omega)) rfl rfl ?_)
 refine W.ret ?_
 exact RetR.loS (.inl rfl) rfl rO rfl rfl rfl rfl rfl
theorem l6Slot_fn (names:List ByteArray)(t:ByteArray)(hl:names.length≤100000):Fun env.P 117 [namesD names,dS t] (.d (dI (slotM names t))) []:=by
 refine Fun.intro Tryz.func117 rfl (by kernel_rfl) rfl ?_
 repeat'(first|refine Z1 ?_|((refine SP (fun h=>?_) fun h=>?_)<;>(try(exfalso;first|contradiction|omega))))
 refine W.loop (fun m S=> ∃(i:Nat),m=names.length - i∧i≤names.length∧S=⟨ofL [(0,.d (namesD names)),(1,.d (dS t)),(5,vI .i64 (slotL t names i)),(6,vI .i64 i)],[]⟩) _ _ ⟨0,rfl,by omega,rfl⟩ lE ?_
 rintro m S ⟨i,rfl,hi,rfl⟩
 by_cases hlt:i<names.length
 ·have hs:slotL t names (i+1)=if names.getD (Int.toNat (i:Int)) default=t then(i:Int) else slotL t names i:=by rw[Int.toNat_natCast];rfl
  repeat'(first|refine Z1 ?_|((refine SP (fun h=>?_) fun h=>?_)<;>(try(exfalso;first|contradiction|omega))))
  all_goals first|(exfalso;omega)|skip
  ·rw[if_pos (by assumption)] at hs
   exact⟨_,_,by omega,⟨i+1,rfl,by omega,by rw[hs]⟩,lE⟩
  ·rw[if_neg (by assumption)] at hs
   exact⟨_,_,by omega,⟨i+1,rfl,by omega,by rw[hs]⟩,lE⟩
 ·obtain rfl:i=names.length:=by omega
  repeat'(first|refine Z1 ?_|((refine SP (fun h=>?_) fun h=>?_)<;>(try(exfalso;first|contradiction|omega))))
  (refine W.ret ?_;(first|refine RetQ.i' ?_))
  rfl
theorem l6Call_fn (ns:List Nd)(L:List Co)(t:ByteArray)(hl:L.length≤90000):FunQ env.P 118 [.lp 0 0,.d (dS t)] (loS ns L 0) (just (.d (dI (plc ((callP t).on L)))) (loS ns ((callP t).on L) (callP t).count)):=by
 have h1:=Pt.on_length (.lf 1 0) L
 have h2:=Pt.on_length (truP false) ((Pt.lf 1 0).on L)
 have h3:=Pt.on_length (truP true) ((truP false).on ((Pt.lf 1 0).on L))
 rw[tru_count] at h2 h3
 rw[lf_count] at h1
 refine FunQ.intro Tryz.func118 rfl (by kernel_rfl) rfl ?_
 unfold Go.Proofs.YtmmjbpgdkokjgaaGreatDoor.loS
 repeat'(first|refine Z1 ?_|refine WG.loS rfl rfl (l6Bool_fn ns _ _ (by omega)) rfl rfl ?_|refine WG.loS rfl rfl (put3S ns _ _ _ _ _ _ (by omega)) rfl rfl ?_|refine WG.loS rfl rfl (putLeafS ns _ _ _ (by omega)) rfl rfl ?_|fail|((refine SP (fun h=>?_) fun h=>?_)<;>(try(exfalso;first|contradiction|omega))))
 all_goals refine W.ret ?_
 all_goals refine RetR.loS (.inl rfl) rfl rO rfl rfl ?_ ?_ ?_
 all_goals (unfold callP;try unfold doM)
 all_goals simp [*,n3_count,lf_count,tru_count]
def GoL (ns:List Nd)(j:Int)(P:List ByteArray→Pt)(c:Nat):Prop:=(∀names,(P names).count≤5*c)∧ ∀(names:List ByteArray) (L:List Co),names.length+c≤10000→L.length+5*c≤5000→
 FunQ env.P 19 [.lp 0 0,.d (dI j),.d (namesD names)] (loS ns L 0) (just (.d (dI (plc ((P names).on L)))) (loS ns ((P names).on L) (P names).count))
section
variable {ns:List Nd}{n:Nd}{names:List ByteArray}{L:List Co}{A B C:List ByteArray→Pt}
theorem l6Leaf_1 (hop:n.op=1)(hn:names.length≤10000)(hl:L.length≤5000):FunQ env.P 61 [.lp 0 0,.d (.agg n.row),.d (namesD names)] (loS ns L 0) (just (.d (dI (plc ((Pt.lf 1 0).on L)))) (loS ns ((Pt.lf 1 0).on L) (Pt.lf 1 0).count)):=by
 obtain⟨op,a,b,c,num,text⟩:=n
 obtain rfl:op=1:=hop
 refine FunQ.intro Tryz.func61 rfl (by kernel_rfl) rfl ?_
 unfold Go.Proofs.YtmmjbpgdkokjgaaGreatDoor.loS
 repeat'(first|refine Z3 ?_|refine WG.loS rfl rfl (putLeafS ns _ _ _ (by(try simp only[Pt.on_length,tru_count,cv_count,lf_count,n1_count,n2_count,n3_count] at *);omega)) rfl rfl ?_)
 refine W.ret ?_
 exact RetR.loS (.inl rfl) rfl rO rfl rfl rfl rfl rfl
theorem l6Leaf_2 (hop:n.op=2)(hn:names.length≤10000)(hl:L.length≤5000):FunQ env.P 61 [.lp 0 0,.d (.agg n.row),.d (namesD names)] (loS ns L 0) (just (.d (dI (plc ((Pt.cv (cellN n.num)).on L)))) (loS ns ((Pt.cv (cellN n.num)).on L) (Pt.cv (cellN n.num)).count)):=by
 obtain⟨op,a,b,c,num,text⟩:=n
 obtain rfl:op=2:=hop
 have hv:=l6Num_fn num
 refine FunQ.intro Tryz.func61 rfl (by kernel_rfl) rfl ?_
 unfold Go.Proofs.YtmmjbpgdkokjgaaGreatDoor.loS
 repeat'(first|refine Z3 ?_|refine WG.loS rfl rfl (putCvS ns _ (cellN num) (by(try simp only[Pt.on_length,tru_count,cv_count,lf_count,n1_count,n2_count,n3_count] at *);omega)) rfl rfl ?_|refine WG.c (E:=env) rfl rfl (hv) rfl rfl ?_)
 refine W.ret ?_
 exact RetR.loS (.inl rfl) rfl rO rfl rfl rfl rfl rfl
theorem l6Leaf_3 (hop:n.op=3)(hn:names.length≤10000)(hl:L.length≤5000):FunQ env.P 61 [.lp 0 0,.d (.agg n.row),.d (namesD names)] (loS ns L 0) (just (.d (dI (plc ((Pt.cv (cellT n.text)).on L)))) (loS ns ((Pt.cv (cellT n.text)).on L) (Pt.cv (cellT n.text)).count)):=by
 obtain⟨op,a,b,c,num,text⟩:=n
 obtain rfl:op=3:=hop
 have hv:=l6Str_fn text
 refine FunQ.intro Tryz.func61 rfl (by kernel_rfl) rfl ?_
 unfold Go.Proofs.YtmmjbpgdkokjgaaGreatDoor.loS
 repeat'(first|refine Z3 ?_|refine WG.loS rfl rfl (putCvS ns _ (cellT text) (by(try simp only[Pt.on_length,tru_count,cv_count,lf_count,n1_count,n2_count,n3_count] at *);omega)) rfl rfl ?_|refine WG.c (E:=env) rfl rfl (hv) rfl rfl ?_)
 refine W.ret ?_
 exact RetR.loS (.inl rfl) rfl rO rfl rfl rfl rfl rfl
theorem l6Leaf_4 (hop:n.op=4)(hn:names.length≤10000)(hl:L.length≤5000):FunQ env.P 61 [.lp 0 0,.d (.agg n.row),.d (namesD names)] (loS ns L 0) (just (.d (dI (plc ((Pt.cv (cellK n.num)).on L)))) (loS ns ((Pt.cv (cellK n.num)).on L) (Pt.cv (cellK n.num)).count)):=by
 obtain⟨op,a,b,c,num,text⟩:=n
 obtain rfl:op=4:=hop
 refine FunQ.intro Tryz.func61 rfl (by kernel_rfl) rfl ?_
 unfold Go.Proofs.YtmmjbpgdkokjgaaGreatDoor.loS
 repeat'(first|refine Z3 ?_|refine WG.pubK 3 rfl ?_|refine WG.loS rfl rfl (putCvS ns _ (cellK num) (by(try simp only[Pt.on_length,tru_count,cv_count,lf_count,n1_count,n2_count,n3_count] at *);omega)) rfl rfl ?_)
 refine W.ret ?_
 exact RetR.loS (.inl rfl) rfl rO rfl rfl rfl rfl rfl
theorem l6Leaf_15 (hop:n.op=15)(hn:names.length≤10000)(hl:L.length≤5000):FunQ env.P 61 [.lp 0 0,.d (.agg n.row),.d (namesD names)] (loS ns L 0) (just (.d (dI (plc ((Pt.cv (cellK 5)).on L)))) (loS ns ((Pt.cv (cellK 5)).on L) (Pt.cv (cellK 5)).count)):=by
 obtain⟨op,a,b,c,num,text⟩:=n
 obtain rfl:op=15:=hop
 refine FunQ.intro Tryz.func61 rfl (by kernel_rfl) rfl ?_
 unfold Go.Proofs.YtmmjbpgdkokjgaaGreatDoor.loS
 repeat'(first|refine Z3 ?_|refine WG.pubK 3 rfl ?_|refine WG.loS rfl rfl (putCvS ns _ (cellK 5) (by(try simp only[Pt.on_length,tru_count,cv_count,lf_count,n1_count,n2_count,n3_count] at *);omega)) rfl rfl ?_)
 refine W.ret ?_
 exact RetR.loS (.inl rfl) rfl rO rfl rfl rfl rfl rfl
theorem l6Leaf_16 (hop:n.op=16)(hn:names.length≤10000)(hl:L.length≤5000):FunQ env.P 61 [.lp 0 0,.d (.agg n.row),.d (namesD names)] (loS ns L 0) (just (.d (dI (plc ((Pt.cv (cellK 6)).on L)))) (loS ns ((Pt.cv (cellK 6)).on L) (Pt.cv (cellK 6)).count)):=by
 obtain⟨op,a,b,c,num,text⟩:=n
 obtain rfl:op=16:=hop
 refine FunQ.intro Tryz.func61 rfl (by kernel_rfl) rfl ?_
 unfold Go.Proofs.YtmmjbpgdkokjgaaGreatDoor.loS
 repeat'(first|refine Z3 ?_|refine WG.pubK 3 rfl ?_|refine WG.loS rfl rfl (putCvS ns _ (cellK 6) (by(try simp only[Pt.on_length,tru_count,cv_count,lf_count,n1_count,n2_count,n3_count] at *);omega)) rfl rfl ?_)
 refine W.ret ?_
 exact RetR.loS (.inl rfl) rfl rO rfl rfl rfl rfl rfl
theorem l6Leaf_24 (hop:n.op=24)(hn:names.length≤10000)(hl:L.length≤5000):FunQ env.P 61 [.lp 0 0,.d (.agg n.row),.d (namesD names)] (loS ns L 0) (just (.d (dI (plc ((Pt.n1 8 (.lf 16 7)).on L)))) (loS ns ((Pt.n1 8 (.lf 16 7)).on L) (Pt.n1 8 (.lf 16 7)).count)):=by
 obtain⟨op,a,b,c,num,text⟩:=n
 obtain rfl:op=24:=hop
 refine FunQ.intro Tryz.func61 rfl (by kernel_rfl) rfl ?_
 unfold Go.Proofs.YtmmjbpgdkokjgaaGreatDoor.loS
 repeat'(first|refine Z3 ?_|refine WG.loS rfl rfl (put1S ns _ _ _ (by(try simp only[Pt.on_length,tru_count,cv_count,lf_count,n1_count,n2_count,n3_count] at *);omega)) rfl rfl ?_|refine WG.loS rfl rfl (putLeafS ns _ _ _ (by(try simp only[Pt.on_length,tru_count,cv_count,lf_count,n1_count,n2_count,n3_count] at *);omega)) rfl rfl ?_)
 refine W.ret ?_
 exact RetR.loS (.inl rfl) rfl rO rfl rfl rfl rfl rfl
theorem l6Leaf_21 (hop:n.op=21)(hn:names.length≤10000)(hl:L.length≤5000):FunQ env.P 61 [.lp 0 0,.d (.agg n.row),.d (namesD names)] (loS ns L 0) (just (.d (dI (plc ((Pt.lf 15 (slotM names n.text)).on L)))) (loS ns ((Pt.lf 15 (slotM names n.text)).on L) (Pt.lf 15 (slotM names n.text)).count)):=by
 obtain⟨op,a,b,c,num,text⟩:=n
 obtain rfl:op=21:=hop
 have hv:=l6Slot_fn names text (by omega)
 refine FunQ.intro Tryz.func61 rfl (by kernel_rfl) rfl ?_
 unfold Go.Proofs.YtmmjbpgdkokjgaaGreatDoor.loS
 repeat'(first|refine Z3 ?_|refine WG.loS rfl rfl (putLeafS ns _ _ _ (by(try simp only[Pt.on_length,tru_count,cv_count,lf_count,n1_count,n2_count,n3_count] at *);omega)) rfl rfl ?_|refine WG.c (E:=env) rfl rfl (hv) rfl rfl ?_)
 refine W.ret ?_
 exact RetR.loS (.inl rfl) rfl rO rfl rfl rfl rfl rfl
theorem l6Leaf_22 (hop:n.op=22)(hn:names.length≤10000)(hl:L.length≤5000):FunQ env.P 61 [.lp 0 0,.d (.agg n.row),.d (namesD names)] (loS ns L 0) (just (.d (dI (plc ((callP n.text).on L)))) (loS ns ((callP n.text).on L) (callP n.text).count)):=by
 obtain⟨op,a,b,c,num,text⟩:=n
 obtain rfl:op=22:=hop
 refine FunQ.intro Tryz.func61 rfl (by kernel_rfl) rfl ?_
 unfold Go.Proofs.YtmmjbpgdkokjgaaGreatDoor.loS
 repeat'(first|refine Z3 ?_|refine WG.loS rfl rfl (l6Call_fn ns _ text (by omega)) rfl rfl ?_)
 refine W.ret ?_
 exact RetR.loS (.inl rfl) rfl rO rfl rfl rfl (Nat.zero_add _) rfl
end
end Go.Proofs.YtmmjbpgdkokjgaaGreatDoor
