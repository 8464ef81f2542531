/-
  A text of this claim. Conditions: none.
-/
import Derived.Test.YtmmjbpgdkokjgaaGreatDoorQLPgE
import Derived.Test.YtmmjbpgdkokjgaaGreatDoorQLOr1
set_option linter.unusedVariables false
set_option linter.unusedSimpArgs false
set_option maxRecDepth 100000
set_option maxHeartbeats 16000000
namespace Go.Proofs.YtmmjbpgdkokjgaaGreatDoor
open Go.RowKit
def ownH (h:Nat→Option Obj)(e:TypeId)(z:Nat)(v:Value)(n:Nat)(xs:List Value):Prop:=
 xs.length=n*z∧((v=.slice none 0 0∧n=0)∨ ∃b cap cur,v=.slice (some ⟨b,0,none⟩) n cap∧h b=some (.cells cur e (0,0))∧n≤cap∧cap≤maxLen∧cur.size=cap*z∧cur.toList.take (n*z)=xs)
theorem ownH_iff {w:World}{e:TypeId}{z n:Nat}{v:Value}{xs:List Value}:ownH (fun b=>w.heap[b]?) e z v n xs↔w.ownsRow 0 e z v n xs:=by
 unfold ownH World.ownsRow
 constructor
 ·rintro⟨h1,h2|⟨b,cap,cur,hv,rest⟩⟩
  ·exact⟨h1,.inl h2⟩
  ·exact⟨h1,.inr ⟨b,cap,cur,hv,Nat.zero_le _,rest⟩⟩
 ·rintro⟨h1,h2|⟨b,cap,cur,hv,_,rest⟩⟩
  ·exact⟨h1,.inl h2⟩
  ·exact⟨h1,.inr ⟨b,cap,cur,hv,rest⟩⟩
theorem ownH.mono {h h':Nat→Option Obj}{e:TypeId}{z n:Nat}{v:Value}{xs:List Value}(k:ownH h e z v n xs)(hb: ∀b,v.ownBlock=some b→h' b=h b):ownH h' e z v n xs:=by
 obtain⟨h1,h2|⟨b,cap,cur,hv,hh,rest⟩⟩:=k
 ·exact⟨h1,.inl h2⟩
 ·exact⟨h1,.inr ⟨b,cap,cur,hv,(hb b (by simp[hv,Value.ownBlock])).trans hh,rest⟩⟩
theorem ownH.one {h:Nat→Option Obj}{e:TypeId}{z n:Nat}{v:Value}{xs:List Value}(k:ownH h e z v n xs):v.oneCell'=true:=by
 obtain⟨h1,⟨h2,_⟩|⟨b,cap,cur,hv,hh,rest⟩⟩:=k
 ·rw[h2];rfl
 ·rw[hv];rfl
theorem RD.own {σ:Sto}{h:Nat→Option Obj}{e:TypeId}{z:Nat}{v:Value}{rows:List (List D)}{xs:List Value}(k:ownH h e z v rows.length xs)(hz: ∀r∈rows,r.length=z)
 (hr: ∀(i j:Nat) (r:List D) (x:D),rows[i]? =some r→r[j]? =some x→ ∃u,xs[i*z+j]? =some u∧RD σ x u) (h1: ∀u∈xs,u.oneCell'=true)
 (hs: ∀(b o:Nat) (u:Value),v.ownBlock=some b→xs[o]? =some u→σ b o=some u):RD σ (.sl z rows) v:=by
 rcases k.2 with⟨hv,hn⟩|⟨b,cap,cur,hv,hh,hcap,hm,hcs,hxs⟩
 ·rw[hv]
  have:rows=[]:=List.eq_nil_of_length_eq_zero hn
  subst this
  exact .nil z none
 ·have hsb:=fun o u=>hs b o u (by rw[hv];rfl)
  rw[hv]
  have hlen:=k.1
  have hin: ∀i j,i<rows.length→j<z→i*z+j<xs.length:=fun i j hi hj=>by rw[hlen];exact row_lt hi hj
  refine .sl z rows b 0 cap (fun i j=>(xs[i*z+j]?).getD undef) hcap hm hz (fun i j hi hj=>?_) (fun i j r x hr' hx=>?_)
  ·have:=hin i j hi hj
   have e1:xs[i*z+j]? =some xs[i*z+j]:=List.getElem?_eq_getElem this
   rw[Nat.zero_add,e1]
   exact⟨hsb _ _ e1,h1 _ (List.getElem_mem this)⟩
  ·obtain⟨u,hu,hd⟩:=hr i j r x hr' hx
   rw[hu]
   exact hd
def rowOK (σ:Sto)(h:Nat→Option Obj)(e:TypeId)(z:Nat)(q:List (List D))(u:Value):Prop:=
 ∃xs,ownH h e z u q.length xs∧(∀p∈q,p.length=z)∧
  (∀(a j:Nat) (p:List D) (x:D),q[a]? =some p→p[j]? =some x→ ∃y,xs[a*z+j]? =some y∧RD σ x y)∧ ∀y∈xs,y.oneCell'=true
theorem rowOK.mono {σ σ':Sto}{h h':Nat→Option Obj}{e:TypeId}{z:Nat}{q:List (List D)}{u:Value}(k:rowOK σ h e z q u)(hσ: ∀b o u,σ b o=some u→σ' b o=some u)(hb: ∀b,u.ownBlock=some b→h' b=h b):
 rowOK σ' h' e z q u:=by
 obtain⟨xs,h1,h2,h3,h4⟩:=k
 refine⟨xs,h1.mono hb,h2,fun a j p x hp hx=>?_,h4⟩
 obtain⟨y,hy,hd⟩:=h3 a j p x hp hx
 exact⟨y,hy,hd.mono hσ⟩
theorem rowOK.nil (σ:Sto)(h:Nat→Option Obj)(e:TypeId)(z:Nat):rowOK σ h e z [] (.slice none 0 0):=
 ⟨[],⟨by simp,.inl ⟨rfl,rfl⟩⟩,fun p hp=>by simp at hp,fun a j p x hp=>by simp at hp,fun y hy=>by simp at hy⟩
structure NR where
 c:List D
 own:Option (List (List D))
structure NestOK (eo:TypeId) (z j0:Nat) (ei:TypeId) (zi:Nat) (rows:List NR) (σ:Sto) (h:Nat→Option Obj) (F:Nat→Prop) (v:Value) (us:List Value):Prop where
 outer:ownH h eo z v rows.length us
 fo: ∀b,v.ownBlock=some b→F b
 one: ∀u∈us,u.oneCell'=true
 len: ∀r∈rows,r.c.length=z
 cell: ∀(i j:Nat) (r:NR) (x:D),rows[i]? =some r→j≠j0→r.c[j]? =some x→ ∃u,us[i*z+j]? =some u∧RD σ x u
 inner: ∀(i:Nat) (r:NR) (q:List (List D)),rows[i]? =some r→r.own=some q→ ∃u,us[i*z+j0]? =some u∧rowOK σ h ei zi q u∧ ∀b,u.ownBlock=some b→F b∧v.ownBlock≠some b
 dis: ∀(i i':Nat) (r r':NR) (q q':List (List D)) (u u':Value) (b:Nat),i≠i'→rows[i]? =some r→rows[i']? =some r'→r.own=some q→r'.own=some q'→us[i*z+j0]? =some u→us[i'*z+j0]? =some u'→
  u.ownBlock=some b→u'.ownBlock≠some b
def datN (j0 zi:Nat):List NR→Option (List (List D))
 |[]=>some []
 |r::s=>match r.own,datN j0 zi s with
  |some q,some t=>some (r.c.set j0 (.sl zi q)::t)
  |_,_=>none
theorem datN_at {j0 zi:Nat}: ∀ {rows:List NR} {ds:List (List D)},datN j0 zi rows=some ds→rows.length=ds.length∧ ∀(i:Nat) (d:List D),ds[i]? =some d→ ∃r q,rows[i]? =some r∧r.own=some q∧d=r.c.set j0 (.sl zi q)
 |[],ds,h=>by
  simp only[datN,Option.some.injEq] at h
  subst h
  exact⟨rfl,fun i d hd=>by simp at hd⟩
 |r::s,ds,h=>by
  unfold datN at h
  cases ho:r.own with
  |none=>rw[ho] at h;cases h
  |some q=>
   cases ht:datN j0 zi s with
   |none=>rw[ho,ht] at h;cases h
   |some t=>
    rw[ho,ht] at h
    simp only[Option.some.injEq] at h
    subst h
    obtain⟨h1,h2⟩:=datN_at ht
    refine⟨by simp[h1],fun i d hd=>?_⟩
    cases i with
    |zero=>simp at hd;exact⟨r,q,rfl,ho,hd.symm⟩
    |succ i=>exact h2 i d (by simpa using hd)
theorem datN_map {α:Type}(j0 zi:Nat)(c:α→List D)(q:α→List (List D)): ∀l:List α,datN j0 zi (l.map fun a=>⟨c a,some (q a)⟩)=some (l.map fun a=>(c a).set j0 (.sl zi (q a)))
 |[]=>rfl
 |a::l=>by simp[datN,datN_map j0 zi c q l]
def nestX (eo:TypeId)(z j0:Nat)(ei:TypeId)(zi:Nat)(rows:List NR)(hint:Option (Nat×Value))(dd:Option (List (List D))):ObX where
 ok σ h F v:=j0<z∧(∃us,NestOK eo z j0 ei zi rows σ h F v us∧ ∀i U,hint=some (i,U)→us[i*z+j0]? =some U)∧ ∀ds,dd=some ds→datN j0 zi rows=some ds
 mono:=by
  rintro σ σ' h h' F v hσ hF ⟨hj,⟨us,k,hU⟩,hd⟩
  refine⟨hj,⟨us,⟨k.outer.mono fun b hb=>hF b (k.fo b hb),k.fo,k.one,k.len,fun i j r x hr hj hx=>?_,fun i r q hr hq=>?_,k.dis⟩,hU⟩,hd⟩
  ·obtain⟨u,hu,hd⟩:=k.cell i j r x hr hj hx
   exact⟨u,hu,hd.mono hσ⟩
  ·obtain⟨u,h1,h2,h3⟩:=k.inner i r q hr hq
   exact⟨u,h1,h2.mono hσ fun b hb=>hF b (h3 b hb).1,h3⟩
 one:=by
  rintro σ h F v ⟨_,⟨us,k,_⟩,_⟩
  exact k.outer.one
 dat:=dd.map fun ds=>.sl z ds
 read:=by
  rintro σ σ' h F v d hd ⟨hj,⟨us,k,_⟩,hds⟩ hσ hF
  cases dd with
  |none=>cases hd
  |some ds=>
   simp only[Option.map_some,Option.some.injEq] at hd
   subst hd
   obtain⟨hl,hat⟩:=datN_at (hds ds rfl)
   have cells: ∀ {e:TypeId} {z n:Nat} {v:Value} {xs:List Value},ownH h e z v n xs→(∀b,v.ownBlock=some b→F b)→ ∀(b o:Nat) (u:Value),v.ownBlock=some b→xs[o]? =some u→σ' b o=some u:=by
    intro e z n v xs ho hf b o u hb hu
    rcases ho.2 with⟨hv,_⟩|⟨b',cap,cur,hv,hh,_,_,_,hxs⟩
    ·rw[hv] at hb;cases hb
    ·have hb':b'=b:=by rw[hv] at hb;simpa [Value.ownBlock] using hb
     subst hb'
     refine hF b' o cur e u (hf b' hb) hh ?_
     rw[←hxs,List.getElem?_take] at hu
     split at hu
     ·simpa using hu
     ·cases hu
   refine RD.own (by rw[←hl];exact k.outer) (fun r hr=>?_) (fun i j r x hr hx=>?_) k.one fun b o u hb hu=>cells k.outer k.fo b o u hb hu
   ·obtain⟨i,hi⟩:=List.getElem?_of_mem hr
    obtain⟨p,q,h1,h2,h3⟩:=hat i r hi
    rw[h3,List.length_set]
    exact k.len p (List.mem_of_getElem? h1)
   ·obtain⟨p,q,h1,h2,h3⟩:=hat i r hr
    subst h3
    have hpl:=k.len p (List.mem_of_getElem? h1)
    by_cases hjj:j=j0
    ·subst hjj
     rw[List.getElem?_set_self (by omega)] at hx
     simp only[Option.some.injEq] at hx
     subst hx
     obtain⟨u,hu,⟨xs,g1,g2,g3,g4⟩,hub⟩:=k.inner i p q h1 h2
     refine⟨u,hu,RD.own g1 g2 (fun a j r x hr hx=>?_) g4 fun b o y hb hy=>cells g1 (fun b hb=>(hub b hb).1) b o y hb hy⟩
     obtain⟨y,hy,hd⟩:=g3 a j r x hr hx
     exact⟨y,hy,hd.mono hσ⟩
    ·rw[List.getElem?_set_ne (fun e=>hjj e.symm)] at hx
     obtain⟨u,hu,hd⟩:=k.cell i j p x h1 hjj hx
     exact⟨u,hu,hd.mono hσ⟩
theorem Gh.le_foot (g:Gh)(f:Nat→Nat→Prop):g.le { g with foot:=f }:=⟨fun _ _ _ h=>h,fun _ _ h=>⟨h,rfl⟩⟩
theorem Gh.le_tr {a b c:Gh}(h:a.le b)(k:b.le c):a.le c:=⟨fun b o u hu=>k.σ b o u (h.σ b o u hu),fun i n hn=>let ⟨h1,h2⟩:=h.γ i n hn;let ⟨h3,h4⟩:=k.γ i n h1;⟨h3,h4.trans h2⟩⟩
theorem setAll_full {α:Type}: ∀(c ds:List α),ds.length=c.length→setAll c 0 ds=ds:=by
 intro c ds h
 apply List.ext_getElem?
 intro i
 rw[setAll_at ds c 0 i (by omega)]
 by_cases hi:i<ds.length
 ·rw[if_pos ⟨Nat.zero_le _,by omega⟩,Nat.sub_zero]
 ·rw[if_neg (by omega),List.getElem?_eq_none (by omega),List.getElem?_eq_none (by omega)]
section
variable {w0:World}{σ0:Bs}{ob:List Ob}{w:World}{g:Gh}
theorem Inv.recast (I:Inv w0 σ0 ob w g){k:Nat}{o o':Ob}(F:Nat→Prop)(hk:ob[k]? =some o)
 (hok:ObOK (mineB w0 σ0) { g with foot:=fun j=>if j=k then F else g.foot j } w k o') (hat: ∀b,Gh.at { g with foot:=fun j=>if j=k then F else g.foot j } k o' b→g.at k o b):
 Inv w0 σ0 (ob.set k o') w { g with foot:=fun j=>if j=k then F else g.foot j }:=by
 have hlt:k<ob.length:=(List.getElem?_eq_some_iff.1 hk).1
 have hle:g.le { g with foot:=fun j=>if j=k then F else g.foot j }:=⟨fun _ _ _ h=>h,fun _ _ h=>⟨h,rfl⟩⟩
 have hget: ∀(j:Nat) (p:Ob),(ob.set k o')[j]? =some p→(j=k∧p=o')∨(j≠k∧ob[j]? =some p):=fun j p hp=>by
  by_cases hj:k=j
  ·subst hj
   rw[List.getElem?_set_self hlt] at hp
   exact .inl ⟨rfl,(Option.some.inj hp).symm⟩
  ·rw[List.getElem?_set_ne hj] at hp
   exact .inr ⟨fun h=>hj h.symm,hp⟩
 have same: ∀(j:Nat) (p:Ob) (b:Nat),j≠k→ob[j]? =some p→Gh.at { g with foot:=fun j=>if j=k then F else g.foot j } j p b→g.at j p b:=fun j p b hj hp hb=>by
  cases p with
  |x X n=>simpa [Gh.at,hj] using hb
  |dead=>exact hb.elim
  |new=>exact hb.elim
  |pv cs=>exact hb
  |gr z e rows n pub=>exact hb
 refine⟨I.below,I.old,I.con,fun j p hp=>?_,fun j hj=>I.lim j (by simpa using hj),fun i j p p' b hne hp hp' hb hb'=>?_,I.ext⟩
 ·rcases hget j p hp with⟨rfl,rfl⟩|⟨hj,hp⟩
  ·exact hok
  ·exact(I.obs j p hp).mono hle rfl (by simp[hj]) (fun b hbk=>⟨rfl,fun x=>rfl⟩) (Nat.le_refl _)
 ·rcases hget i p hp with⟨h1,h2⟩|⟨hi,hp2⟩
  ·subst h1 h2
   rcases hget j p' hp' with⟨h3,h4⟩|⟨hj,hp2'⟩
   ·exact hne h3.symm
   ·exact I.dis _ j o p' b hne hk hp2' (hat b hb) (same j p' b hj hp2' hb')
  ·rcases hget j p' hp' with⟨h3,h4⟩|⟨hj,hp2'⟩
   ·subst h3 h4
    exact I.dis i _ p o b hne hp2 hk (same i p b hi hp2 hb) (hat b hb')
   ·exact I.dis i j p p' b hne hp2 hp2' (same i p b hi hp2 hb) (same j p' b hj hp2' hb')
theorem Inv.merge (I:Inv w0 σ0 ob w g){k K:Nat}{o p o':Ob}(F:Nat→Prop)(hkK:k≠K)(hk:ob[k]? =some o)(hK:ob[K]? =some p)
 (hok:ObOK (mineB w0 σ0) { g with foot:=fun j=>if j=k then F else g.foot j } w k o') (hat: ∀b,Gh.at { g with foot:=fun j=>if j=k then F else g.foot j } k o' b→g.at k o b∨g.at K p b):
 Inv w0 σ0 ((ob.set k o').set K .dead) w { g with foot:=fun j=>if j=k then F else g.foot j }:=by
 have hlt:k<ob.length:=(List.getElem?_eq_some_iff.1 hk).1
 have hltK:K<ob.length:=(List.getElem?_eq_some_iff.1 hK).1
 have hle:=Gh.le_foot g fun j=>if j=k then F else g.foot j
 have hget: ∀(j:Nat) (q:Ob),((ob.set k o').set K .dead)[j]? =some q→(j=k∧q=o')∨(j=K∧q=.dead)∨(j≠k∧j≠K∧ob[j]? =some q):=fun j q hq=>by
  by_cases hj:K=j
  ·subst hj
   rw[List.getElem?_set_self (by simpa using hltK)] at hq
   exact .inr (.inl ⟨rfl,(Option.some.inj hq).symm⟩)
  ·rw[List.getElem?_set_ne hj] at hq
   by_cases hj2:k=j
   ·subst hj2
    rw[List.getElem?_set_self hlt] at hq
    exact .inl ⟨rfl,(Option.some.inj hq).symm⟩
   ·rw[List.getElem?_set_ne hj2] at hq
    exact .inr (.inr ⟨fun h=>hj2 h.symm,fun h=>hj h.symm,hq⟩)
 have same: ∀(j:Nat) (q:Ob) (b:Nat),j≠k→Gh.at { g with foot:=fun j=>if j=k then F else g.foot j } j q b→g.at j q b:=fun j q b hj hb=>by
  cases q with
  |x X n=>simpa [Gh.at,hj] using hb
  |dead=>exact hb.elim
  |new=>exact hb.elim
  |pv cs=>exact hb
  |gr z e rows n pub=>exact hb
 refine⟨I.below,I.old,I.con,fun j q hq=>?_,fun j hj=>I.lim j (by simpa using hj),fun i j q q' b hne hq hq' hb hb'=>?_,I.ext⟩
 ·rcases hget j q hq with⟨rfl,rfl⟩|⟨rfl,rfl⟩|⟨hj,_,hq⟩
  ·exact hok
  ·trivial
  ·exact(I.obs j q hq).mono hle rfl (by simp[hj]) (fun b hbk=>⟨rfl,fun x=>rfl⟩) (Nat.le_refl _)
 ·rcases hget i q hq with⟨h1,h2⟩|⟨h1,h2⟩|⟨hi,hiK,hq2⟩
  ·subst h1 h2
   rcases hget j q' hq' with⟨h3,h4⟩|⟨h3,h4⟩|⟨hj,hjK,hq2'⟩
   ·exact hne h3.symm
   ·subst h4;exact hb'
   ·have h5:=same j q' b hj hb'
    rcases hat b hb with h|h
    ·exact I.dis _ j o q' b hne hk hq2' h h5
    ·exact I.dis K j p q' b (fun e=>hjK e.symm) hK hq2' h h5
  ·subst h2;exact hb
  ·have h6:=same i q b hi hb
   rcases hget j q' hq' with⟨h3,h4⟩|⟨h3,h4⟩|⟨hj,hjK,hq2'⟩
   ·subst h3 h4
    rcases hat b hb' with h|h
    ·exact I.dis i _ q o b hi hq2 hk h6 h
    ·exact I.dis i K q p b hiK hq2 hK h6 h
   ·subst h4;exact hb'
   ·exact I.dis i j q q' b hne hq2 hq2' h6 (same j q' b hj hb')
theorem Inv.nestSet (I:Inv w0 σ0 ob w g){w':World}{k n z j0 zi i off b len cap:Nat}{eo ei e':TypeId}{rows:List NR}{hint:Option (Nat×Value)}{dd:Option (List (List D))}{r:NR}{vals:List D}{us cur:List Value}
 {own':Option (List (List D))} {hint':Option (Nat×Value)} (hk:ob[k]? =some (.x (nestX eo z j0 ei zi rows hint dd) n))
 (hγ:g.γ k n=.slice (some ⟨b,0,none⟩) len cap) (hh:w.heap[b]? =some (.cells cur.toArray e' (0,0))) (hr:rows[i]? =some r) (hoff:off+vals.length≤z) (hul:vals.length=us.length)
 (hrd: ∀(j:Nat) (x:D) (u:Value),off+j≠j0→vals[j]? =some x→us[j]? =some u→RD g.σ x u) (h1: ∀u∈us,u.oneCell'=true)
 (hj:(own'=none∧ ∀i' U,hint'=some (i',U)→i'=i∧off≤j0∧us[j0 - off]? =some U)∨(own'=r.own∧hint'=none∧(j0<off∨off+vals.length≤j0))∨
   (own'=some []∧hint'=none∧off≤j0∧us[j0 - off]? =some (.slice none 0 0)))
 (hh':w'.heap[b]? =some (.cells (setAll cur (i*z+off) us).toArray e' (0,0))) (hos:w'.os=w.os) (htape:w'.tape=w.tape) (hout:w'.output=w.output) (hsize:w'.heap.size=w.heap.size)
 (hother: ∀k,k≠b→w'.heap[k]? =w.heap[k]?):Inv w0 σ0 (ob.set k (.x (nestX eo z j0 ei zi (rows.set i ⟨setAll r.c off vals,own'⟩) hint' none) n)) w' g:=by
 obtain⟨hlim,⟨hjz,⟨xs,hN,_⟩,_⟩,hF⟩:=I.obs k _ hk
 have hil:i<rows.length:=(List.getElem?_eq_some_iff.1 hr).1
 have hrz:r.c.length=z:=hN.len r (List.mem_of_getElem? hr)
 have hbF:g.foot k b:=hN.fo b (by rw[hγ];rfl)
 obtain⟨hxl,ho⟩:=hN.outer
 rcases ho with⟨hv,_⟩|⟨b2,cap2,cur2,hv,hh2,hc1,hc2,hcs,htk⟩
 ·rw[hγ] at hv;cases hv
 have hγ0:=hγ
 rw[hγ] at hv
 injection hv with e1 e2 e3
 injection e1 with e1
 injection e1 with e1 _ _
 subst e1 e2 e3
 have hh2:w.heap[b]? =some (.cells cur2 eo (0,0)):=hh2
 rw[hh] at hh2
 injection hh2 with hh2
 injection hh2 with e4 e5 _
 subst e4 e5
 have hpos:i*z+off+us.length≤rows.length*z:=by
  have h1:(i+1)*z≤rows.length*z:=Nat.mul_le_mul_right _ hil
  rw[Nat.add_mul] at h1
  omega
 have hcl:cur.length=cap*z:=by simpa using hcs
 have htk2:cur.take (rows.length*z)=xs:=by simpa using htk
 have hcaps:rows.length*z≤cur.length:=by rw[hcl];exact Nat.mul_le_mul_right _ hc1
 have hxs':(setAll cur (i*z+off) us).take (rows.length*z)=setAll xs (i*z+off) us:=by rw[setAll_take _ _ _ _ hpos hcaps,htk2]
 have hat: ∀p,(setAll xs (i*z+off) us)[p]? =if i*z+off≤p∧p<i*z+off+us.length then us[p - (i*z+off)]? else xs[p]? :=fun p=>setAll_at us xs (i*z+off) p (by rw[hxl];exact hpos)
 have hat2: ∀i' j,i'≠i→j<z→(setAll xs (i*z+off) us)[i'*z+j]? =xs[i'*z+j]? :=fun i' j hne hj'=>by
  rw[hat,if_neg fun h=>hne (row_in hj' (by omega) h.1 h.2)]
 have hrow: ∀(i':Nat) (r':NR),(rows.set i ⟨setAll r.c off vals,own'⟩)[i']? =some r'→(i'=i∧r'=⟨setAll r.c off vals,own'⟩)∨(i'≠i∧rows[i']? =some r'):=fun i' r' h=>by
  by_cases hi:i=i'
  ·subst hi
   rw[List.getElem?_set_self hil] at h
   exact .inl ⟨rfl,(Option.some.inj h).symm⟩
  ·rw[List.getElem?_set_ne hi] at h
   exact .inr ⟨fun e=>hi e.symm,h⟩
 -- the own slice of the row that is written
 have hin: ∀q,own'=some q→ ∃u,(setAll xs (i*z+off) us)[i*z+j0]? =some u∧((own'=r.own∧xs[i*z+j0]? =some u)∨(q=[]∧u=.slice none 0 0)):=fun q hq=>by
  rcases hj with⟨h,_⟩|⟨h,_,hout⟩|⟨h,_,hle,hu⟩
  ·rw[h] at hq;cases hq
  ·rw[hat,if_neg (by omega)]
   obtain⟨u,hu,_⟩:=hN.inner i r q hr (h▸hq)
   exact⟨u,hu,.inl ⟨h,hu⟩⟩
  ·refine⟨_,?_,.inr ⟨?_,rfl⟩⟩
   ·have hlt:j0 - off<us.length:=(List.getElem?_eq_some_iff.1 hu).1
    rw[hat,if_pos (by omega),show i*z+j0 - (i*z+off)=j0 - off by omega]
    exact hu
   ·rw[h] at hq;exact(Option.some.inj hq).symm
 have hvb: ∀b',(g.γ k n).ownBlock=some b'→b'=b:=fun b' h=>by rw[hγ0] at h;simpa [Value.ownBlock] using h.symm
 refine I.turn hk (fun _ _ _ _ h=>by cases h) (by omega) (Gh.le_refl g) rfl (fun j _=>⟨rfl,rfl⟩) hos htape hout (by omega) (fun b' _ hb=>hother b' fun e=>hb (by rw[e];exact hbF)) ⟨hlim,⟨hjz,⟨setAll xs (i*z+off) us,⟨?_,hN.fo,fun u hu=>?_,fun p hp=>?_,fun i' j p x hp hjj hx=>?_,fun i' p q hp hq=>?_,fun i1 i2 p1 p2 q1 q2 u1 u2 b' hne hp1 hp2 hq1 hq2 hu1 hu2 hb1=>?_⟩,fun i' U hU=>?_⟩,fun ds hds=>by cases hds⟩,fun b' hb'=>?_⟩ (fun b' hb'=>.inl hb')
 ·exact⟨by rw[setAll_length,hxl];simp,.inr ⟨b,cap,_,hγ0.trans (by simp),hh',by simpa using hc1,hc2,by simp[setAll_length,hcl],by simpa using hxs'⟩⟩
 ·obtain⟨q,hq⟩:=List.getElem?_of_mem hu
  rw[hat] at hq
  split at hq
  ·exact h1 u (List.mem_of_getElem? hq)
  ·exact hN.one u (List.mem_of_getElem? hq)
 ·rcases List.mem_or_eq_of_mem_set hp with h|h
  ·exact hN.len p h
  ·rw[h];simpa [setAll_length] using hrz
 ·rcases hrow i' p hp with⟨rfl,rfl⟩|⟨hne,hp⟩
  ·have hjz':j<z:=by
    have:=(List.getElem?_eq_some_iff.1 hx).1
    simpa [setAll_length,hrz] using this
   simp only[setAll_at vals r.c off j (by omega)] at hx
   by_cases hjo:off≤j∧j<off+vals.length
   ·rw[if_pos hjo] at hx
    have hju:j - off<us.length:=by omega
    refine⟨us[j - off],?_,hrd (j - off) x _ (by omega) hx (List.getElem?_eq_getElem hju)⟩
    rw[hat,if_pos (by omega),show i'*z+j - (i'*z+off)=j - off by omega]
    exact List.getElem?_eq_getElem hju
   ·rw[if_neg hjo] at hx
    obtain⟨u,hu,hd⟩:=hN.cell i' j r x hr hjj hx
    refine⟨u,?_,hd⟩
    rw[hat,if_neg (by omega)]
    exact hu
  ·have hjz':j<z:=by
    have:=(List.getElem?_eq_some_iff.1 hx).1
    rwa [hN.len p (List.mem_of_getElem? hp)] at this
   obtain⟨u,hu,hd⟩:=hN.cell i' j p x hp hjj hx
   exact⟨u,by rw[hat2 i' j hne hjz'];exact hu,hd⟩
 ·rcases hrow i' p hp with⟨rfl,rfl⟩|⟨hne,hp⟩
  ·obtain⟨u,hu,hc⟩:=hin q hq
   refine⟨u,hu,?_⟩
   rcases hc with⟨h,hu2⟩|⟨rfl,rfl⟩
   ·obtain⟨u3,hu3,hok,hub⟩:=hN.inner i' r q hr (h▸hq)
    rw[hu2] at hu3
    cases hu3
    exact⟨hok.mono (fun _ _ _ h=>h) fun b' hb'=>hother b' fun e=>(hub b' hb').2 (by rw[hγ0,e];rfl),hub⟩
   ·exact⟨rowOK.nil ..,fun b' hb'=>by cases hb'⟩
  ·obtain⟨u,hu,hok,hub⟩:=hN.inner i' p q hp hq
   exact⟨u,by rw[hat2 i' j0 hne hjz];exact hu,hok.mono (fun _ _ _ h=>h) fun b' hb'=>hother b' fun e=>(hub b' hb').2 (by rw[hγ0,e];rfl),hub⟩
 ·rcases hrow i1 p1 hp1 with⟨a1,a2⟩|⟨a1,a2⟩
  ·subst a1 a2
   obtain⟨u,hu,hc⟩:=hin q1 hq1
   rw[hu] at hu1
   cases hu1
   rcases hrow i2 p2 hp2 with⟨b1,b2⟩|⟨b1,b2⟩
   ·exact absurd b1.symm hne
   ·rw[hat2 i2 j0 b1 hjz] at hu2
    rcases hc with⟨h,hu3⟩|⟨_,rfl⟩
    ·exact hN.dis _ i2 r p2 q1 q2 _ u2 b' hne hr b2 (h▸hq1) hq2 hu3 hu2 hb1
    ·cases hb1
  ·rw[hat2 i1 j0 a1 hjz] at hu1
   rcases hrow i2 p2 hp2 with⟨b1,b2⟩|⟨b1,b2⟩
   ·subst b1 b2
    obtain⟨u,hu,hc⟩:=hin q2 hq2
    rw[hu] at hu2
    cases hu2
    rcases hc with⟨h,hu3⟩|⟨_,rfl⟩
    ·exact hN.dis i1 _ p1 r q1 q2 u1 _ b' hne a2 hr hq1 (h▸hq2) hu1 hu3 hb1
    ·simp[Value.ownBlock]
   ·rw[hat2 i2 j0 b1 hjz] at hu2
    exact hN.dis i1 i2 p1 p2 q1 q2 u1 u2 b' hne a2 b2 hq1 hq2 hu1 hu2 hb1
 ·rcases hj with⟨_,h⟩|⟨_,h,_⟩|⟨_,h,_⟩
  ·obtain⟨rfl,h2,h3⟩:=h i' U hU
   have hlt:j0 - off<us.length:=(List.getElem?_eq_some_iff.1 h3).1
   rw[hat,if_pos (by omega),show i'*z+j0 - (i'*z+off)=j0 - off by omega]
   exact h3
  ·rw[h] at hU;cases hU
  ·rw[h] at hU;cases hU
 ·obtain⟨h1,h2,h3⟩:=hF b' hb'
  exact⟨h1,by omega,h3⟩
theorem Inv.nestIn (I:Inv w0 σ0 ob w g){k K n m z j0 zi i:Nat}{eo ei:TypeId}{rows:List NR}{r:NR}{q:List (List D)}{dd:Option (List (List D))}(hkK:k≠K)
 (hk:ob[k]? =some (.x (nestX eo z j0 ei zi rows (some (i,g.γ K m)) dd) n)) (hK:ob[K]? =some (.gr zi ei q m false)) (hr:rows[i]? =some r):
 Inv w0 σ0 ((ob.set k (.x (nestX eo z j0 ei zi (rows.set i ⟨r.c,some q⟩) none none) n)).set K .dead) w { g with foot:=fun j=>if j=k then(fun b=>g.foot k b∨(g.γ K m).ownBlock=some b) else g.foot j }:=by
 obtain⟨hlim,⟨hjz,⟨us,hN,hU⟩,_⟩,hF⟩:=I.obs k _ hk
 replace hU:=hU i _ rfl
 obtain⟨hlimK,xs,⟨hown,hmine⟩,hz,hxr,h1,hσ⟩:=I.obs K _ hK
 have hil:i<rows.length:=(List.getElem?_eq_some_iff.1 hr).1
 have hblk: ∀b,(g.γ K m).ownBlock=some b→b<w.heap.size:=fun b hb=>by
  rcases hown.2 with⟨hv,_⟩|⟨b',cap,cur,hv,_,hh,_⟩
  ·rw[hv] at hb;cases hb
  ·rw[hv] at hb
   simp only[Value.ownBlock,Option.some.injEq] at hb
   subst hb
   exact(Array.getElem?_eq_some_iff.1 hh).1
 have hdis: ∀b,g.foot k b→(g.γ K m).ownBlock≠some b:=fun b hb hb'=>I.dis k K _ _ b hkK hk hK hb hb'
 have hat: ∀(j:Nat) (p:NR),(rows.set i ⟨r.c,some q⟩)[j]? =some p→(j=i∧p=⟨r.c,some q⟩)∨(j≠i∧rows[j]? =some p):=fun j p h=>by
  by_cases hi:i=j
  ·subst hi
   rw[List.getElem?_set_self hil] at h
   exact .inl ⟨rfl,(Option.some.inj h).symm⟩
  ·rw[List.getElem?_set_ne hi] at h
   exact .inr ⟨fun e=>hi e.symm,h⟩
 refine I.merge (fun b=>g.foot k b∨(g.γ K m).ownBlock=some b) hkK hk hK ⟨hlim,⟨hjz,⟨us,⟨by simpa using hN.outer,fun b hb=>?_,hN.one,fun p hp=>?_,fun j jj p x hp hjj hx=>?_,fun j p q' hp hq=>?_,fun j j' p p' q1 q2 u u' b hjj hp hp' hq hq' hu hu' hb=>?_⟩,fun _ _ h=>by cases h⟩,fun ds hds=>by cases hds⟩,fun b hb=>?_⟩ fun b hb=>?_
 ·simp only[if_true];exact .inl (hN.fo b hb)
 ·rcases List.mem_or_eq_of_mem_set hp with h|h
  ·exact hN.len p h
  ·rw[h];exact hN.len r (List.mem_of_getElem? hr)
 ·rcases hat j p hp with⟨rfl,rfl⟩|⟨_,hp⟩
  ·exact hN.cell j jj r x hr hjj hx
  ·exact hN.cell j jj p x hp hjj hx
 ·simp only[if_true]
  rcases hat j p hp with⟨rfl,rfl⟩|⟨_,hp⟩
  ·cases hq
   exact⟨_,hU,⟨xs,ownH_iff.2 hown,hz,hxr,h1⟩,fun b hb=>⟨.inr hb,fun hb'=>hdis b (hN.fo b hb') hb⟩⟩
  ·obtain⟨u,h2,h3,h4⟩:=hN.inner j p q' hp hq
   exact⟨u,h2,h3,fun b hb=>⟨.inl (h4 b hb).1,(h4 b hb).2⟩⟩
 ·rcases hat j p hp with⟨a1,a2⟩|⟨a1,a2⟩
  ·subst a1 a2
   rw[hU] at hu
   cases hu
   rcases hat j' p' hp' with⟨b1,_⟩|⟨b1,b2⟩
   ·exact absurd b1.symm hjj
   ·intro hb'
    obtain⟨u3,h3,_,h4⟩:=hN.inner j' p' q2 b2 hq'
    rw[hu'] at h3
    cases h3
    exact hdis b (h4 b hb').1 hb
  ·rcases hat j' p' hp' with⟨b1,b2⟩|⟨b1,b2⟩
   ·subst b1 b2
    rw[hU] at hu'
    cases hu'
    obtain⟨u3,h3,_,h4⟩:=hN.inner j p q1 a2 hq
    rw[hu] at h3
    cases h3
    exact hdis b (h4 b hb).1
   ·exact hN.dis j j' p p' q1 q2 u u' b hjj a2 b2 hq hq' hu hu' hb
 ·simp only[if_true] at hb
  rcases hb with hb|hb
  ·exact hF b hb
  ·refine⟨hmine b hb,hblk b hb,?_⟩
   have:=hσ b hb
   simpa using this
 ·simp only[Gh.at,if_true] at hb ⊢
  exact hb
theorem Inv.nestOut (I:Inv w0 σ0 ob w g)(hm:σ0.m≤ob.length){k n z j0 zi i:Nat}{eo ei:TypeId}{rows:List NR}{hint:Option (Nat×Value)}{dd:Option (List (List D))}{r:NR}{q:List (List D)}
 (hk:ob[k]? =some (.x (nestX eo z j0 ei zi rows hint dd) n)) (hri:rows[i]? =some r) (hq:r.own=some q):
 ∃(us:List Value) (U:Value) (g':Gh),ownH (fun b=>w.heap[b]?) eo z (g.γ k n) rows.length us∧us[i*z+j0]? =some U∧g.le g'∧
  Inv w0 σ0 (ob.set k (.x (nestX eo z j0 ei zi (rows.set i ⟨r.c,none⟩) (some (i,U)) none) n)++[.gr zi ei q 0 false]) w g'∧g'.γ ob.length 0=U∧RT g' (.og ob.length 0) U:=by
 obtain⟨hlim,⟨hjz,⟨us,hN,_⟩,_⟩,hF⟩:=I.obs k _ hk
 obtain⟨U,hU,⟨xs,hown,hz,hxr,h1⟩,hUb⟩:=hN.inner i r q hri hq
 have hil:i<rows.length:=(List.getElem?_eq_some_iff.1 hri).1
 have hlt:k<ob.length:=(List.getElem?_eq_some_iff.1 hk).1
 have hkl:k≠ob.length:=by omega
 let F':Nat→Prop:=fun b=>g.foot k b∧U.ownBlock≠some b
 let g':Gh:={ σ:=g.σ,γ:=fun j m=>if j=ob.length then U else g.γ j m,lim:=fun j=>if j=ob.length then 1 else g.lim j,foot:=fun j=>if j=k then F' else g.foot j }
 have hUf: ∀b,U.ownBlock=some b→g.foot k b:=fun b hb=>(hUb b hb).1
 have hle:g.le g':=⟨fun _ _ _ h=>h,fun j m hj=>by
  have:¬j=ob.length:=fun e=>by have:=I.lim j (by omega);omega
  simp[g',this,hj]⟩
 have hγk:g'.γ k n=g.γ k n:=by simp[g',hkl]
 have hfk:g'.foot k=F':=by simp[g']
 have hrow: ∀(j:Nat) (p:NR),(rows.set i ⟨r.c,none⟩)[j]? =some p→(j=i∧p=⟨r.c,none⟩)∨(j≠i∧rows[j]? =some p):=fun j p h=>by
  by_cases hi:i=j
  ·subst hi
   rw[List.getElem?_set_self hil] at h
   exact .inl ⟨rfl,(Option.some.inj h).symm⟩
  ·rw[List.getElem?_set_ne hi] at h
   exact .inr ⟨fun e=>hi e.symm,h⟩
 have hget: ∀(j:Nat) (p:Ob),(ob.set k (.x (nestX eo z j0 ei zi (rows.set i ⟨r.c,none⟩) (some (i,U)) none) n)++[.gr zi ei q 0 false])[j]? =some p→
  (j=k∧p=.x (nestX eo z j0 ei zi (rows.set i ⟨r.c,none⟩) (some (i,U)) none) n)∨(j=ob.length∧p=.gr zi ei q 0 false)∨(j≠k∧j<ob.length∧ob[j]? =some p):=fun j p hp=>by
  by_cases hj:j<ob.length
  ·rw[List.getElem?_append_left (by simpa using hj)] at hp
   by_cases hj2:k=j
   ·subst hj2
    rw[List.getElem?_set_self hlt] at hp
    exact .inl ⟨rfl,(Option.some.inj hp).symm⟩
   ·rw[List.getElem?_set_ne hj2] at hp
    exact .inr (.inr ⟨fun h=>hj2 h.symm,hj,hp⟩)
  ·have hj3:=(List.getElem?_eq_some_iff.1 hp).1
   simp only[List.length_append,List.length_set,List.length_cons,List.length_nil] at hj3
   obtain rfl:j=ob.length:=by omega
   rw[List.getElem?_append_right (by simp)] at hp
   simp at hp
   exact .inr (.inl ⟨rfl,hp.symm⟩)
 have same: ∀(j:Nat) (p:Ob) (b:Nat),j≠k→j<ob.length→ob[j]? =some p→g'.at j p b→g.at j p b:=fun j p b hj hjl hp hb=>by
  rw[Gh.at_mono hle (I.obs j p hp) (by simp[g',hj])] at hb
  exact hb
 have hatk: ∀b,g'.at k (.x (nestX eo z j0 ei zi (rows.set i ⟨r.c,none⟩) (some (i,U)) none) n) b→g.foot k b∧U.ownBlock≠some b:=fun b hb=>by simpa [Gh.at,g'] using hb
 have hatl: ∀b,g'.at ob.length (.gr zi ei q 0 false) b→U.ownBlock=some b:=fun b hb=>by simpa [Gh.at,g'] using hb
 refine⟨us,U,g',hN.outer,hU,hle,⟨I.below,I.old,I.con,fun j p hp=>?_,fun j hj=>?_,fun j j' p p' b hne hp hp' hb hb'=>?_,fun j hj=>?_⟩,by simp[g'],?_⟩
 ·rcases hget j p hp with⟨rfl,rfl⟩|⟨rfl,rfl⟩|⟨hj,hjl,hp⟩
  ·refine⟨by simp[g',hkl,hlim],?_,fun b hb=>?_⟩
   ·rw[hγk,hfk]
    refine⟨hjz,⟨us,⟨by simpa using hN.outer,fun b hb=>⟨hN.fo b hb,fun hb'=>(hUb b hb').2 hb⟩,hN.one,fun p hp=>?_,fun a jj p x hp hjj hx=>?_,fun a p q' hp hq'=>?_,fun a a' p p' q1 q2 u u' b haa hp hp' hq1 hq2 hu hu' hb=>?_⟩,fun a V hV=>?_⟩,fun ds hds=>by cases hds⟩
    ·rcases List.mem_or_eq_of_mem_set hp with h|h
     ·exact hN.len p h
     ·rw[h];exact hN.len r (List.mem_of_getElem? hri)
    ·rcases hrow a p hp with⟨rfl,rfl⟩|⟨_,hp⟩
     ·exact hN.cell a jj r x hri hjj hx
     ·exact hN.cell a jj p x hp hjj hx
    ·rcases hrow a p hp with⟨rfl,rfl⟩|⟨ha,hp⟩
     ·cases hq'
     ·obtain⟨u,h2,h3,h4⟩:=hN.inner a p q' hp hq'
      exact⟨u,h2,h3,fun b hb=>⟨⟨(h4 b hb).1,fun hb'=>hN.dis a i p r q' q u U b ha hp hri hq' hq h2 hU hb hb'⟩,(h4 b hb).2⟩⟩
    ·rcases hrow a p hp with⟨rfl,rfl⟩|⟨_,hp⟩
     ·cases hq1
     ·rcases hrow a' p' hp' with⟨rfl,rfl⟩|⟨_,hp'⟩
      ·cases hq2
      ·exact hN.dis a a' p p' q1 q2 u u' b haa hp hp' hq1 hq2 hu hu' hb
    ·cases hV;exact hU
   ·rw[hfk] at hb
    exact hF b hb.1
  ·refine⟨by simp[g'],xs,⟨?_,fun b hb=>?_⟩,hz,hxr,h1,fun b hb=>?_⟩
   ·have:g'.γ ob.length 0=U:=by simp[g']
    rw[this]
    exact ownH_iff.1 hown
   ·exact(hF b (hUf b (by simpa [g'] using hb))).1
   ·simp only[Bool.false_eq_true,if_false]
    exact(hF b (hUf b (by simpa [g'] using hb))).2.2
  ·exact(I.obs j p hp).mono hle (by simp[g',show ¬j=ob.length by omega]) (by simp[g',hj]) (fun b hbk=>⟨rfl,fun x=>rfl⟩) (Nat.le_refl _)
 ·have hj2:ob.length+1≤j:=by simpa using hj
  simp[g',show ¬j=ob.length by omega,I.lim j (by omega)]
 ·rcases hget j p hp with⟨a1,a2⟩|⟨a1,a2⟩|⟨a1,a2,a3⟩
  ·subst a1 a2
   have hb2:=hatk b hb
   rcases hget j' p' hp' with⟨b1,b2⟩|⟨b1,b2⟩|⟨b1,b2,b3⟩
   ·exact hne b1.symm
   ·subst b1 b2;exact hb2.2 (hatl b hb')
   ·exact I.dis j j' _ p' b hne hk b3 hb2.1 (same j' p' b b1 b2 b3 hb')
  ·subst a1 a2
   have hb2:=hatl b hb
   rcases hget j' p' hp' with⟨b1,b2⟩|⟨b1,b2⟩|⟨b1,b2,b3⟩
   ·subst b1 b2;exact(hatk b hb').2 hb2
   ·exact hne b1.symm
   ·exact I.dis k j' _ p' b (fun e=>b1 e.symm) hk b3 (hUf b hb2) (same j' p' b b1 b2 b3 hb')
  ·have hb2:=same j p b a1 a2 a3 hb
   rcases hget j' p' hp' with⟨b1,b2⟩|⟨b1,b2⟩|⟨b1,b2,b3⟩
   ·subst b1 b2;exact I.dis j _ p _ b hne a3 hk hb2 (hatk b hb').1
   ·subst b1 b2;exact I.dis j k p _ b a1 a3 hk hb2 (hUf b (hatl b hb'))
   ·exact I.dis j j' p p' b hne a3 b3 hb2 (same j' p' b b1 b2 b3 hb')
 ·have hj2:¬j=ob.length:=by omega
  simpa [g',hj2] using I.ext j hj
 ·have:=RT.og (g:=g') ob.length 0 (by simp[g'])
  simpa [g'] using this
open Classical in
theorem Inv.pubX (I:Inv w0 σ0 ob w g){k n:Nat}{X:ObX}{d:D}(hk:ob[k]? =some (.x X n))(hd:X.dat=some d):
 ∃g',g.le g'∧g'.γ=g.γ∧g'.lim=g.lim∧Inv w0 σ0 (ob.set k .dead) w g'∧RD g'.σ d (g.γ k n):=by
 obtain⟨hlim,hX,hF⟩:=I.obs k _ hk
 have hlt:k<ob.length:=(List.getElem?_eq_some_iff.1 hk).1
 let σ':Sto:=fun b o=>if g.foot k b then w.cell? ⟨b,o,none⟩ else g.σ b o
 let g':Gh:={ g with σ:=σ' }
 have hσ: ∀b o u,g.σ b o=some u→σ' b o=some u:=fun b o u hu=>by
  have:¬g.foot k b:=fun hb=>by rw[(hF b hb).2.2 o] at hu;cases hu
  simp[σ',this,hu]
 have hle:g.le g':=⟨hσ,fun _ _ h=>⟨h,rfl⟩⟩
 have hget: ∀(j:Nat) (q:Ob),(ob.set k .dead)[j]? =some q→(j=k∧q=.dead)∨(j≠k∧ob[j]? =some q):=fun j q hq=>by
  by_cases hj:k=j
  ·subst hj
   rw[List.getElem?_set_self hlt] at hq
   exact .inl ⟨rfl,(Option.some.inj hq).symm⟩
  ·rw[List.getElem?_set_ne hj] at hq
   exact .inr ⟨fun h=>hj h.symm,hq⟩
 have same: ∀(j:Nat) (q:Ob) (b:Nat),g'.at j q b→g.at j q b:=fun j q b hb=>by
  cases q<;>exact hb
 refine⟨g',hle,rfl,rfl,⟨I.below,fun b o hb hn=>?_,fun b o u hu=>?_,fun j q hq=>?_,fun j hj=>I.lim j (by simpa using hj),fun i j q q' b hne hq hq' hb hb'=>?_,I.ext⟩,?_⟩
 ·have:¬g.foot k b:=fun hf=>by
   rcases(hF b hf).1 with h|h
   ·omega
   ·exact hn h
  show σ' b o=_
  simp only[σ',if_neg this]
  exact I.old b o hb hn
 ·have hu:σ' b o=some u:=hu
  by_cases hf:g.foot k b
  ·simpa [σ',hf] using hu
  ·simp only[σ',if_neg hf] at hu
   exact I.con b o u hu
 ·rcases hget j q hq with⟨rfl,rfl⟩|⟨hj,hq⟩
  ·trivial
  ·refine(I.obs j q hq).mono hle rfl rfl (fun b hbk=>⟨rfl,fun x=>?_⟩) (Nat.le_refl _)
   have:¬g.foot k b:=fun hf=>I.dis j k q _ b hj hq hk hbk hf
   show σ' b x=_
   simp only[σ',if_neg this]
 ·rcases hget i q hq with⟨_,h2⟩|⟨hi,hq2⟩
  ·subst h2;exact hb
  ·rcases hget j q' hq' with⟨_,h4⟩|⟨hj,hq2'⟩
   ·subst h4;exact hb'
   ·exact I.dis i j q q' b hne hq2 hq2' (same i q b hb) (same j q' b hb')
 ·refine X.read hd hX hσ fun b o cur e u hb hh hu=>?_
  show σ' b o=_
  simp only[σ',if_pos hb]
  obtain⟨cur⟩:=cur
  have hh:w.heap[b]? =some (.cells cur.toArray e (0,0)):=hh
  rw[cell_of_heap hh o]
  simpa using hu
end
theorem St.imp.nest {N:Nm}{S:St}(k j0:Nat)(ei:TypeId)(zi:Nat){z:Nat}{e:TypeId}{rows:List (List D)}{n:Nat}(hk:S.ob[k]? =some (.gr z e rows n false))(hj:j0<z):
 St.imp N S ⟨S.tm,S.ob.set k (.x (nestX e z j0 ei zi (rows.map fun r=>⟨r,none⟩) none none) n)⟩:=fun w0 σ0 a w g r=>by
 obtain⟨hlim,xs,⟨hown,hmine⟩,hz,hr,h1,hσ⟩:=r.inv.obs k _ hk
 have hblk: ∀b,(g.γ k n).ownBlock=some b→b<w.heap.size:=fun b hb=>by
  rcases hown.2 with⟨hv,_⟩|⟨b',cap,cur,hv,_,hh,_⟩
  ·rw[hv] at hb;cases hb
  ·rw[hv] at hb
   simp only[Value.ownBlock,Option.some.injEq] at hb
   subst hb
   exact(Array.getElem?_eq_some_iff.1 hh).1
 have hat: ∀(i:Nat) (p:NR),(rows.map fun r=>(⟨r,none⟩:NR))[i]? =some p→ ∃q,rows[i]? =some q∧p=⟨q,none⟩:=fun i p hp=>by
  simp only[List.getElem?_map,Option.map_eq_some_iff] at hp
  obtain⟨q,hq,rfl⟩:=hp
  exact⟨q,hq,rfl⟩
 have hN:NestOK e z j0 ei zi (rows.map fun r=>⟨r,none⟩) g.σ (fun b=>w.heap[b]?) (fun b=>(g.γ k n).ownBlock=some b) (g.γ k n) xs:=by
  refine⟨by simpa using ownH_iff.2 hown,fun b hb=>hb,h1,fun p hp=>?_,fun i j p x hp hjj hx=>?_,fun i p q hp hq=>?_,fun i i' p p' q q' u u' b _ hp _ hq=>?_⟩
  ·obtain⟨q,hq,rfl⟩:=List.mem_map.1 hp
   exact hz q hq
  ·obtain⟨q,hq,rfl⟩:=hat i p hp
   exact hr i j q x hq hx
  ·obtain⟨_,_,rfl⟩:=hat i p hp
   cases hq
  ·obtain⟨_,_,rfl⟩:=hat i p hp
   cases hq
 have I:=r.inv.recast (o':=.x (nestX e z j0 ei zi (rows.map fun r=>⟨r,none⟩) none none) n) (fun b=>(g.γ k n).ownBlock=some b) hk
  ⟨hlim,⟨hj,⟨xs,by simpa using hN,fun _ _ h=>by cases h⟩,fun ds hds=>by cases hds⟩,fun b hb=>by
    simp only[if_true] at hb
    refine⟨hmine b hb,hblk b hb,?_⟩
    have:=hσ b hb
    simpa using this⟩ (fun b hb=>by simpa [Gh.at] using hb)
 exact⟨_,I,r.defers,r.size,r.hm,by simpa using r.hl,fun i=>(r.tm i).mono (Gh.le_foot g _)⟩
theorem St.imp.note {N:Nm}{S:St}(k:Nat){z j0 zi n:Nat}{eo ei:TypeId}{rows:List NR}{hint:Option (Nat×Value)}{dd:Option (List (List D))}(hk:S.ob[k]? =some (.x (nestX eo z j0 ei zi rows hint dd) n))(ds:List (List D))(hd:datN j0 zi rows=some ds):
 St.imp N S ⟨S.tm,S.ob.set k (.x (nestX eo z j0 ei zi rows none (some ds)) n)⟩:=fun w0 σ0 a w g r=>by
 obtain⟨hlim,⟨hjz,⟨us,hN,_⟩,_⟩,hF⟩:=r.inv.obs k _ hk
 have e:({ g with foot:=fun j=>if j=k then g.foot k else g.foot j }:Gh)=g:=by
  have:(fun j=>if j=k then g.foot k else g.foot j)=g.foot:=by
   funext j;by_cases h:j=k<;>simp[h]
  rw[this]
 have I:=r.inv.recast (o':=.x (nestX eo z j0 ei zi rows none (some ds)) n) (g.foot k) hk (by rw[e];exact⟨hlim,⟨hjz,⟨us,hN,fun _ _ h=>by cases h⟩,fun ds' h=>by cases h;exact hd⟩,hF⟩) (by rw[e];exact fun b hb=>hb)
 rw[e] at I
 exact⟨g,I,r.defers,r.size,r.hm,by simpa using r.hl,r.tm⟩
section
variable {E:Env}{N:Nm}{Q:Exit→St→Prop}{S:St}{ops l:List Oper}{ty:TypeId}{pos:String}{after:Array Edge}{gd:Option (Nat×Bool)}{d:Nat}{tm:Nat→T}{ob ob':List Ob}{G:List Nat}
theorem WL.storeND {t:TypeId}{x v:Operand}{k n z j0 zi i off:Nat}{eo ei:TypeId}{rows:List NR}{hint:Option (Nat×Value)}{dd:Option (List (List D))}{r:NR}{vals:List D}(hw:S.want ops ⟨none,.store t x v,ty,pos,after,gd⟩=some true)(hk:(E.ty t).known=true)
 (hx:S.ev x=.eg k n z i off) (hm:S.ob[k]? =some (.x (nestX eo z j0 ei zi rows hint dd) n)) (hr:rows[i]? =some r) (hv:rowOf S.ob (fixNil E t (S.ev v))=some vals) (hn:Nat.beq vals.length (E.ty t).size=true) (ho:Nat.ble (off+vals.length) z=true)
 (h1:onesD vals=true) (hj:(Nat.blt j0 off||Nat.ble (off+vals.length) j0)=true)
 (kk:WL E.P N ops l Q ⟨S.tm,S.ob.set k (.x (nestX eo z j0 ei zi (rows.set i ⟨setAll r.c off vals,r.own⟩) none none) n)⟩):WL E.P N ops (⟨none,.store t x v,ty,pos,after,gd⟩::l) Q S:=
 WL.effskip (by simp) hw (fun w0 σ0 a w g R=>by
  obtain⟨inf,zz,hinf,hsz,_⟩:=E.info hk
  have hxr:=R.ev x
  rw[hx] at hxr
  obtain⟨b,len,cap,hlim,hγ,hxv⟩:=hxr.inv_eg
  obtain⟨c1,c2,c3⟩:=R.inv.row hv ((R.ev v).fixNil E t) h1
  obtain⟨_,⟨hjz,⟨us,hN,_⟩,_⟩,_⟩:=R.inv.obs k _ hm
  have hil:i<rows.length:=(List.getElem?_eq_some_iff.1 hr).1
  have ho':=Nat.le_of_ble_eq_true ho
  have hn':=Nat.eq_of_beq_eq_true hn
  obtain⟨hol,hoo⟩:=hN.outer
  rcases hoo with⟨hv0,_⟩|⟨b2,cap2,cur,hv2,hh,hc1,hc2,hcs,htk⟩
  ·rw[hγ] at hv0;cases hv0
  have hγ0:=hγ
  rw[hγ] at hv2
  injection hv2 with e1 e2 e3
  injection e1 with e1
  injection e1 with e1 _ _
  subst e1;subst e3;subst e2
  obtain⟨cur⟩:=cur
  have hh:w.heap[b]? =some (.cells (⟨cur⟩:Array Value) eo (0,0)):=hh
  have hpos:i*z+off+vals.length≤cur.length:=by
   have h1:(i+1)*z≤rows.length*z:=Nat.mul_le_mul_right _ hil
   have h2:rows.length*z≤cap*z:=Nat.mul_le_mul_right _ hc1
   have h3:cur.length=cap*z:=by simpa using hcs
   rw[Nat.add_mul] at h1
   omega
  obtain⟨w',hrun,hh',g1,g2,g3,g4,g5⟩:=run_storeCells (P:=E.P) (a.eval v).cells.toList cur (i*z+off) 0 w hh (by omega) c3
  refine⟨w',g,?_,Gh.le_refl g,R.inv.nestSet (own':=r.own) (hint':=none) hm hγ0 hh hr ho' c1 (fun j x u _=>c2 j x u) c3 (.inr (.inl ⟨rfl,rfl,?_⟩)) (by simpa using hh') g1 g2 g3 g4 g5⟩
  ·have hsize:(a.eval v).cells.size=inf.size:=by
    have:(a.eval v).cells.toList.length=(a.eval v).cells.size:=Array.length_toList
    omega
   simp[execOp,Instr.storeAt,Instr.sureAddr,hxv,storeVar,sizeOf,typeInfo,hinf,hsize,hrun]
  ·simp only[Bool.or_eq_true] at hj
   rcases hj with h|h
   ·left;simpa using h
   ·exact .inr (Nat.le_of_ble_eq_true h)) kk
theorem WL.storeNO {t:TypeId}{x v:Operand}{k K n m z j0 zi i:Nat}{eo ei:TypeId}{rows:List NR}{hint:Option (Nat×Value)}{dd:Option (List (List D))}{r:NR}{cs:List T}{ds:List D}{q:List (List D)}(hw:S.want ops ⟨none,.store t x v,ty,pos,after,gd⟩=some true)(hk:(E.ty t).known=true)
 (hx:S.ev x=.eg k n z i 0) (hm:S.ob[k]? =some (.x (nestX eo z j0 ei zi rows hint dd) n)) (hr:rows[i]? =some r) (hv:cellsT S.ob (S.ev v)=some cs) (hn:Nat.beq cs.length (E.ty t).size=true) (ho:Nat.beq cs.length z=true)
 (h1:onesT cs=true) (h2:cursT S.ob cs=true) (hj:cs[j0]? =some (.og K m)) (hK:S.ob[K]? =some (.gr zi ei q m false)) (hds:allD (cs.set j0 (.d (.v undef)))=some ds) (hkK:Nat.beq k K=false)
 (kk:WL E.P N ops l Q ⟨S.tm,(S.ob.set k (.x (nestX eo z j0 ei zi (rows.set i ⟨ds,some q⟩) none none) n)).set K .dead⟩):WL E.P N ops (⟨none,.store t x v,ty,pos,after,gd⟩::l) Q S:=
 WL.effskip (by simp) hw (fun w0 σ0 a w g R=>by
  obtain⟨inf,zz,hinf,hsz,_⟩:=E.info hk
  have hne:k≠K:=fun e=>by subst e;simp at hkK
  have hxr:=R.ev x
  rw[hx] at hxr
  obtain⟨b,len,cap,hlim,hγ,hxv⟩:=hxr.inv_eg
  obtain⟨c1,c2,c3⟩:=R.inv.cells hv (R.ev v) h1 h2
  obtain⟨_,⟨hjz,⟨us,hN,_⟩,_⟩,_⟩:=R.inv.obs k _ hm
  have hil:i<rows.length:=(List.getElem?_eq_some_iff.1 hr).1
  have hrz:r.c.length=z:=hN.len r (List.mem_of_getElem? hr)
  have ho':=Nat.eq_of_beq_eq_true ho
  have hn':=Nat.eq_of_beq_eq_true hn
  have hdl:=allD_at hds
  have hdsl:ds.length=z:=by
   have:=congrArg List.length hdl
   simp at this
   omega
  obtain⟨hol,hoo⟩:=hN.outer
  rcases hoo with⟨hv0,_⟩|⟨b2,cap2,cur,hv2,hh,hc1,hc2,hcs,htk⟩
  ·rw[hγ] at hv0;cases hv0
  have hγ0:=hγ
  rw[hγ] at hv2
  injection hv2 with e1 e2 e3
  injection e1 with e1
  injection e1 with e1 _ _
  subst e1;subst e3;subst e2
  obtain⟨cur⟩:=cur
  have hh:w.heap[b]? =some (.cells (⟨cur⟩:Array Value) eo (0,0)):=hh
  have hpos:i*z+0+ds.length≤cur.length:=by
   have h1:(i+1)*z≤rows.length*z:=Nat.mul_le_mul_right _ hil
   have h2:rows.length*z≤cap*z:=Nat.mul_le_mul_right _ hc1
   have h3:cur.length=cap*z:=by simpa using hcs
   rw[Nat.add_mul] at h1
   omega
  obtain⟨w',hrun,hh',g1,g2,g3,g4,g5⟩:=run_storeCells (P:=E.P) (a.eval v).cells.toList cur (i*z+0) 0 w hh (by omega) c3
  have hjl:j0<(a.eval v).cells.toList.length:=by omega
  have hUg:(a.eval v).cells.toList[j0]? =some (g.γ K m):=by
   have:=c2 j0 _ _ hj (List.getElem?_eq_getElem hjl)
   rw[List.getElem?_eq_getElem hjl,this.inv_og.2]
  have I1:=R.inv.nestSet (own':=none) (hint':=some (i,g.γ K m)) (vals:=ds) (us:=(a.eval v).cells.toList) (off:=0) hm hγ0 hh hr (by omega) (by omega) (fun j x u hjj hx hu=>by
   have hjj':j≠j0:=by omega
   have e1:cs[j]? =some (.d x):=by
    have:=congrArg (·[j]?) hdl
    simp only[List.getElem?_set_ne (fun e=>hjj' e.symm),List.getElem?_map,hx,Option.map_some] at this
    exact this
   exact(c2 j _ u e1 hu).inv_d) c3 (.inl ⟨rfl,fun i' U hU=>by cases hU;exact⟨rfl,Nat.zero_le _,by simpa using hUg⟩⟩) (by simpa using hh') g1 g2 g3 g4 g5
  rw[setAll_full r.c ds (by omega)] at I1
  have hlt:k<S.ob.length:=(List.getElem?_eq_some_iff.1 hm).1
  have I2:=I1.nestIn (i:=i) (r:=⟨ds,none⟩) hne (List.getElem?_set_self hlt) (by rw[List.getElem?_set_ne hne];exact hK) (List.getElem?_set_self hil)
  rw[List.set_set,List.set_set] at I2
  refine⟨w',_,?_,Gh.le_foot g _,I2⟩
  have hsize:(a.eval v).cells.size=inf.size:=by
   have:(a.eval v).cells.toList.length=(a.eval v).cells.size:=Array.length_toList
   omega
  simp only[Nat.add_zero] at hrun hxv
  simp[execOp,Instr.storeAt,Instr.sureAddr,hxv,storeVar,sizeOf,typeInfo,hinf,hsize,hrun]) kk
theorem WL.indexN {t e:TypeId}{x ix:Operand}{n m z j0 zi:Nat}{eo ei:TypeId}{rows:List NR}{hint:Option (Nat×Value)}{dd:Option (List (List D))}{k:IntKind}{i:Int}(hw:S.want ops ⟨some d,.indexAddr t x ix,ty,pos,after,gd⟩=some true)(hd:Nat.blt d N.n=true)
 (ht:(E.ty t).kind=.slice e) (he:(E.ty e).known=true) (hz:(E.ty e).size=z) (hx:S.ev x=.og m n) (hm:S.ob[m]? =some (.x (nestX eo z j0 ei zi rows hint dd) n)) (hi:S.ev ix=.d (.v (.int k i)))
 (hb:0≤i∧i<rows.length)
 (kk:WL E.P N ops l Q (S.set d (.eg m n z i.toNat 0))):WL E.P N ops (⟨some d,.indexAddr t x ix,ty,pos,after,gd⟩::l) Q S:=
 WL.val hw hd (fun w0 σ0 a w g R=>by
  have h1:=R.ev x
  rw[hx] at h1
  obtain⟨h1,h1'⟩:=h1.inv_og
  have h2:=R.ev ix
  rw[hi] at h2
  have h2':=h2.inv_v
  obtain⟨inf,zz,hinf,hsz,_⟩:=E.info he
  obtain⟨hl,⟨_,⟨us,hN,_⟩,_⟩,_⟩:=R.inv.obs m _ hm
  rcases hN.outer.2 with⟨_,hn⟩|⟨b,cap,cur,hv,_⟩
  ·omega
  ·refine⟨_,by simp only[execOp,Sem.run_bind,h1',hv,h2',run_indexAt (E.slice ht) hinf b 0 rows.length cap k i hb,Result.andThen_ok,Sem.run_pure];rfl,?_⟩
   rw[hsz,hz,Nat.zero_add]
   exact .eg m n z i.toNat 0 b rows.length cap h1 hv) kk
theorem WL.lenN {t e:TypeId}{x:Operand}{n m z j0 zi:Nat}{eo ei:TypeId}{rows:List NR}{hint:Option (Nat×Value)}{dd:Option (List (List D))}(hw:S.want ops ⟨some d,.call ⟨.builtin .len,#[x],#[t]⟩,ty,pos,after,gd⟩=some true)(hd:Nat.blt d N.n=true)
 (ht:(E.ty t).kind=.slice e) (hx:S.ev x=.og m n) (hm:S.ob[m]? =some (.x (nestX eo z j0 ei zi rows hint dd) n))
 (kk:WL E.P N ops l Q (S.set d (vI .i64 rows.length))):WL E.P N ops (⟨some d,.call ⟨.builtin .len,#[x],#[t]⟩,ty,pos,after,gd⟩::l) Q S:=
 WL.val hw hd (fun w0 σ0 a w g R=>by
  have h1:=R.ev x
  rw[hx] at h1
  obtain⟨h1,h1'⟩:=h1.inv_og
  obtain⟨hl,⟨_,⟨us,hN,_⟩,_⟩,_⟩:=R.inv.obs m _ hm
  have run: ∀(w:World) A n c,(Builtin.len_ #[t] ty #[.slice A n c]).run E.P w=.ok (.int .i64 n) w:=fun w A n c=>by
   simp[Builtin.len_,run_underlying (E.slice ht)];rfl
  have hv: ∃A c,g.γ m n=.slice A rows.length c:=by
   rcases hN.outer.2 with⟨hv,hn⟩|⟨b,cap,cur,hv,_⟩
   ·exact⟨none,0,by rw[hv,hn]⟩
   ·exact⟨_,_,hv⟩
  obtain⟨A,c,hv⟩:=hv
  exact⟨.int .i64 rows.length,by simp[execOp,resolve,invoke,builtin,h1',hv,run],.d _ _ (.v _)⟩) kk
theorem WL.nestCall {t:TypeId}{x x1:Operand}{d1 d2:Nat}{f:FuncId}{xs:List Operand}{tys:List TypeId}{ty1 ty2:TypeId}{pos1 pos2:String}{after1 after2:Array Edge}{gd1 gd2:Option (Nat×Bool)}{k n z i j0 zi K:Nat}{eo ei:TypeId}{rows:List NR}{hint:Option (Nat×Value)}{dd:Option (List (List D))}{r:NR}
 {q q':List (List D)} {args:List T} {y:D} {t1:T} (hK:S.ob.length=K) (hw:S.want ops ⟨some d,.load t x,ty,pos,after,gd⟩=some true) (hd:Nat.blt d N.n=true) (hk:(E.ty t).known=true) (ha:(E.ty t).agg=false)
 (hx:S.ev x=.eg k n z i j0) (hm:S.ob[k]? =some (.x (nestX eo z j0 ei zi rows hint dd) n)) (hr:rows[i]? =some r) (hq:r.own=some q)
 (hw1: ∀ob',St.want ⟨(S.set d (.og K 0)).tm,ob'⟩ ops ⟨some d1,.move x1,ty1,pos1,after1,gd1⟩=some true) (hd1:Nat.blt d1 N.n=true) (ht1: ∀ob',St.ev ⟨(S.set d (.og K 0)).tm,ob'⟩ x1=t1)
 (hc:FunQ E.P f args [.gr zi ei q 0 false] (just (.d y) [.gr zi ei q' 0 false]))
 (hw2: ∀ob',St.want ⟨((S.set d (.og K 0)).set d1 t1).tm,ob'⟩ ops ⟨some d2,.call ⟨.value (.func f),xs.toArray,tys.toArray⟩,ty2,pos2,after2,gd2⟩=some true) (hd2:Nat.blt d2 N.n=true)
 (hargs: ∀U,argsT E ⟨((S.set d (.og K 0)).set d1 t1).tm,S.ob.set k (.x (nestX eo z j0 ei zi (rows.set i ⟨r.c,none⟩) (some (i,U)) none) n)++[.gr zi ei q 0 false]⟩ false xs tys=T.renL ⟨[K],[0],K+1⟩ args)
 (hlp:T.lpOKL ⟨[K],[0],K+1⟩ args=true)
 (kk:WL E.P N ops l Q ⟨(((S.set d (.og K 0)).set d1 t1).set d2 (.d y)).tm,S.ob.set k (.x (nestX eo z j0 ei zi (rows.set i ⟨r.c,some q'⟩) none none) n)++[.dead]⟩):
 WL E.P N ops (⟨some d,.load t x,ty,pos,after,gd⟩::⟨some d1,.move x1,ty1,pos1,after1,gd1⟩::⟨some d2,.call ⟨.value (.func f),xs.toArray,tys.toArray⟩,ty2,pos2,after2,gd2⟩::l) Q S:=by
 subst hK
 refine WL.oper hw fun w0 σ0 a w g R=>?_
 obtain⟨dt,hu,hdd1,hdd⟩:=E.single hk ha
 have hxr:=R.ev x
 rw[hx] at hxr
 obtain⟨b,len,cap,hlim,hγ,hxv⟩:=hxr.inv_eg
 have hlt:k<S.ob.length:=(List.getElem?_eq_some_iff.1 hm).1
 have hil:i<rows.length:=(List.getElem?_eq_some_iff.1 hr).1
 obtain⟨us,U,g1,hown,hU,hle,I1,hγU,ht⟩:=R.inv.nestOut (by rw[R.hm];exact R.hl) hm hr hq
 have hown2:=ownH_iff.1 hown
 rw[hγ] at hown2
 have hcell:w.cell? ⟨b,i*z+j0,none⟩=some U:=by
  have:=hown2.cells (g:=b) rfl (i*z+j0) _ hU
  rwa [Addr.add_lit,Nat.zero_add] at this
 have hrun:(execOp a.eval ⟨some d,.load t x,ty,pos,after,gd⟩).run E.P w=.ok (.value U) w:=by
  simp only[execOp,Sem.run_bind,Instr.loadAt,Instr.sureAddr,hxv,Sem.run_pure,Result.andThen_ok,run_loadVar_single (w:=w) hu hdd1 hdd hcell]
 unfold Oper.wp Oper.upon
 rw[hrun]
 have R1:Rel N w0 σ0 ⟨S.tm,S.ob.set k (.x (nestX eo z j0 ei zi (rows.set i ⟨r.c,none⟩) (some (i,U)) none) n)++[.gr zi ei q 0 false]⟩ a w g1:=
  ⟨I1,R.defers,R.size,R.hm,by have:=R.hl;simp;omega,fun i=>(R.tm i).mono hle⟩
 have R2:=R1.set (d:=d) (by simpa using hd) ht
 show wpList E.P ops.toArray (lift N w0 σ0 Q) _ _ w
 unfold wpList
 rw[if_pos (R2.want (hw1 _))]
 refine .inl ?_
 have hev:=R2.ev x1
 have e1:(St.set ⟨S.tm,S.ob.set k (.x (nestX eo z j0 ei zi (rows.set i ⟨r.c,none⟩) (some (i,U)) none) n)++[.gr zi ei q 0 false]⟩ d (.og S.ob.length 0)).ev x1=t1:=ht1 _
 rw[e1] at hev
 generalize hvy:(a.put (some d) U).eval x1=vy at hev
 have hrun1:(execOp (a.put (some d) U).eval ⟨some d1,.move x1,ty1,pos1,after1,gd1⟩).run E.P w=.ok (.value vy) w:=by simp[execOp,hvy]
 unfold Oper.wp Oper.upon
 rw[hrun1]
 have R3:=R2.set (d:=d1) (by simpa using hd1) hev
 show wpList E.P ops.toArray (lift N w0 σ0 Q) _ _ w
 unfold wpList
 rw[if_pos (R3.want (hw2 _))]
 refine .inl (R3.call ⟨[S.ob.length],[0],S.ob.length+1⟩ false (cap:=[]) hc rfl (by rw[List.append_nil];exact hargs U) hlp (by simp[St.set]) (by simp[nodupB]) rfl rfl ?_ (.inl rfl) (fun t obB hR=>?_) _ _ fun t obB hR v w' g' hle' I' hv=>?_)
 ·refine⟨?_,trivial⟩
  show(S.ob.set k _++[_])[Rn.ix _ 0]? =some (Ob.ren _ 0 _)
  simp[Rn.ix,Ob.ren,Rn.of]
 ·obtain⟨_,rfl⟩:=hR
  exact⟨rfl,fun h=>by cases h⟩
 ·obtain⟨rfl,rfl⟩:=hR
  have hU':g'.γ S.ob.length 0=U:=by
   rw[(hle'.γ S.ob.length 0 (by have:=ht.inv_og.1;exact this)).2,hγU]
  have hmg:mergeO ⟨[S.ob.length],[0],S.ob.length+1⟩ 0 (S.ob.set k (.x (nestX eo z j0 ei zi (rows.set i ⟨r.c,none⟩) (some (i,U)) none) n)++[.gr zi ei q 0 false]) [S.ob.length] [.gr zi ei q' 0 false]=
   S.ob.set k (.x (nestX eo z j0 ei zi (rows.set i ⟨r.c,none⟩) (some (i,U)) none) n)++[.gr zi ei q' 0 false]:=by
   simp[mergeO,renFrom,Ob.ren,Rn.of,List.set_append]
  have I':Inv w0 σ0 (mergeO ⟨[S.ob.length],[0],S.ob.length+1⟩ 0 (S.ob.set k (.x (nestX eo z j0 ei zi (rows.set i ⟨r.c,none⟩) (some (i,U)) none) n)++[.gr zi ei q 0 false]) [S.ob.length] [.gr zi ei q' 0 false]) w' g':=I'
  rw[hmg] at I'
  have I3:=I'.nestIn (k:=k) (K:=S.ob.length) (m:=0) (i:=i) (r:=⟨r.c,none⟩) (q:=q') (by omega) (by rw[List.getElem?_append_left (by simpa using hlt),List.getElem?_set_self hlt,hU']) (by rw[List.getElem?_append_right (by simp)];simp) (List.getElem?_set_self hil)
  have e3:((S.ob.set k (.x (nestX eo z j0 ei zi (rows.set i ⟨r.c,none⟩) (some (i,U)) none) n)++[Ob.gr zi ei q' 0 false]).set k (.x (nestX eo z j0 ei zi ((rows.set i ⟨r.c,none⟩).set i ⟨r.c,some q'⟩) none none) n)).set S.ob.length .dead=
   S.ob.set k (.x (nestX eo z j0 ei zi (rows.set i ⟨r.c,some q'⟩) none none) n)++[.dead]:=by
   rw[List.set_append_left _ _ (by simpa using hlt),List.set_set,List.set_set,List.set_append_right _ _ (by simp)]
   simp
  rw[e3] at I3
  have R4:Rel N w0 σ0 ⟨((S.set d (.og S.ob.length 0)).set d1 t1).tm,S.ob.set k (.x (nestX eo z j0 ei zi (rows.set i ⟨r.c,some q'⟩) none none) n)++[Ob.dead]⟩ ((a.put (some d) U).put (some d1) vy) w' _:=
   ⟨I3,R3.defers,R3.size,R3.hm,Nat.le_trans R.hl (by simp),fun j=>((R3.tm j).mono hle').mono (Gh.le_foot g' _)⟩
  have hv':RT g' (.d y) v:=by simpa [T.ren] using hv
  exact kk w0 σ0 _ w' _ (R4.set (d:=d2) (by simpa using hd2) (hv'.mono (Gh.le_foot g' _)))
end
section
variable {E:Env}{N:Nm}{Q:Exit→St→Prop}{ops l:List Oper}{ty:TypeId}{pos:String}{after:Array Edge}{gd:Option (Nat×Bool)}{d:Nat}{tm:Nat→T}{ob:List Ob}{G:List Nat}
theorem WG.ixN' {t e:TypeId}{x ix:Operand}{n m z j0 zi:Nat}{eo ei:TypeId}{rows:List NR}{hint:Option (Nat×Value)}{dd:Option (List (List D))}{k:IntKind}{i:Int}
 (kk:WG G E.P N ops l Q ⟨upd tm d (.eg m n z i.toNat 0),ob⟩) (hw:St.want ⟨tm,ob⟩ ops ⟨some d,.indexAddr t x ix,ty,pos,after,gd⟩=some true:=by exact rfl) (hd:Nat.blt d N.n=true:=by exact rfl)
 (ht:(E.ty t).kind=.slice e:=by exact rfl) (he:(E.ty e).known=true:=by exact rfl) (hz:(E.ty e).size=z:=by exact rfl) (hx:St.ev ⟨tm,ob⟩ x=.og m n:=by exact rfl) (hm:ob[m]? =some (.x (nestX eo z j0 ei zi rows hint dd) n):=by exact rfl)
 (hi:St.ev ⟨tm,ob⟩ ix=.d (.v (.int k i)):=by exact rfl) (hb:0≤i∧i<rows.length:=by first|exact trivial|omega|(simp only[List.length_map,List.length_set] at *;omega)):
 WG G E.P N ops (⟨some d,.indexAddr t x ix,ty,pos,after,gd⟩::l) Q ⟨tm,ob⟩:=WL.indexN (S:=⟨tm,ob⟩) hw hd ht he hz hx hm hi hb kk
theorem WG.lenN' {t e:TypeId}{x:Operand}{n m z j0 zi:Nat}{eo ei:TypeId}{rows:List NR}{hint:Option (Nat×Value)}{dd:Option (List (List D))}
 (kk:WG G E.P N ops l Q ⟨upd tm d (vI .i64 rows.length),ob⟩) (hw:St.want ⟨tm,ob⟩ ops ⟨some d,.call ⟨.builtin .len,#[x],#[t]⟩,ty,pos,after,gd⟩=some true:=by exact rfl) (hd:Nat.blt d N.n=true:=by exact rfl)
 (ht:(E.ty t).kind=.slice e:=by exact rfl) (hx:St.ev ⟨tm,ob⟩ x=.og m n:=by exact rfl) (hm:ob[m]? =some (.x (nestX eo z j0 ei zi rows hint dd) n):=by exact rfl):
 WG G E.P N ops (⟨some d,.call ⟨.builtin .len,#[x],#[t]⟩,ty,pos,after,gd⟩::l) Q ⟨tm,ob⟩:=WL.lenN (S:=⟨tm,ob⟩) hw hd ht hx hm kk
end
theorem within_fn (n lo hi:Int):Fun env.P 20 [dI n,dI lo,dI hi] (.d (dB (decide (lo≤n)&&decide (n≤hi)))) []:=by
 refine Fun.intro Tryz.func20 rfl (by kernel_rfl) rfl ?_
 repeat'(first|refine Z1 ?_|((refine SP (fun h=>?_) fun h=>?_)<;>(try(exfalso;first|contradiction|omega))))
 all_goals (refine W.ret ?_;(first|refine RetQ.b' ?_))
 ·simp[*]
 ·have:¬lo≤n:=by omega
  simp[this]
theorem l1In_fn (n lo hi:Int):Fun env.P 147 [dI n,dI lo,dI hi] (.d (dB (decide (lo≤n)&&decide (n≤hi)))) []:=by
 refine Fun.intro Tryz.func147 rfl (by kernel_rfl) rfl ?_
 repeat'(first|refine Z1 ?_|((refine SP (fun h=>?_) fun h=>?_)<;>(try(exfalso;first|contradiction|omega))))
 all_goals (refine W.ret ?_;(first|refine RetQ.b' ?_))
 ·simp[*]
 ·have:¬lo≤n:=by omega
  simp[this]
theorem isString_fn (s:ByteArray)(hs:s.size≤1048576):Fun env.P 158 [dS s] (.d (dB (okText s))) []:=by
 refine Fun.intro Tryz.func158 rfl (by kernel_rfl) rfl ?_
 repeat'(first|refine Z1 ?_|((refine SP (fun h=>?_) fun h=>?_)<;>(try(exfalso;first|contradiction|omega))))
 refine W.loop (fun m S=> ∃k:Nat,m=s.size - k∧k≤s.size∧okUpto s k=true∧S=⟨ofL [(0,vS s),(5,vI .i64 s.size),(6,vI .i64 k)],[]⟩) _ _ ⟨0,rfl,Nat.zero_le _,rfl,rfl⟩ lE ?_
 rintro m S ⟨k,rfl,hk,hok,rfl⟩
 repeat'(first|refine Z1 ?_|((refine SP (fun h=>?_) fun h=>?_)<;>(try(exfalso;first|contradiction|omega))))
 ·(refine W.ret ?_;(first|refine RetQ.b' ?_))
  simp only[Int.toNat_natCast] at*
  have:okByte (byteAt s k)=false:=by simp[okByte];omega
  simp[okText,okUpto_false this s.size (by omega)]
 ·(refine W.ret ?_;(first|refine RetQ.b' ?_))
  simp only[Int.toNat_natCast] at*
  have:okByte (byteAt s k)=false:=by simp[okByte];omega
  simp[okText,okUpto_false this s.size (by omega)]
 ·simp only[Int.toNat_natCast] at*
  have:okByte (byteAt s k)=true:=by simp[okByte];omega
  exact⟨_,_,by omega,⟨k+1,rfl,by omega,by simp[okUpto,hok,this],rfl⟩,lE⟩
 ·(refine W.ret ?_;(first|refine RetQ.b' ?_))
  have:k=s.size:=by omega
  subst this
  simp[okText,hok]
  omega
theorem l1Text_fn (s:ByteArray)(hs:s.size≤1048576):Fun env.P 178 [dS s] (.d (dB (okText s))) []:=by
 refine Fun.intro Tryz.func178 rfl (by kernel_rfl) rfl ?_
 repeat'(first|refine Z1 ?_|((refine SP (fun h=>?_) fun h=>?_)<;>(try(exfalso;first|contradiction|omega))))
 ·(refine W.ret ?_;(first|refine RetQ.b' ?_))
  simp[okText];intro _;omega
 refine W.loop (fun m S=> ∃k:Nat,m=s.size - k∧k≤s.size∧okUpto s k=true∧S=⟨ofL [(0,vS s),(3,vI .i64 k)],[]⟩) _ _ ⟨0,rfl,Nat.zero_le _,rfl,rfl⟩ lE ?_
 rintro m S ⟨k,rfl,hk,hok,rfl⟩
 repeat'(first|refine Z1 ?_|((refine SP (fun h=>?_) fun h=>?_)<;>(try(exfalso;first|contradiction|omega))))
 ·(refine W.ret ?_;(first|refine RetQ.b' ?_))
  simp only[Int.toNat_natCast] at*
  have:okByte (byteAt s k)=false:=by simp[okByte];omega
  simp[okText,okUpto_false this s.size (by omega)]
 ·(refine W.ret ?_;(first|refine RetQ.b' ?_))
  simp only[Int.toNat_natCast] at*
  have:okByte (byteAt s k)=false:=by simp[okByte];omega
  simp[okText,okUpto_false this s.size (by omega)]
 ·simp only[Int.toNat_natCast] at*
  have:okByte (byteAt s k)=true:=by simp[okByte];omega
  exact⟨_,_,by omega,⟨k+1,rfl,by omega,by simp[okUpto,hok,this],rfl⟩,lE⟩
 ·(refine W.ret ?_;(first|refine RetQ.b' ?_))
  have:k=s.size:=by omega
  subst this
  simp[okText,hok]
  omega
theorem l1Holds_fn (c:Cell):Fun env.P 190 [.agg c.row] (.d (dB (holdsK c.kind))) []:=by
 refine Fun.intro Tryz.func190 rfl (by kernel_rfl) rfl ?_
 repeat'(first|refine Z1 ?_|((refine SP (fun h=>?_) fun h=>?_)<;>(try(exfalso;first|contradiction|omega))))
 all_goals (refine W.ret ?_;(first|refine RetQ.b' ?_))
 all_goals simp [holdsK, *]
def kindB (c:Cell):Bool:= !(decide (0≤c.kind)&&decide (c.kind≤6))
def formB (c:Cell):Bool:=(!decide (c.num=0)&& !decide (c.kind=3))||(!decide (c.text=noS)&& !decide (c.kind=4))||(!decide (c.n=0)&& !holdsK c.kind)
def rangeB (c:Cell):Bool:= !(decide (-1000000000000000≤c.num)&&decide (c.num≤1000000000000000))|| !(decide (0≤c.n)&&decide (c.n≤200))
def textB (c:Cell):Bool:= !okText c.text|| !okText c.key
theorem cellCode_eq (c:Cell):cellCode c=if kindB c then 6 else if formB c then 1 else if rangeB c then 3 else if textB c then 5 else 0:=rfl
theorem cellFault_fn (c:Cell)(h1:c.text.size≤1048576)(h2:c.key.size≤1048576):Fun env.P 123 [.agg c.row] (.d (dI (cellCode c))) []:=by
 refine Fun.intro Tryz.func123 rfl (by kernel_rfl) rfl ?_
 refine W.seq ?_
 refine W.rg ?_
 repeat(first|refine WG.nil ?_|refine WG.run' (E:=env) ?_|refine WG.gt' ?_|refine WG.gf' ?_)
 refine W.seq ?_
 refine W.jb 3 (holdsK c.kind) ?_ ?_
 ·repeat'(first|refine WG.nil ?_|refine WG.run' (E:=env) ?_|refine WG.gt' ?_|refine WG.gf' ?_|(refine WG.sp' (fun h=>?_) fun h=>?_<;>(try simp only[atS,List.length_map,beq_self_eq_true] at h)<;>(try(exfalso;first|contradiction|omega))))
  all_goals refine ⟨rfl,rfl,_,rfl,?_,by(repeat refine leU.step rfl ?_)<;>first|exact leU.forget (leU.refl _)|exact leU.refl _|(repeat(first|exact leU.forget (leU.refl _)|exact leU.refl _|refine leU.step rfl ?_))⟩
  all_goals simp [holdsK, *]
 repeat(first|refine Z1 ?_|refine WG.c (E:=env) rfl rfl (within_fn _ _ _) rfl rfl ?_)
 refine W.cond rfl (fun e1=>?_) (fun e1=>?_)
 ·repeat'(first|refine Z1 ?_)
  (refine W.ret ?_;(first|refine RetQ.i' ?_))
  rw[cellCode_eq,show kindB c=true from e1];rfl
 refine W.seq ?_
 refine W.jb 17 (formB c) ?_ ?_
 ·repeat'(first|refine WG.nil ?_|refine WG.run' (E:=env) ?_|refine WG.gt' ?_|refine WG.gf' ?_|refine WG.c (E:=env) rfl rfl (l1Holds_fn c) rfl rfl ?_|(refine WG.sp' (fun h=>?_) fun h=>?_<;>(try simp only[atS,List.length_map,beq_self_eq_true] at h)<;>(try(exfalso;first|contradiction|omega))))
  all_goals refine ⟨rfl,rfl,_,rfl,?_,by(repeat refine leU.step rfl ?_)<;>first|exact leU.forget (leU.refl _)|exact leU.refl _|(repeat(first|exact leU.forget (leU.refl _)|exact leU.refl _|refine leU.step rfl ?_))⟩
  all_goals simp [formB, *]
 repeat(first|refine Z1 ?_)
 refine W.cond rfl (fun e2=>?_) (fun e2=>?_)
 ·repeat'(first|refine Z1 ?_)
  (refine W.ret ?_;(first|refine RetQ.i' ?_))
  rw[cellCode_eq,show kindB c=false from e1,e2];rfl
 refine W.seq ?_
 refine W.jb 45 (rangeB c) ?_ ?_
 ·repeat'(first|refine WG.nil ?_|refine WG.run' (E:=env) ?_|refine WG.gt' ?_|refine WG.gf' ?_|refine WG.c (E:=env) rfl rfl (within_fn _ _ _) rfl rfl ?_|(refine WG.sp' (fun h=>?_) fun h=>?_<;>(try simp only[atS,List.length_map,beq_self_eq_true] at h)<;>(try(exfalso;first|contradiction|omega))))
  all_goals refine ⟨rfl,rfl,_,rfl,?_,by(repeat refine leU.step rfl ?_)<;>first|exact leU.forget (leU.refl _)|exact leU.refl _|(repeat(first|exact leU.forget (leU.refl _)|exact leU.refl _|refine leU.step rfl ?_))⟩
  all_goals first|(simp[rangeB, *];done)|(rename_i h;rcases h with h|h<;>simp[rangeB]<;>omega)
 refine W.cond rfl (fun e3=>?_) (fun e3=>?_)
 ·repeat'(first|refine Z1 ?_)
  (refine W.ret ?_;(first|refine RetQ.i' ?_))
  rw[cellCode_eq,show kindB c=false from e1,e2,e3];rfl
 refine W.seq ?_
 refine W.jb 56 (textB c) ?_ ?_
 ·repeat'(first|refine WG.nil ?_|refine WG.run' (E:=env) ?_|refine WG.gt' ?_|refine WG.gf' ?_|refine WG.c (E:=env) rfl rfl (isString_fn _ h1) rfl rfl ?_|refine WG.c (E:=env) rfl rfl (isString_fn _ h2) rfl rfl ?_|(refine WG.sp' (fun h=>?_) fun h=>?_<;>(try simp only[atS,List.length_map,beq_self_eq_true] at h)<;>(try(exfalso;first|contradiction|omega))))
  all_goals refine ⟨rfl,rfl,_,rfl,?_,by(repeat refine leU.step rfl ?_)<;>first|exact leU.forget (leU.refl _)|exact leU.refl _|(repeat(first|exact leU.forget (leU.refl _)|exact leU.refl _|refine leU.step rfl ?_))⟩
  all_goals simp [textB, *]
 refine W.cond rfl (fun e4=>?_) (fun e4=>?_)
 ·repeat'(first|refine Z1 ?_)
  (refine W.ret ?_;(first|refine RetQ.i' ?_))
  rw[cellCode_eq,show kindB c=false from e1,e2,e3,e4];rfl
 ·repeat'(first|refine Z1 ?_)
  (refine W.ret ?_;(first|refine RetQ.i' ?_))
  rw[cellCode_eq,show kindB c=false from e1,e2,e3,e4];rfl
theorem l1Cell_fn (c:Cell)(h1:c.text.size≤1048576)(h2:c.key.size≤1048576):Fun env.P 175 [.agg c.row] (.d (dI (cellCode c))) []:=by
 refine Fun.intro Tryz.func175 rfl (by kernel_rfl) rfl ?_
 refine W.seq ?_
 refine W.rg ?_
 repeat(first|refine WG.nil ?_|refine WG.run' (E:=env) ?_|refine WG.gt' ?_|refine WG.gf' ?_)
 repeat(first|refine Z1 ?_|refine WG.c (E:=env) rfl rfl (l1In_fn _ _ _) rfl rfl ?_)
 refine W.cond rfl (fun e1=>?_) (fun e1=>?_)
 ·repeat'(first|refine Z1 ?_)
  (refine W.ret ?_;(first|refine RetQ.i' ?_))
  rw[cellCode_eq,show kindB c=true from e1];rfl
 refine W.skip ?_
 repeat refine W.seq ?_
 refine W.jb 34 (formB c) ?_ ?_
 ·repeat'(first|refine WG.nil ?_|refine WG.run' (E:=env) ?_|refine WG.gt' ?_|refine WG.gf' ?_|refine WG.c (E:=env) rfl rfl (l1Holds_fn c) rfl rfl ?_|(refine WG.sp' (fun h=>?_) fun h=>?_<;>(try simp only[atS,List.length_map,beq_self_eq_true] at h)<;>(try(exfalso;first|contradiction|omega))))
  all_goals refine ⟨rfl,rfl,_,rfl,?_,by(repeat refine leU.step rfl ?_)<;>first|exact leU.forget (leU.refl _)|exact leU.refl _|(repeat(first|exact leU.forget (leU.refl _)|exact leU.refl _|refine leU.step rfl ?_))⟩
  all_goals simp [formB, *]
 repeat(first|refine Z1 ?_)
 refine W.cond rfl (fun e2=>?_) (fun e2=>?_)
 ·repeat'(first|refine Z1 ?_)
  (refine W.ret ?_;(first|refine RetQ.i' ?_))
  rw[cellCode_eq,show kindB c=false from e1,e2];rfl
 refine W.skip ?_
 repeat refine W.seq ?_
 refine W.jb 44 (rangeB c) ?_ ?_
 ·repeat'(first|refine WG.nil ?_|refine WG.run' (E:=env) ?_|refine WG.gt' ?_|refine WG.gf' ?_|refine WG.c (E:=env) rfl rfl (l1In_fn _ _ _) rfl rfl ?_|(refine WG.sp' (fun h=>?_) fun h=>?_<;>(try simp only[atS,List.length_map,beq_self_eq_true] at h)<;>(try(exfalso;first|contradiction|omega))))
  all_goals refine ⟨rfl,rfl,_,rfl,?_,by(repeat refine leU.step rfl ?_)<;>first|exact leU.forget (leU.refl _)|exact leU.refl _|(repeat(first|exact leU.forget (leU.refl _)|exact leU.refl _|refine leU.step rfl ?_))⟩
  all_goals first|(simp[rangeB, *];done)|(rename_i h;rcases h with h|h<;>simp[rangeB]<;>omega)
 refine W.cond rfl (fun e3=>?_) (fun e3=>?_)
 ·repeat'(first|refine Z1 ?_)
  (refine W.ret ?_;(first|refine RetQ.i' ?_))
  rw[cellCode_eq,show kindB c=false from e1,e2,e3];rfl
 refine W.skip ?_
 repeat refine W.seq ?_
 refine W.jb 54 (textB c) ?_ ?_
 ·repeat'(first|refine WG.nil ?_|refine WG.run' (E:=env) ?_|refine WG.gt' ?_|refine WG.gf' ?_|refine WG.c (E:=env) rfl rfl (l1Text_fn _ h1) rfl rfl ?_|refine WG.c (E:=env) rfl rfl (l1Text_fn _ h2) rfl rfl ?_|(refine WG.sp' (fun h=>?_) fun h=>?_<;>(try simp only[atS,List.length_map,beq_self_eq_true] at h)<;>(try(exfalso;first|contradiction|omega))))
  all_goals refine ⟨rfl,rfl,_,rfl,?_,by(repeat refine leU.step rfl ?_)<;>first|exact leU.forget (leU.refl _)|exact leU.refl _|(repeat(first|exact leU.forget (leU.refl _)|exact leU.refl _|refine leU.step rfl ?_))⟩
  all_goals simp [textB, *]
 refine W.cond rfl (fun e4=>?_) (fun e4=>?_)
 ·repeat'(first|refine Z1 ?_)
  (refine W.ret ?_;(first|refine RetQ.i' ?_))
  rw[cellCode_eq,show kindB c=false from e1,e2,e3,e4];rfl
 ·repeat'(first|refine Z1 ?_)
  (refine W.ret ?_;(first|refine RetQ.i' ?_))
  rw[cellCode_eq,show kindB c=false from e1,e2,e3,e4];rfl
end Go.Proofs.YtmmjbpgdkokjgaaGreatDoor
