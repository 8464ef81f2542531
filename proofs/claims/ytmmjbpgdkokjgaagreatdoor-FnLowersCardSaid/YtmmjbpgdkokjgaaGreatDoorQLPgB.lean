/-
  A text of this claim. Conditions: none.
-/
import Derived.Test.YtmmjbpgdkokjgaaGreatDoorQLPgA
import Derived.Maps.AppendAt
set_option linter.unusedVariables false
set_option linter.unusedSimpArgs false
set_option maxRecDepth 100000
set_option maxHeartbeats 16000000
namespace Go.Proofs.YtmmjbpgdkokjgaaGreatDoor
open Go.RowKit
section
variable {N:Nm}{S:St}{w0:World}{σ0:Bs}{ob:List Ob}{a:Act}{w:World}{g:Gh}
theorem Inv.lt_of_σ (I:Inv w0 σ0 ob w g){b o:Nat}{u:Value}(h:g.σ b o=some u):b<w.heap.size:=
 World.block_lt_of_cell? w ⟨b,o,none⟩ (I.con b o u h)
theorem Inv.new_none (I:Inv w0 σ0 ob w g){b:Nat}(hb:w.heap.size≤b)(o:Nat):g.σ b o=none:=by
 cases h:g.σ b o with
 |none=>rfl
 |some u=>have:=I.lt_of_σ h;omega
theorem Inv.addF (I:Inv w0 σ0 ob w g){w':World}(hb:Below w.heap.size w w')(o:Ob)(V:Value)(F:Nat→Prop)
 (hnew: ∀g':Gh,g.le g'→g'.σ=g.σ→g'.lim ob.length=1→g'.γ ob.length 0=V→g'.foot ob.length=F→ObOK (mineB w0 σ0) g' w' ob.length o∧ ∀b,g'.at ob.length o b→w.heap.size≤b) (hm:σ0.m≤ob.length):
 ∃g',g.le g'∧g'.σ=g.σ∧g'.lim ob.length=1∧g'.γ ob.length 0=V∧Inv w0 σ0 (ob++[o]) w' g':=by
 let g':Gh:={ σ:=g.σ,γ:=fun k n=>if k=ob.length then V else g.γ k n,lim:=fun k=>if k=ob.length then 1 else g.lim k,foot:=fun k=>if k=ob.length then F else g.foot k }
 have hle:g.le g':=⟨fun _ _ _ h=>h,fun k n hn=>by
  have:¬k=ob.length:=fun e=>by have:=I.lim k (by omega);omega
  simp[g',this,hn]⟩
 have hl1:g'.lim ob.length=1:=by simp[g']
 have hγ1:g'.γ ob.length 0=V:=by simp[g']
 obtain⟨hok,hblk⟩:=hnew g' hle rfl hl1 hγ1 (by simp[g'])
 have hold: ∀(k:Nat) (p:Ob),ob[k]? =some p→ ∀b,g.at k p b→b<w.heap.size:=fun k p hp b hbk=>((I.obs k p hp).at_lt hbk).2
 have hft: ∀k,k≠ob.length→g'.foot k=g.foot k:=fun k hk=>by simp[g',hk]
 have hget: ∀(k:Nat) (p:Ob),(ob++[o])[k]? =some p→(ob[k]? =some p∧k≠ob.length)∨(k=ob.length∧p=o):=fun k p hp=>by
  rcases Nat.lt_trichotomy k ob.length with h|h|h
  ·rw[List.getElem?_append_left h] at hp;exact .inl ⟨hp,by omega⟩
  ·subst h;simp at hp;exact .inr ⟨rfl,hp.symm⟩
  ·rw[List.getElem?_append_right (by omega)] at hp
   rw[List.getElem?_eq_none (by simp;omega)] at hp;cases hp
 refine⟨g',hle,rfl,hl1,hγ1,I.below.trans hb,fun b o hb hn=>I.old b o hb hn,fun b o u hu=>?_,fun k p hp=>?_,fun k hk=>?_,fun k k' p p' b hne hp hp' hbk=>?_,fun k hk=>?_⟩
 ·have:=I.con b o u hu
  rw[hb.cell (p:=⟨b,o,none⟩) (I.lt_of_σ hu)]
  exact this
 ·rcases hget k p hp with⟨hp,hne⟩|⟨rfl,rfl⟩
  ·exact(I.obs k p hp).mono hle (by simp[g',hne]) (hft k hne) (fun b hbk=>⟨hb.block b (hold k p hp b hbk),fun _=>rfl⟩) hb.size
  ·exact hok
 ·have:ob.length+1≤k:=by simpa using hk
  have hne:¬k=ob.length:=by omega
  simp[g',hne,I.lim k (by omega)]
 ·rcases hget k p hp with⟨q1,hk⟩|⟨hk,hp2⟩
  ·rw[Gh.at_mono hle (I.obs k p q1) (hft k hk)] at hbk
   rcases hget k' p' hp' with⟨q2,hk'⟩|⟨hk',hp2'⟩
   ·rw[Gh.at_mono hle (I.obs k' p' q2) (hft k' hk')]
    exact I.dis k k' p p' b hne q1 q2 hbk
   ·subst hk' hp2'
    intro h;have:=hblk b h;have:=hold k p q1 b hbk;omega
  ·subst hk hp2
   rcases hget k' p' hp' with⟨q2,hk'⟩|⟨hk',hp2'⟩
   ·rw[Gh.at_mono hle (I.obs k' p' q2) (hft k' hk')]
    intro h;have:=hblk b hbk;have:=hold k' p' q2 b h;omega
   ·exact(hne hk'.symm).elim
 ·have hne:¬k=ob.length:=by omega
  simpa [g',hne] using I.ext k hk
theorem Inv.add (I:Inv w0 σ0 ob w g){w':World}(hb:Below w.heap.size w w')(o:Ob)(V:Value)(hm:σ0.m≤ob.length)
 (hnew: ∀g':Gh,g.le g'→g'.σ=g.σ→g'.lim ob.length=1→g'.γ ob.length 0=V→ObOK (mineB w0 σ0) g' w' ob.length o∧ ∀b,g'.at ob.length o b→w.heap.size≤b):
 ∃g',g.le g'∧g'.σ=g.σ∧g'.lim ob.length=1∧g'.γ ob.length 0=V∧Inv w0 σ0 (ob++[o]) w' g':=
 I.addF hb o V (fun _=>False) (fun g' h1 h2 h3 h4 _=>hnew g' h1 h2 h3 h4) hm
theorem Inv.turnM (I:Inv w0 σ0 ob w g){w':World}{g':Gh}{k:Nat}{o o':Ob}(hk:ob[k]? =some o)(hnp: ∀z e rows n,o≠ .gr z e rows n true)(h0:0<g.lim k∨σ0.m≤k)(hle:g.le g')(hσ:g'.σ=g.σ)
 (hoj: ∀j,j≠k→g'.lim j=g.lim j∧g'.foot j=g.foot j) (hos:w'.os=w.os) (htape:w'.tape=w.tape) (hout:w'.output=w.output) (hsize:w.heap.size≤w'.heap.size)
 (hoth: ∀b,b<w.heap.size→¬g.at k o b→w'.heap[b]? =w.heap[b]?) (hok:ObOK (mineB w0 σ0) g' w' k o') (hat: ∀b,g'.at k o' b→g.at k o b∨w.heap.size≤b):
 Inv w0 σ0 (ob.set k o') w' g':=by
 have hlt:k<ob.length:=(List.getElem?_eq_some_iff.1 hk).1
 have hmine:=fun b hb=>(I.obs k o hk).at_lt (b:=b) hb
 refine⟨I.below.then hos htape hout hsize fun b hb hn=>hoth b (Nat.lt_of_lt_of_le hb I.below.size) fun h=>?_,fun b x hb hn=>by rw[hσ];exact I.old b x hb hn,fun b x u hu=>?_,fun j p hp=>?_,fun j hj=>?_,fun i j p p' b hne hp hp' hb=>?_,fun j hj=>?_⟩
 ·rcases(hmine b h).1 with h|h
  ·omega
  ·exact hn h
 ·rw[hσ] at hu
  have hn:¬g.at k o b:=fun h=>by rw[(I.obs k o hk).hid hnp h x] at hu;cases hu
  rw[World.cell?_of_block (w:=w) (w':=w') (hoth b (I.lt_of_σ hu) hn)]
  exact I.con b x u hu
 ·by_cases hj:k=j
  ·subst hj
   rw[List.getElem?_set_self hlt] at hp
   simp only[Option.some.injEq] at hp
   subst hp
   exact hok
  ·rw[List.getElem?_set_ne hj] at hp
   have hj':j≠k:=fun h=>hj h.symm
   exact(I.obs j p hp).mono hle (hoj j hj').1 (hoj j hj').2 (fun b hbk=>⟨hoth b ((I.obs j p hp).at_lt hbk).2 fun h=>I.dis k j o p b hj hk hp h hbk,fun x=>by rw[hσ]⟩) hsize
 ·have hj':j≠k:=fun h=>by subst h;simp at hj;omega
  rw[(hoj j hj').1]
  exact I.lim j (by simpa using hj)
 ·have same: ∀(i:Nat) (p:Ob) (b:Nat),(ob.set k o')[i]? =some p→g'.at i p b→(i=k∧p=o'∧(g.at k o b∨w.heap.size≤b))∨(i≠k∧ob[i]? =some p∧g.at i p b):=by
   intro i p b hp hb
   by_cases hi:k=i
   ·subst hi
    rw[List.getElem?_set_self hlt] at hp
    simp only[Option.some.injEq] at hp
    subst hp
    exact .inl ⟨rfl,rfl,hat b hb⟩
   ·rw[List.getElem?_set_ne hi] at hp
    have hi':i≠k:=fun h=>hi h.symm
    rw[Gh.at_mono hle (I.obs i p hp) (hoj i hi').2] at hb
    exact .inr ⟨hi',hp,hb⟩
  intro hb'
  rcases same i p b hp hb with⟨h1,h2,h3⟩|⟨h1,h2,h3⟩
  ·rcases same j p' b hp' hb' with⟨h4,h5,h6⟩|⟨h4,h5,h6⟩
   ·exact hne (h1.trans h4.symm)
   ·rcases h3 with h3|h3
    ·exact I.dis k j o p' b (fun e=>h4 e.symm) hk h5 h3 h6
    ·have:=((I.obs j p' h5).at_lt h6).2;omega
  ·rcases same j p' b hp' hb' with⟨h4,h5,h6⟩|⟨h4,h5,h6⟩
   ·rcases h6 with h6|h6
    ·exact I.dis k i o p b (fun e=>h1 e.symm) hk h2 h6 h3
    ·have:=((I.obs i p h2).at_lt h3).2;omega
   ·exact I.dis i j p p' b hne h2 h5 h3 h6
 ·by_cases hjk:j=k
  ·subst hjk
   rcases I.ext j hj with h|h
   ·omega
   ·exact .inr ((hle.γ j 0 (by omega)).2.trans h)
  ·rcases I.ext j hj with h|h
   ·exact .inl ((hoj j hjk).1.trans h)
   ·by_cases h0:0<g.lim j
    ·exact .inr ((hle.γ j 0 h0).2.trans h)
    ·exact .inl ((hoj j hjk).1.trans (by omega))
theorem Inv.turn (I:Inv w0 σ0 ob w g){w':World}{g':Gh}{k:Nat}{o o':Ob}(hk:ob[k]? =some o)(hnp: ∀z e rows n,o≠ .gr z e rows n true)(h0:0<g.lim k)(hle:g.le g')(hσ:g'.σ=g.σ)
 (hoj: ∀j,j≠k→g'.lim j=g.lim j∧g'.foot j=g.foot j) (hos:w'.os=w.os) (htape:w'.tape=w.tape) (hout:w'.output=w.output) (hsize:w.heap.size≤w'.heap.size)
 (hoth: ∀b,b<w.heap.size→¬g.at k o b→w'.heap[b]? =w.heap[b]?) (hok:ObOK (mineB w0 σ0) g' w' k o') (hat: ∀b,g'.at k o' b→g.at k o b∨w.heap.size≤b):
 Inv w0 σ0 (ob.set k o') w' g':=I.turnM hk hnp (.inl h0) hle hσ hoj hos htape hout hsize hoth hok hat
theorem below_alloc (w:World)(o:Obj):Below w.heap.size w (w.alloc o):=(Below.refl _ _).alloc (Nat.le_refl _) o
theorem Inv.addPv (I:Inv w0 σ0 ob w g)(hm:σ0.m≤ob.length)(e:TypeId)(cs:List T)(vs:List Value)(hl:cs.length=vs.length)
 (h: ∀(i:Nat) (x:T) (u:Value),cs[i]? =some x→vs[i]? =some u→RT g x u) (h1: ∀u∈vs,u.oneCell'=true):
 ∃g',g.le g'∧Inv w0 σ0 (ob++[.pv cs]) (w.alloc (.cells vs.toArray e)) g'∧RT g' (.lp ob.length 0) (.pointer (some ⟨w.heap.size,0,none⟩)):=by
 obtain⟨g',hle,hσ,hl1,hγ,I'⟩:=I.add (below_alloc w (.cells vs.toArray e)) (.pv cs) (.pointer (some ⟨w.heap.size,0,none⟩)) hm (fun g' hle hσ hl1 hγ=>by
  refine⟨⟨hl1,w.heap.size,vs,e,hγ,.inl I.below.size,heap_alloc_new w _,hl,fun i x u hx hu=>(h i x u hx hu).mono hle,h1,fun o=>?_⟩,fun b hb=>?_⟩
  ·rw[hσ];exact I.new_none (Nat.le_refl _) o
  ·simp only[Gh.at,hγ,Value.pointer.injEq,Option.some.injEq,Addr.mk.injEq,and_true] at hb;omega)
 exact⟨g',hle,I',.lp _ _ _ (by omega) hγ⟩
def cellsT (ob:List Ob):T→Option (List T)
 |.d (.agg ds)=>some (ds.map .d)
 |.d x=>some [.d x]
 |.agg cs=>some cs
 |.lp l off=>some [.lp l off]
 |.og k n=>match ob[k]? with
  |some (.gr _ _ _ m _)=>bif Nat.beq m n then some [.og k n] else none
  |some (.x _ m)=>bif Nat.beq m n then some [.og k n] else none
  |_=>none
 |.ea r off=>some [.ea r off]
 |.eg k n z i off=>some [.eg k n z i off]
 |.clo f cs=>some [.clo f cs]
 |.ps l n=>some [.ps l n]
 |.ifc ty t=>some [.ifc ty t]
 |_=>none
def oneT :T→Bool
 |.d (.v x)=>x.oneCell'
 |.d (.nl _)=>true
 |.d (.sl _ _)=>true
 |.d (.agg _)=>false
 |.lp _ _=>true
 |.og _ _=>true
 |.ea _ _=>true
 |.eg _ _ _ _ _=>true
 |.clo _ _=>true
 |.ps _ _=>true
 |.ifc _ _=>true
 |_=>false
def onesT :List T→Bool
 |[]=>true
 |t::r=>oneT t&&onesT r
def curT (ob:List Ob):T→Bool
 |.og k n=>match ob[k]? with
  |some (.gr _ _ _ m _)=>Nat.beq m n
  |some (.x _ m)=>Nat.beq m n
  |_=>false
 |_=>true
def cursT (ob:List Ob):List T→Bool
 |[]=>true
 |t::r=>curT ob t&&cursT ob r
theorem Inv.og_slice (I:Inv w0 σ0 ob w g){k n:Nat}(h:curT ob (.og k n)=true):(g.γ k n).oneCell'=true:=by
 simp only[curT] at h
 split at h
 ·rename_i z e rows m pub hk
  have:m=n:=Nat.eq_of_beq_eq_true h
  subst this
  obtain⟨_,xs,⟨h2,_⟩,_⟩:=I.obs k _ hk
  rcases h2.2 with⟨hv,_⟩|⟨_,_,_,hv,_⟩<;>rw[hv]<;>rfl
 ·rename_i X m hk
  have:m=n:=Nat.eq_of_beq_eq_true h
  subst this
  exact X.one (I.obs k _ hk).2.1
 ·cases h
theorem Inv.one (I:Inv w0 σ0 ob w g){t:T}{u:Value}(h1:oneT t=true)(hc:curT ob t=true)(h:RT g t u):u.oneCell'=true:=by
 cases h with
 |d x u h=>
  cases h with
  |v x=>exact h1
  |nl z=>rfl
  |nil z A=>rfl
  |sl=>rfl
  |agg=>cases h1
 |agg=>cases h1
 |tup=>cases h1
 |lp=>rfl
 |og k n h=>exact I.og_slice hc
 |ea=>rfl
 |eg=>rfl
 |clo=>rfl
 |ps=>rfl
 |os=>cases h1
 |ifc=>rfl
 |any=>cases h1
theorem Inv.cells (I:Inv w0 σ0 ob w g){t:T}{u:Value}{cs:List T}(hc:cellsT ob t=some cs)(h:RT g t u)(h1:onesT cs=true)(h2:cursT ob cs=true):
 cs.length=u.cells.toList.length∧(∀(i:Nat) (x:T) (v:Value),cs[i]? =some x→u.cells.toList[i]? =some v→RT g x v)∧ ∀v∈u.cells.toList,v.oneCell'=true:=by
 have single: ∀ {x:T} {v:Value},RT g x v→cs=[x]→u=v→(v.oneCell'=true→v.cells= #[v])→
  cs.length=u.cells.toList.length∧(∀(i:Nat) (x:T) (v:Value),cs[i]? =some x→u.cells.toList[i]? =some v→RT g x v)∧ ∀v∈u.cells.toList,v.oneCell'=true:=by
  intro x v hx hcs hu hcell
  subst hcs;subst hu
  simp only[onesT,cursT,Bool.and_true] at h1 h2
  have ho:=I.one h1 h2 hx
  have hce:=hcell ho
  rw[hce]
  refine⟨rfl,fun i y w' hy hw=>?_,fun w' hw'=>?_⟩
  ·cases i with
   |zero=>simp at hy hw;subst hy;subst hw;exact hx
   |succ i=>simp at hy
  ·simp at hw';subst hw';exact ho
 have hcell: ∀v:Value,v.oneCell'=true→v.cells= #[v]:=fun v hv=>by cases v<;>first|rfl|cases hv
 have many: ∀(vs:List Value),u=.agg vs.toArray→cs.length=vs.length→(∀(i:Nat) (x:T) (v:Value),cs[i]? =some x→vs[i]? =some v→RT g x v)→
  cs.length=u.cells.toList.length∧(∀(i:Nat) (x:T) (v:Value),cs[i]? =some x→u.cells.toList[i]? =some v→RT g x v)∧ ∀v∈u.cells.toList,v.oneCell'=true:=by
  intro vs hu hl hr
  subst hu
  have key: ∀(cs:List T) (vs:List Value),cs.length=vs.length→(∀(i:Nat) (x:T) (v:Value),cs[i]? =some x→vs[i]? =some v→RT g x v)→onesT cs=true→cursT ob cs=true→ ∀v∈vs,v.oneCell'=true:=by
   intro cs
   induction cs with
   |nil=>intro vs hl _ _ _ v hv;cases vs with|nil=>cases hv|cons _ _=>simp at hl
   |cons c cs ih=>
    intro vs hl hr h1 h2 v hv
    cases vs with
    |nil=>cases hv
    |cons u vs=>
     simp only[onesT,cursT,Bool.and_eq_true] at h1 h2
     rcases List.mem_cons.1 hv with rfl|hv
     ·exact I.one h1.1 h2.1 (hr 0 c v rfl rfl)
     ·exact ih vs (by simpa using hl) (fun i x v hx hv=>hr (i+1) x v (by simpa using hx) (by simpa using hv)) h1.2 h2.2 v hv
  exact⟨by simpa [Value.cells] using hl,fun i x v hx hv=>hr i x v hx (by simpa [Value.cells] using hv),fun v hv=>key cs vs hl hr h1 h2 v (by simpa [Value.cells] using hv)⟩
 cases t with
 |d x=>
  cases x with
  |agg ds=>
   simp only[cellsT,Option.some.injEq] at hc
   subst hc
   obtain⟨vs,hu,hl,hr⟩:=h.inv_d.inv_agg
   exact many vs hu (by simpa using hl) fun i x v hx hv=>by
    simp only[List.getElem?_map,Option.map_eq_some_iff] at hx
    obtain⟨y,hy,rfl⟩:=hx
    exact .d _ _ (hr i y v hy hv)
  |v x=>simp only[cellsT,Option.some.injEq] at hc;exact single h hc.symm rfl (hcell _)
  |nl z=>simp only[cellsT,Option.some.injEq] at hc;exact single h hc.symm rfl (hcell _)
  |sl z rows=>simp only[cellsT,Option.some.injEq] at hc;exact single h hc.symm rfl (hcell _)
 |agg cs'=>
  simp only[cellsT,Option.some.injEq] at hc
  subst hc
  obtain⟨vs,hu,hl,hr⟩:=h.inv_agg
  exact many vs hu hl hr
 |tup cs'=>cases hc
 |lp l off=>simp only[cellsT,Option.some.injEq] at hc;exact single h hc.symm rfl (hcell _)
 |og k n=>
  simp only[cellsT] at hc
  split at hc
  ·rename_i m pub hk
   by_cases hm:Nat.beq m n=true
   ·rw[hm,cond_true] at hc
    simp only[Option.some.injEq] at hc
    exact single h hc.symm rfl (hcell _)
   ·rw[Bool.eq_false_iff.2 hm] at hc;cases hc
  ·rename_i m hk
   by_cases hm:Nat.beq m n=true
   ·rw[hm,cond_true] at hc
    simp only[Option.some.injEq] at hc
    exact single h hc.symm rfl (hcell _)
   ·rw[Bool.eq_false_iff.2 hm] at hc;cases hc
  ·cases hc
 |ea r off=>simp only[cellsT,Option.some.injEq] at hc;exact single h hc.symm rfl (hcell _)
 |eg k n z i off=>simp only[cellsT,Option.some.injEq] at hc;exact single h hc.symm rfl (hcell _)
 |clo f cs=>simp only[cellsT,Option.some.injEq] at hc;exact single h hc.symm rfl (hcell _)
 |ps l n=>simp only[cellsT,Option.some.injEq] at hc;exact single h hc.symm rfl (hcell _)
 |os k n i=>cases hc
 |ifc ty t=>simp only[cellsT,Option.some.injEq] at hc;exact single h hc.symm rfl (hcell _)
 |any=>cases hc
end
section
variable {E:Env}{N:Nm}{Q:Exit→St→Prop}{S:St}{ops l:List Oper}{ty:TypeId}{pos:String}{after:Array Edge}{gd:Option (Nat×Bool)}{d:Nat}
theorem WL.alloc {t:TypeId}(hw:S.want ops ⟨some d,.alloc t,ty,pos,after,gd⟩=some true)(hd:Nat.blt d N.n=true)(hk:(E.ty t).known=true)
 (k:WL E.P N ops l Q ⟨(S.set d (.lp S.ob.length 0)).tm,S.ob++[.pv ((E.ty t).zero.map .d)]⟩):WL E.P N ops (⟨some d,.alloc t,ty,pos,after,gd⟩::l) Q S:=
 WL.eff (by simp) hw hd (fun w0 σ0 a w g r=>by
  obtain⟨inf,z,hinf,hsz,_,hz,hzs,hzc⟩:=E.info hk
  obtain⟨h1,h2,h3⟩:=zerosAre_ok hzs
  obtain⟨g',hle,I',ht⟩:=r.inv.addPv (by rw[r.hm];exact r.hl) t ((E.ty t).zero.map .d) z.cells.toList (by simpa using h1) (fun i x u hx hu=>by
   simp only[List.getElem?_map,Option.map_eq_some_iff] at hx
   obtain⟨y,hy,rfl⟩:=hx
   exact .d _ _ (h3 _ i y u hy hu)) h2
  refine⟨_,_,g',?_,hle,I',ht⟩
  simp[execOp,Instr.alloc,zeroValue,typeInfo,hinf,hz,newVar,newRow]) k
theorem WL.box {t:TypeId}{x:Operand}{cs:List T}(hw:S.want ops ⟨some d,.box t x,ty,pos,after,gd⟩=some true)(hd:Nat.blt d N.n=true)
 (hc:cellsT S.ob (S.ev x)=some cs) (h1:onesT cs=true) (h2:cursT S.ob cs=true)
 (k:WL E.P N ops l Q ⟨(S.set d (.lp S.ob.length 0)).tm,S.ob++[.pv cs]⟩):WL E.P N ops (⟨some d,.box t x,ty,pos,after,gd⟩::l) Q S:=
 WL.eff (by simp) hw hd (fun w0 σ0 a w g r=>by
  obtain⟨c1,c2,c3⟩:=r.inv.cells hc (r.ev x) h1 h2
  obtain⟨g',hle,I',ht⟩:=r.inv.addPv (by rw[r.hm];exact r.hl) t cs (a.eval x).cells.toList c1 c2 c3
  refine⟨_,_,g',?_,hle,I',ht⟩
  simp[execOp,Instr.box,newVar,newRow]) k
end
def setAll {α:Type}:List α→Nat→List α→List α
 |cs,_,[]=>cs
 |cs,o,x::r=>setAll (cs.set o x) (o+1) r
theorem setAll_length {α:Type}: ∀(r cs:List α) (o:Nat),(setAll cs o r).length=cs.length
 |[],cs,o=>rfl
 |x::r,cs,o=>by simp[setAll,setAll_length r]
theorem setAll_at {α:Type}: ∀(r cs:List α) (o i:Nat),o+r.length≤cs.length→(setAll cs o r)[i]? =if o≤i∧i<o+r.length then r[i - o]? else cs[i]?
 |[],cs,o,i,_=>by simp[setAll];intro h1 h2;omega
 |x::r,cs,o,i,h=>by
  simp only[List.length_cons] at h
  rw[setAll,setAll_at r (cs.set o x) (o+1) i (by simp;omega)]
  by_cases e:i=o
  ·subst e
   have h1:¬(i+1≤i∧i<i+1+r.length):=by omega
   have h2:i≤i∧i<i+(x::r).length:=by simp
   rw[if_neg h1,if_pos h2,List.getElem?_set_self (by omega)]
   simp
  ·have h3:¬o=i:=fun h=>e h.symm
   by_cases h1:o+1≤i∧i<o+1+r.length
   ·have h2:o≤i∧i<o+(x::r).length:=by simp;omega
    rw[if_pos h1,if_pos h2]
    have:i - o=(i - (o+1))+1:=by omega
    rw[this,List.getElem?_cons_succ]
   ·have h2:¬(o≤i∧i<o+(x::r).length):=by simp;omega
    rw[if_neg h1,if_neg h2,List.getElem?_set_ne h3]
theorem run_storeCells {P:Program}{b:Nat}{e:TypeId}: ∀(vals vs:List Value) (off i:Nat) (w:World),w.heap[b]? =some (.cells vs.toArray e (0,0))→off+i+vals.length≤vs.length→
 (∀u∈vals,u.oneCell'=true)→ ∃w',(storeCells ⟨b,off,none⟩ vals i).run P w=.ok () w'∧w'.heap[b]? =some (.cells (setAll vs (off+i) vals).toArray e (0,0))∧
   w'.os=w.os∧w'.tape=w.tape∧w'.output=w.output∧w'.heap.size=w.heap.size∧ ∀k,k≠b→w'.heap[k]? =w.heap[k]?
 |[],vs,off,i,w,hh,_,_=>⟨w,rfl,by simpa [setAll] using hh,rfl,rfl,rfl,rfl,fun _ _=>rfl⟩
 |u::r,vs,off,i,w,hh,hl,h1=>by
  simp only[List.length_cons] at hl
  have ho:off+i<vs.length:=by omega
  have hcell:w.cell? ⟨b,off+i,none⟩=some (vs[off+i]):=by rw[cell_of_heap hh];exact List.getElem?_eq_getElem ho
  have hfz:w.frozen? ⟨b,off+i,none⟩=false:=by simp[World.frozen?,hh]
  have hset:(w.setCell ⟨b,off+i,none⟩ u).heap[b]? =some (.cells (vs.set (off+i) u).toArray e (0,0)):=by
   simp[World.setCell,Array.getElem?_modify,hh]
  obtain⟨w',hr,hh',h2,h3,h4,h5,h6⟩:=run_storeCells r (vs.set (off+i) u) off (i+1) (w.setCell ⟨b,off+i,none⟩ u) hset (by simp;omega) (fun x hx=>h1 x (List.mem_cons_of_mem _ hx))
  refine⟨w',?_,by simpa [setAll,Nat.add_assoc] using hh',h2,h3,h4,by simpa [World.setCell] using h5,fun k hk=>?_⟩
  ·simp only[storeCells,Sem.run_bind,Addr.add_lit]
   rw[run_store P w _ u _ (h1 u (List.mem_cons_self ..)),hcell]
   simp only[hfz,Bool.false_eq_true,if_false,Result.andThen_ok]
   exact hr
  ·rw[h6 k hk]
   exact Below.heap_setCell w ⟨b,off+i,none⟩ u k hk
section
variable {N:Nm}{S:St}{w0:World}{σ0:Bs}{ob:List Ob}{a:Act}{w:World}{g:Gh}
theorem Inv.setPv (I:Inv w0 σ0 ob w g){w':World}{l off:Nat}{cs vals:List T}{b:Nat}{vs us:List Value}{e:TypeId}(hl:ob[l]? =some (.pv cs))
 (hγ:g.γ l 0=.pointer (some ⟨b,0,none⟩)) (hh:w.heap[b]? =some (.cells vs.toArray e (0,0))) (hlen:cs.length=vs.length)
 (hoff:off+vals.length≤cs.length) (hul:vals.length=us.length) (hr: ∀(i:Nat) (x:T) (u:Value),vals[i]? =some x→us[i]? =some u→RT g x u) (h1: ∀u∈us,u.oneCell'=true)
 (hh':w'.heap[b]? =some (.cells (setAll vs off us).toArray e (0,0))) (hos:w'.os=w.os) (htape:w'.tape=w.tape) (hout:w'.output=w.output) (hsize:w'.heap.size=w.heap.size)
 (hother: ∀k,k≠b→w'.heap[k]? =w.heap[k]?):Inv w0 σ0 (ob.set l (.pv (setAll cs off vals))) w' g:=by
 have hlt:l<ob.length:=(List.getElem?_eq_some_iff.1 hl).1
 obtain⟨hlim,b',vs',e',hγ',hb,hhb,hlen',hcs,hone,hσ⟩:=I.obs l _ hl
 rw[hγ] at hγ'
 injection hγ' with e1;injection e1 with e1;injection e1 with e1 _ _
 subst e1
 rw[hh] at hhb
 have evs:vs=vs':=by
  have:=Option.some.inj hhb
  injection this with this _ _
  have:=congrArg Array.toList this
  simpa using this
 subst evs
 have hat: ∀(i:Nat) (x:T) (u:Value),(setAll cs off vals)[i]? =some x→(setAll vs off us)[i]? =some u→RT g x u:=fun i x u hx hu=>by
  rw[setAll_at _ _ _ _ hoff] at hx
  rw[setAll_at _ _ _ _ (by omega)] at hu
  by_cases h:off≤i∧i<off+vals.length
  ·rw[if_pos h] at hx;rw[if_pos (by omega)] at hu;exact hr _ x u hx hu
  ·rw[if_neg h] at hx;rw[if_neg (by omega)] at hu;exact hcs i x u hx hu
 have hone': ∀u∈setAll vs off us,u.oneCell'=true:=fun u hu=>by
  obtain⟨i,hi⟩:=List.getElem?_of_mem hu
  rw[setAll_at _ _ _ _ (by omega)] at hi
  split at hi
  ·exact h1 u (List.mem_of_getElem? hi)
  ·exact hone u (List.mem_of_getElem? hi)
 exact I.turn hl (fun _ _ _ _ h=>by cases h) (by omega) (Gh.le_refl g) rfl (fun _ _=>⟨rfl,rfl⟩) hos htape hout (by omega) (fun b2 _ hb2=>hother b2 fun e=>hb2 (by subst e;exact hγ))
  ⟨hlim,b,_,e,hγ,hb,hh',by rw[setAll_length,setAll_length];exact hlen,hat,hone',hσ⟩ fun b2 hb2=>.inl hb2
end
section
variable {E:Env}{N:Nm}{Q:Exit→St→Prop}{S:St}{ops l:List Oper}{ty:TypeId}{pos:String}{after:Array Edge}{gd:Option (Nat×Bool)}
theorem WL.store {t:TypeId}{x v:Operand}{j off:Nat}{cs vals:List T}(hw:S.want ops ⟨none,.store t x v,ty,pos,after,gd⟩=some true)(hk:(E.ty t).known=true)
 (hx:S.ev x=.lp j off) (hj:S.ob[j]? =some (.pv cs)) (hv:cellsT S.ob (fixNil E t (S.ev v))=some vals) (hn:Nat.beq vals.length (E.ty t).size=true) (ho:Nat.ble (off+vals.length) cs.length=true)
 (h1:onesT vals=true) (h2:cursT S.ob vals=true)
 (k:WL E.P N ops l Q ⟨S.tm,S.ob.set j (.pv (setAll cs off vals))⟩):WL E.P N ops (⟨none,.store t x v,ty,pos,after,gd⟩::l) Q S:=
 WL.effskip (by simp) hw (fun w0 σ0 a w g r=>by
  obtain⟨inf,z,hinf,hsz,_⟩:=E.info hk
  have hxr:=r.ev x
  rw[hx] at hxr
  obtain⟨b,h0,hγ,hxv⟩:=hxr.inv_lp
  obtain⟨c1,c2,c3⟩:=r.inv.cells hv ((r.ev v).fixNil E t) h1 h2
  obtain⟨hlim,b',vs,e,hγ',hb,hh,hlen,hcs,hone,hσ⟩:=r.inv.obs j _ hj
  rw[hγ] at hγ'
  injection hγ' with e1;injection e1 with e1;injection e1 with e1 _ _
  subst e1
  have ho':=Nat.le_of_ble_eq_true ho
  have hn':=Nat.eq_of_beq_eq_true hn
  obtain⟨w',hrun,hh',g1,g2,g3,g4,g5⟩:=run_storeCells (P:=E.P) (a.eval v).cells.toList vs off 0 w hh (by omega) c3
  refine⟨w',g,?_,Gh.le_refl g,r.inv.setPv hj hγ hh hlen ho' c1 c2 c3 (by simpa using hh') g1 g2 g3 g4 g5⟩
  have hsize:(a.eval v).cells.size=inf.size:=by
   have:(a.eval v).cells.toList.length=(a.eval v).cells.size:=Array.length_toList
   omega
  simp[execOp,Instr.storeAt,Instr.sureAddr,hxv,storeVar,sizeOf,typeInfo,hinf,hsize,hrun]) k
end
def fillT (ob:List Ob)(offs:List (Nat×Nat×Bool)):List T→List (Nat×T)→Option (List T)
 |cs,[]=>some cs
 |cs,(i,t)::r=>match offs[i]?,cellsT ob t with
  |some (o,n,_),some xs=>bif Nat.beq xs.length n&&Nat.ble (o+n) cs.length&&onesT xs&&cursT ob xs then fillT ob offs (setAll cs o xs) r else none
  |_,_=>none
theorem foldl_set : ∀(xs cs:List Value) (off s:Nat),(xs.zipIdx s).foldl (fun(c:Array Value) (p:Value×Nat)=>c.setIfInBounds (off+p.2) p.1) cs.toArray=(setAll cs (off+s) xs).toArray
 |[],cs,off,s=>by simp[setAll]
 |x::r,cs,off,s=>by
  simp only[List.zipIdx_cons,List.foldl_cons,List.setIfInBounds_toArray]
  rw[foldl_set r (cs.set (off+s) x) off (s+1)]
  rfl
theorem fold_cells (v:Value)(cs:List Value)(off:Nat):
 v.cells.zipIdx.foldl (fun(c:Array Value) (x:Value×Nat)=>c.setIfInBounds (off+x.2) x.1) cs.toArray=(setAll cs off v.cells.toList).toArray:=by
 have:=foldl_set v.cells.toList cs off 0
 rw[Nat.add_zero] at this
 rw[←this,←Array.foldl_toList,Array.toList_zipIdx]
section
variable {N:Nm}{S:St}{w0:World}{σ0:Bs}{ob:List Ob}{a:Act}{w:World}{g:Gh}
theorem Inv.fill (I:Inv w0 σ0 ob w g){offs:List (Nat×Nat×Bool)}{place:Nat→Option (Nat×Nat)}(hp: ∀i o n b,offs[i]? =some (o,n,b)→place i=some (o,n)):
 ∀(parts:List (Nat×T)) (vals:List (Nat×Value)) (cs cs':List T) (vs:List Value),fillT ob offs cs parts=some cs'→parts.length=vals.length→
  (∀(j:Nat) (p:Nat×T) (q:Nat×Value),parts[j]? =some p→vals[j]? =some q→p.1=q.1∧RT g p.2 q.2)→cs.length=vs.length→
  (∀(i:Nat) (x:T) (u:Value),cs[i]? =some x→vs[i]? =some u→RT g x u)→
  ∃vs':List Value,Instr.fill place vs.toArray vals=some vs'.toArray∧cs'.length=vs'.length∧ ∀(i:Nat) (x:T) (u:Value),cs'[i]? =some x→vs'[i]? =some u→RT g x u
 |[],[],cs,cs',vs,h,_,_,hl,hr=>by
  simp only[fillT,Option.some.injEq] at h
  subst h
  exact⟨vs,rfl,hl,hr⟩
 |[],_::_,cs,cs',vs,h,hlen,_,hl,hr=>by simp at hlen
 |_::_,[],cs,cs',vs,h,hlen,_,hl,hr=>by simp at hlen
 |(i,t)::parts,(i',v)::vals,cs,cs',vs,h,hlen,hpv,hl,hr=>by
  obtain⟨hi,ht⟩:=hpv 0 _ _ rfl rfl
  simp only at hi ht
  subst hi
  simp only[fillT] at h
  split at h
  ·rename_i o n b xs ho hx
   cases hb:(Nat.beq xs.length n&&Nat.ble (o+n) cs.length&&onesT xs&&cursT ob xs) with
   |false=>rw[hb] at h;cases h
   |true=>
    rw[hb,cond_true] at h
    simp only[Bool.and_eq_true] at hb
    obtain⟨⟨⟨b1,b2⟩,b3⟩,b4⟩:=hb
    obtain⟨c1,c2,c3⟩:=I.cells hx ht b3 b4
    have e1:xs.length=n:=Nat.eq_of_beq_eq_true b1
    have e2:o+n≤cs.length:=Nat.le_of_ble_eq_true b2
    have hvs:v.cells.size=n:=by rw[←Array.length_toList];omega
    obtain⟨vs',h1,h2,h3⟩:=Inv.fill I hp parts vals (setAll cs o xs) cs' (setAll vs o v.cells.toList) h (by simpa using hlen)
     (fun j p q hj hq=>hpv (j+1) p q (by simpa using hj) (by simpa using hq)) (by rw[setAll_length,setAll_length];exact hl) (fun k x u hx hu=>by
       rw[setAll_at _ _ _ _ (by omega)] at hx
       rw[setAll_at _ _ _ _ (by omega)] at hu
       by_cases hk:o≤k∧k<o+xs.length
       ·rw[if_pos hk] at hx;rw[if_pos (by omega)] at hu;exact c2 _ x u hx hu
       ·rw[if_neg hk] at hx;rw[if_neg (by omega)] at hu;exact hr k x u hx hu)
    refine⟨vs',?_,h2,h3⟩
    unfold Instr.fill
    rw[hp i o n b ho]
    have hcond:¬(v.cells.size≠n||decide (o+v.cells.size>vs.toArray.size))=true:=by
     simp[hvs];omega
    simp only[hcond]
    rw[fold_cells]
    exact h1
  ·cases h
end
theorem run_places {P:Program}{w:World}: ∀ {os:List (Nat×Nat×Bool)} {fs:List Field},offsAre P os fs=true→
 (fs.mapM fun f=>(do pure (f.offset,←sizeOf f.type):Sem (Nat×Nat))).run P w=.ok (os.map fun x=>(x.1,x.2.1)) w
 |[],[],_=>by simp
 |(o,n,b)::r,f::s,h=>by
  have h0:=offsAre_at h 0 o n b rfl
  obtain⟨f',inf,hf,h1,h2,h3,_⟩:=h0
  simp only[List.getElem?_cons_zero,Option.some.injEq] at hf
  subst hf
  have hr:offsAre P r s=true:=by
   simp only[offsAre,Bool.and_eq_true] at h
   exact h.2
  have ih:=run_places (w:=w) hr
  simp[List.mapM_cons,sizeOf,typeInfo,h2,h1,h3] at ih ⊢
  rw[ih]
  rfl
 |[],_::_,h=>by cases h
 |_::_,[],h=>by cases h
def evParts (S:St)(parts:List (Nat×Operand)):List (Nat×T):=parts.map fun p=>(p.1,S.ev p.2)
section
variable {E:Env}{N:Nm}{Q:Exit→St→Prop}{S:St}{ops l:List Oper}{ty:TypeId}{pos:String}{after:Array Edge}{gd:Option (Nat×Bool)}{d:Nat}
theorem WL.build {t:TypeId}{parts:List (Nat×Operand)}{cs:List T}(hw:S.want ops ⟨some d,.build t parts.toArray,ty,pos,after,gd⟩=some true)(hd:Nat.blt d N.n=true)
 (ha:(E.ty t).agg=true) (hf:fillT S.ob (E.ty t).offs ((E.ty t).zero.map .d) (evParts S parts)=some cs)
 (k:WL E.P N ops l Q (S.set d (mkAgg cs))):WL E.P N ops (⟨some d,.build t parts.toArray,ty,pos,after,gd⟩::l) Q S:=
 WL.val hw hd (fun w0 σ0 a w g r=>by
  obtain⟨hk,fs,hu,hoffs⟩:=E.struct ha
  obtain⟨inf,z,hinf,hsz,_,hz,hzs,hzc⟩:=E.info hk
  obtain⟨z1,z2,z3⟩:=zerosAre_ok hzs
  obtain⟨vs',h1,h2,h3⟩:=r.inv.fill (place:=fun i=>((E.ty t).offs.map fun x=>(x.1,x.2.1)).toArray[i]?) (offs:=(E.ty t).offs) (fun i o n b h=>by simp[h])
   (evParts S parts) (parts.map fun p=>(p.1,a.eval p.2)) _ cs z.cells.toList hf (by simp[evParts]) (fun j p q hp hq=>by
     simp only[evParts,List.getElem?_map,Option.map_eq_some_iff] at hp hq
     obtain⟨x,hx,rfl⟩:=hp
     obtain⟨y,hy,rfl⟩:=hq
     rw[hx] at hy;cases hy
     exact⟨rfl,r.ev x.2⟩) (by simpa using z1) (fun i x u hx hu=>by
     simp only[List.getElem?_map,Option.map_eq_some_iff] at hx
     obtain⟨y,hy,rfl⟩:=hx
     exact .d _ _ (z3 _ i y u hy hu))
  have hpl:=run_places (w:=w) hoffs
  have hrun:(Instr.build t (parts.toArray.map fun(i,x)=>(i,a.eval x))).run E.P w=.ok (.agg vs'.toArray) w:=by
   unfold Instr.build
   simp only[Sem.run_bind,zeroValue,typeInfo,run_program,Result.andThen_ok,hinf,Sem.run_pure,hz,run_underlying hu]
   rw[Array.mapM_eq_mapM_toList]
   simp only[Sem.run_map,hpl,Result.andThen_ok]
   have e1:(parts.toArray.map fun(x:Nat×Operand)=>(x.1,a.eval x.2)).toList=parts.map fun p=>(p.1,a.eval p.2):=by simp
   have e2:z.cells=z.cells.toList.toArray:=by simp
   rw[e1,e2,h1]
   simp
  exact⟨_,by simp only[execOp,Sem.run_bind,hrun,Result.andThen_ok,Sem.run_pure],RT.mkAgg h2 h3⟩) k
end
section
variable {E:Env}{N:Nm}{Q:Exit→St→Prop}{S:St}{ops l:List Oper}{ty:TypeId}{pos:String}{after:Array Edge}{gd:Option (Nat×Bool)}{d:Nat}
theorem run_indexAt {P:Program}{w:World}{t e:TypeId}{inf:TypeInfo}(hu:P.underlying t=some (.slice e))(hi:P.info? e=some inf)(b off len cap:Nat)(k:IntKind)(i:Int)(h:0≤i∧i<len):
 (Instr.indexAt t (.slice (some ⟨b,off,none⟩) len cap) (.int k i)).run P w=.ok (.pointer (some ⟨b,off+i.toNat*inf.size,none⟩)) w:=by
 simp[Instr.indexAt,asIntOf,run_underlying hu,sizeOf,typeInfo,hi,h,Addr.add_lit]
theorem WL.index {t e:TypeId}{x ix:Operand}{z:Nat}{rows:List (List D)}{k:IntKind}{i:Int}{r:List D}(hw:S.want ops ⟨some d,.indexAddr t x ix,ty,pos,after,gd⟩=some true)(hd:Nat.blt d N.n=true)
 (ht:(E.ty t).kind=.slice e) (he:(E.ty e).known=true) (hz:(E.ty e).size=z) (hx:norm S.ob (S.ev x)=.d (.sl z rows)) (hi:S.ev ix=.d (.v (.int k i)))
 (hb:0≤i∧i<rows.length) (hr:rows[i.toNat]? =some r)
 (kk:WL E.P N ops l Q (S.set d (.ea r 0))):WL E.P N ops (⟨some d,.indexAddr t x ix,ty,pos,after,gd⟩::l) Q S:=
 WL.val hw hd (fun w0 σ0 a w g R=>by
  have h1:=R.inv.norm (R.ev x)
  rw[hx] at h1
  have h2:=R.ev ix
  rw[hi] at h2
  have h2':=h2.inv_v
  obtain⟨inf,zz,hinf,hsz,_⟩:=E.info he
  have hlt:i.toNat<rows.length:=by omega
  generalize hxe:a.eval x=xv at h1
  cases h1.inv_d with
  |nil=>simp at hlt
  |sl _ _ b off cap U hcap hm hzr hc hrr=>
   have hrl:r.length=z:=hzr r (List.mem_of_getElem? hr)
   refine⟨_,by simp only[execOp,Sem.run_bind,hxe,h2',run_indexAt (E.slice ht) hinf b off rows.length cap k i hb,Result.andThen_ok,Sem.run_pure];rfl,?_⟩
   rw[hsz,hz]
   exact .ea r 0 b (off+i.toNat*z) (U i.toNat) (fun j hj=>hc i.toNat j hlt (by omega)) (fun j y hy=>hrr i.toNat j r y hr hy)) kk
theorem WL.indexOg {t e:TypeId}{x ix:Operand}{z:Nat}{e':TypeId}{rows:List (List D)}{n m:Nat}{pub:Bool}{k:IntKind}{i:Int}(hw:S.want ops ⟨some d,.indexAddr t x ix,ty,pos,after,gd⟩=some true)(hd:Nat.blt d N.n=true)
 (ht:(E.ty t).kind=.slice e) (he:(E.ty e).known=true) (hz:(E.ty e).size=z) (hx:S.ev x=.og m n) (hm:S.ob[m]? =some (.gr z e' rows n pub)) (hi:S.ev ix=.d (.v (.int k i)))
 (hb:0≤i∧i<rows.length)
 (kk:WL E.P N ops l Q (S.set d (.eg m n z i.toNat 0))):WL E.P N ops (⟨some d,.indexAddr t x ix,ty,pos,after,gd⟩::l) Q S:=
 WL.val hw hd (fun w0 σ0 a w g R=>by
  have h1:=R.ev x
  rw[hx] at h1
  obtain⟨h1,h1'⟩:=h1.inv_og
  have h2:=R.ev ix
  rw[hi] at h2
  have h2':=h2.inv_v
  obtain⟨inf,zz,hinf,hsz,_⟩:=E.info he
  obtain⟨hl,xs,⟨hown,_⟩,_⟩:=R.inv.obs m _ hm
  rcases hown.2 with⟨_,hn⟩|⟨b,cap,cur,hv,_⟩
  ·omega
  ·refine⟨_,by simp only[execOp,Sem.run_bind,h1',hv,h2',run_indexAt (E.slice ht) hinf b 0 rows.length cap k i hb,Result.andThen_ok,Sem.run_pure];rfl,?_⟩
   rw[hsz,hz,Nat.zero_add]
   exact .eg m n z i.toNat 0 b rows.length cap h1 hv) kk
theorem WL.loadEg {t:TypeId}{x:Operand}{z:Nat}{e':TypeId}{rows:List (List D)}{n m i off:Nat}{pub:Bool}{r:List D}{res:D}(hw:S.want ops ⟨some d,.load t x,ty,pos,after,gd⟩=some true)(hd:Nat.blt d N.n=true)
 (hk:(E.ty t).known=true) (hx:S.ev x=.eg m n z i off) (hm:S.ob[m]? =some (.gr z e' rows n pub)) (hr:rows[i]? =some r)
 (hres:(bif (E.ty t).agg then(bif Nat.ble (off+(E.ty t).size) r.length then some (.agg ((r.drop off).take (E.ty t).size)) else none) else r[off]?)=some res)
 (kk:WL E.P N ops l Q (S.set d (.d res))):WL E.P N ops (⟨some d,.load t x,ty,pos,after,gd⟩::l) Q S:=
 WL.val hw hd (fun w0 σ0 a w g R=>by
  have h1:=R.ev x
  rw[hx] at h1
  obtain⟨b,len,cap,hlim,hγ,hxv⟩:=h1.inv_eg
  obtain⟨inf,zz,hinf,hsz,_⟩:=E.info hk
  obtain⟨hl,xs,⟨hown,_⟩,hzr,hxr,hone,_⟩:=R.inv.obs m _ hm
  have hrl:r.length=z:=hzr r (List.mem_of_getElem? hr)
  have hilt:i<rows.length:=(List.getElem?_eq_some_iff.1 hr).1
  have hin: ∀j,j<z→i*z+j<rows.length*z:=fun j hj=>by
   calc i*z+j<i*z+z:=by omega
    _=(i+1)*z:=by rw[Nat.add_mul];omega
    _≤rows.length*z:=Nat.mul_le_mul_right _ hilt
  have hlen:len=rows.length:=by
   rcases hown.2 with⟨hv,_⟩|⟨_,_,_,hv,_⟩
   ·rw[hγ] at hv;cases hv
   ·rw[hγ] at hv;cases hv;rfl
  subst hlen
  rw[hγ] at hown
  have hcell: ∀j (y:D),r[j]? =some y→ ∃u,w.cell? ⟨b,i*z+j,none⟩=some u∧RD g.σ y u:=fun j y hy=>by
   obtain⟨u,hu,hd⟩:=hxr i j r y hr hy
   have hj:j<z:=by rw[←hrl];exact(List.getElem?_eq_some_iff.1 hy).1
   exact⟨u,by rw[hown.cellAt (i*z+j) (hin j hj)];exact hu,hd⟩
  cases ha:(E.ty t).agg with
  |true=>
   obtain⟨_,fs,hu,_⟩:=E.struct ha
   rw[ha,cond_true] at hres
   cases hbl:Nat.ble (off+(E.ty t).size) r.length with
   |false=>rw[hbl] at hres;cases hres
   |true=>
    rw[hbl,cond_true] at hres
    simp only[Option.some.injEq] at hres
    subst hres
    have hle:=Nat.le_of_ble_eq_true hbl
    have hcs: ∀j,j<(E.ty t).size→ ∃u,w.cell? ⟨b,i*z+off+j,none⟩=some u∧ ∀y,r[off+j]? =some y→RD g.σ y u:=fun j hj=>by
     have hlt:off+j<r.length:=by omega
     obtain⟨u,h1,h2⟩:=hcell (off+j) _ (List.getElem?_eq_getElem hlt)
     refine⟨u,by rw[Nat.add_assoc];exact h1,fun y hy=>?_⟩
     rw[List.getElem?_eq_getElem hlt] at hy
     cases hy;exact h2
    let U:Nat→Value:=fun j=>(w.cell? ⟨b,i*z+off+j,none⟩).getD undef
    refine⟨.agg ((List.range (E.ty t).size).map U).toArray,?_,.d _ _ (.agg _ _ (by simp;omega) fun j y u hy hu=>?_)⟩
    ·have:=run_loadVar_struct (w:=w) hu hinf ⟨b,i*z+off,none⟩ ((List.range (E.ty t).size).map U) (by simp[hsz])
      (fun j v hj=>by
        rw[Addr.add_lit]
        simp only[List.getElem?_map,Option.map_eq_some_iff] at hj
        obtain⟨j',hj',rfl⟩:=hj
        obtain⟨hlt,rfl⟩:=List.getElem?_eq_some_iff.1 hj'
        simp only[List.length_range] at hlt
        rw[List.getElem_range]
        obtain⟨u,hu,_⟩:=hcs j hlt
        simp[U,hu])
     simp only[execOp,Sem.run_bind,Instr.loadAt,Instr.sureAddr,hxv,Sem.run_pure,Result.andThen_ok,this]
    ·simp only[List.getElem?_take,List.getElem?_drop] at hy
     simp only[List.getElem?_map,Option.map_eq_some_iff] at hu
     obtain⟨j',hj',rfl⟩:=hu
     obtain⟨hlt,rfl⟩:=List.getElem?_eq_some_iff.1 hj'
     simp only[List.length_range] at hlt
     rw[List.getElem_range]
     obtain⟨u,hu,hd⟩:=hcs j hlt
     rw[if_pos hlt] at hy
     simp only[U,hu,Option.getD_some]
     exact hd y hy
  |false=>
   obtain⟨dd,hu,hd1,hd2⟩:=E.single hk ha
   rw[ha,cond_false] at hres
   obtain⟨u,hc,hd⟩:=hcell off res hres
   exact⟨u,by simp only[execOp,Sem.run_bind,Instr.loadAt,Instr.sureAddr,hxv,Sem.run_pure,Result.andThen_ok,run_loadVar_single (w:=w) hu hd1 hd2 hc],.d _ _ hd⟩) kk
def evBound (S:St)(n:Nat):Option Operand→Option Int
 |none=>some n
 |some x=>match S.ev x with|.d (.v (.int _ i))=>some i|_=>none
def evLow (S:St):Option Operand→Option Int
 |none=>some 0
 |some o=>evBound S 0 (some o)
theorem WL.sliceD {t e:TypeId}{x:Operand}{lo hi:Option Operand}{z:Nat}{rows:List (List D)}{li hh:Int}(hw:S.want ops ⟨some d,.slice t x lo hi none,ty,pos,after,gd⟩=some true)(hd:Nat.blt d N.n=true)
 (ht:(E.ty t).kind=.slice e) (he:(E.ty e).known=true) (hz:(E.ty e).size=z) (hx:norm S.ob (S.ev x)=.d (.sl z rows)) (hlo:evLow S lo=some li)
 (hhi:evBound S rows.length hi=some hh) (hb:0≤li∧li≤hh∧hh≤rows.length)
 (kk:WL E.P N ops l Q (S.set d (.d (.sl z ((rows.drop li.toNat).take (hh.toNat - li.toNat)))))):WL E.P N ops (⟨some d,.slice t x lo hi none,ty,pos,after,gd⟩::l) Q S:=
 WL.val hw hd (fun w0 σ0 a w g R=>by
  have h1:=R.inv.norm (R.ev x)
  rw[hx] at h1
  obtain⟨inf,zz,hinf,hsz,_⟩:=E.info he
  have hbound: ∀(o:Operand) (i:Int) (y:Nat) (c:BoundsCode),evBound S 0 (some o)=some i→0≤i→i≤y→(Instr.sliceBound (a.eval o) y c).run E.P w=.ok i.toNat w:=fun o i y c ho h0 h1=>by
   simp only[evBound] at ho
   split at ho
   ·rename_i k j hj
    simp only[Option.some.injEq] at ho
    subst ho
    have:=R.ev o
    rw[hj] at this
    rw[this.inv_v]
    exact run_sliceBound w k j y c h0 h1
   ·cases ho
  have hbounds: ∀cap:Nat,rows.length≤cap→(Instr.sliceBounds true rows.length cap (lo.map a.eval) (hi.map a.eval) none).run E.P w=.ok (li.toNat,hh.toNat,cap) w:=fun cap hcap=>by
   have hhigh:(match (hi.map a.eval),(none:Option Value) with
    |some v,some _=>Instr.sliceBound v cap .slice3B|some v,none=>Instr.sliceBound v cap .sliceAcap|none,none=>pure rows.length|none,some _=>stuck "x" :Sem Nat).run E.P w=.ok hh.toNat w:=by
    cases hi with
    |none=>simp only[evBound,Option.some.injEq] at hhi;subst hhi;simp
    |some o=>exact hbound o hh cap _ (by simpa [evBound] using hhi) (by omega) (by omega)
   cases lo with
   |none=>
    simp only[evLow,Option.some.injEq] at hlo
    subst hlo
    cases hi with
    |none=>simp only[evBound,Option.some.injEq] at hhi;subst hhi;simp[Instr.sliceBounds]
    |some o=>
     have:=hbound o hh cap .sliceAcap (by simpa [evBound] using hhi) (by omega) (by omega)
     simp[Instr.sliceBounds,this]
   |some o'=>
    have hl:=hbound o' li hh.toNat .sliceB hlo hb.1 (by omega)
    cases hi with
    |none=>
     simp only[evBound,Option.some.injEq] at hhi
     subst hhi
     have hl':=hbound o' li rows.length .sliceB hlo hb.1 hb.2.1
     simp[Instr.sliceBounds,hl']
    |some o=>
     have:=hbound o hh cap .sliceAcap (by simpa [evBound] using hhi) (by omega) (by omega)
     simp[Instr.sliceBounds,this,hl]
  generalize hxe:a.eval x=xv at h1
  have hat: ∀(A:Option Addr) (n cap:Nat),(Instr.sliceBounds true n cap (lo.map a.eval) (hi.map a.eval) none).run E.P w=.ok (li.toNat,hh.toNat,cap) w→(Instr.sliceAt t (.slice A n cap) (lo.map a.eval) (hi.map a.eval) ((none:Option Operand).map a.eval)).run E.P w=
   .ok (.slice (if cap=li.toNat then A else A.map (·.add (li.toNat*inf.size))) (hh.toNat - li.toNat) (cap - li.toNat)) w:=fun A n cap hb=>by
   simp[Instr.sliceAt,run_underlying (E.slice ht),Instr.slice,hb,sizeOf,typeInfo,hinf]
  cases h1.inv_d with
  |nil _ A=>
   have e1:li=0:=by have:=hb.2.1;have:=hb.2.2;simp at this;omega
   have e2:hh=0:=by have:=hb.2.2;simp at this;omega
   subst e1;subst e2
   refine⟨_,by simp only[execOp,Sem.run_bind,hxe];rw[hat A 0 0 (hbounds 0 (by simp))];simp;rfl,?_⟩
   simp
   exact .d _ _ (.nil z A)
  |sl _ _ b off cap U hcap hm hzr hc hrr=>
   refine⟨_,by simp only[execOp,Sem.run_bind,hxe,hat _ _ cap (hbounds cap hcap),Result.andThen_ok,Sem.run_pure];rfl,?_⟩
   have hlen:((rows.drop li.toNat).take (hh.toNat - li.toNat)).length=hh.toNat - li.toNat:=by simp;omega
   by_cases hm':cap=li.toNat
   ·rw[if_pos hm']
    have:hh.toNat - li.toNat=0:=by omega
    rw[this]
    simp only[List.take_zero]
    exact .d _ _ (.sl z [] b off (cap - li.toNat) U (Nat.zero_le _) (by omega) (fun r h=>by cases h) (fun i j hi=>by simp at hi) (fun i j r x hr=>by simp at hr))
   ·rw[if_neg hm',hsz,hz]
    simp only[Option.map_some,Addr.add_lit]
    have:=RD.sl (σ:=g.σ) z ((rows.drop li.toNat).take (hh.toNat - li.toNat)) b (off+li.toNat*z) (cap - li.toNat) (fun i j=>U (li.toNat+i) j) (by rw[hlen];omega) (by omega)
     (fun r hr=>hzr r (List.mem_of_mem_drop (List.mem_of_mem_take hr)))
     (fun i j hi hj=>by
       rw[hlen] at hi
       have:=hc (li.toNat+i) j (by omega) hj
       rw[Nat.add_mul] at this
       rw[show off+li.toNat*z+i*z+j=off+(li.toNat*z+i*z)+j by omega]
       exact this)
     (fun i j r x hr hx=>by
       simp only[List.getElem?_take,List.getElem?_drop] at hr
       split at hr
       ·exact hrr _ j r x hr hx
       ·cases hr)
    rw[hlen] at this
    exact .d _ _ this) kk
theorem WL.sliceS {t:TypeId}{x:Operand}{lo hi:Option Operand}{s:ByteArray}{li hh:Int}(hw:S.want ops ⟨some d,.slice t x lo hi none,ty,pos,after,gd⟩=some true)(hd:Nat.blt d N.n=true)
 (ht:(E.ty t).kind=.string) (hx:S.ev x=.d (.v (.string s))) (hlo:evLow S lo=some li)
 (hhi:evBound S s.size hi=some hh) (hb:0≤li∧li≤hh∧hh≤s.size)
 (kk:WL E.P N ops l Q (S.set d (.d (.v (.string (s.extract li.toNat hh.toNat)))))):WL E.P N ops (⟨some d,.slice t x lo hi none,ty,pos,after,gd⟩::l) Q S:=
 WL.val hw hd (fun w0 σ0 a w g R=>by
  have h1:=R.ev x
  rw[hx] at h1
  have h1':=h1.inv_v
  have hbound: ∀(o:Operand) (i:Int) (y:Nat) (c:BoundsCode),evBound S 0 (some o)=some i→0≤i→i≤y→(Instr.sliceBound (a.eval o) y c).run E.P w=.ok i.toNat w:=fun o i y c ho h0 h1=>by
   simp only[evBound] at ho
   split at ho
   ·rename_i k j hj
    simp only[Option.some.injEq] at ho
    subst ho
    have:=R.ev o
    rw[hj] at this
    rw[this.inv_v]
    exact run_sliceBound w k j y c h0 h1
   ·cases ho
  have hbounds:(Instr.sliceBounds false s.size s.size (lo.map a.eval) (hi.map a.eval) none).run E.P w=.ok (li.toNat,hh.toNat,s.size) w:=by
   cases lo with
   |none=>
    simp only[evLow,Option.some.injEq] at hlo
    subst hlo
    cases hi with
    |none=>simp only[evBound,Option.some.injEq] at hhi;subst hhi;simp[Instr.sliceBounds]
    |some o=>
     have:=hbound o hh s.size .sliceAlen (by simpa [evBound] using hhi) (by omega) (by omega)
     simp[Instr.sliceBounds,this]
   |some o'=>
    have hl:=hbound o' li hh.toNat .sliceB hlo hb.1 (by omega)
    cases hi with
    |none=>
     simp only[evBound,Option.some.injEq] at hhi
     subst hhi
     have hl':=hbound o' li s.size .sliceB hlo hb.1 hb.2.1
     simp[Instr.sliceBounds,hl']
    |some o=>
     have:=hbound o hh s.size .sliceAlen (by simpa [evBound] using hhi) (by omega) (by omega)
     simp[Instr.sliceBounds,this,hl]
  refine⟨_,?_,.d _ _ (.v _)⟩
  simp[execOp,Instr.sliceAt,run_underlying (E.string ht),h1',Instr.slice,hbounds]) kk
end
def rowOf (ob:List Ob)(t:T):Option (List D):=match cellsT ob (norm ob t) with|some cs=>allD cs|none=>none
def rowsOf (S:St):Nat→List (Nat×Operand)→Option (List (List D))
 |_,[]=>some []
 |i,(j,x)::r=>bif Nat.beq i j then
   match rowOf S.ob (S.ev x),rowsOf S (i+1) r with
   |some d,some ds=>some (d::ds)
   |_,_=>none
  else none
def oneD :D→Bool
 |.v x=>x.oneCell'
 |.agg _=>false
 |_=>true
def onesD :List D→Bool
 |[]=>true
 |d::r=>oneD d&&onesD r
def widths (z:Nat):List (List D)→Bool
 |[]=>true
 |r::rs=>Nat.beq r.length z&&onesD r&&widths z rs
section
variable {N:Nm}{S:St}{w0:World}{σ0:Bs}{ob:List Ob}{a:Act}{w:World}{g:Gh}
theorem onesT_map : ∀(xs:List D),onesT (xs.map .d)=onesD xs
 |[]=>rfl
 |.v x::r=>by simp[onesT,onesD,oneT,oneD,onesT_map r]
 |.nl _::r=>by simp[onesT,onesD,oneT,oneD,onesT_map r]
 |.sl _ _::r=>by simp[onesT,onesD,oneT,oneD,onesT_map r]
 |.agg _::r=>by simp[onesT,onesD,oneT,oneD]
theorem cursT_map : ∀(xs:List D),cursT ob (xs.map .d)=true
 |[]=>rfl
 |_::r=>by simp[cursT,curT,cursT_map r]
theorem Inv.row (I:Inv w0 σ0 ob w g){t:T}{u:Value}{xs:List D}(h:rowOf ob t=some xs)(hr:RT g t u)(h1:onesD xs=true):
 xs.length=u.cells.toList.length∧(∀(i:Nat) (x:D) (v:Value),xs[i]? =some x→u.cells.toList[i]? =some v→RD g.σ x v)∧ ∀v∈u.cells.toList,v.oneCell'=true:=by
 unfold rowOf at h
 split at h
 ·rename_i cs hcs
  have hx:=allD_at h
  subst hx
  obtain⟨c1,c2,c3⟩:=I.cells hcs (I.norm hr) (by rw[onesT_map];exact h1) (cursT_map xs)
  exact⟨by simpa using c1,fun i x v hx hv=>(c2 i (.d x) v (by simp[hx]) hv).inv_d,c3⟩
 ·cases h
theorem fill_rows {z len:Nat}: ∀(vals:List (Nat×Value)) (i:Nat) (done rest:List Value),done.length=i*z→(∀(j:Nat) (p:Nat×Value),vals[j]? =some p→p.1=i+j∧p.2.cells.size=z)→
 rest.length=vals.length*z→
 Instr.fill (fun i=>some (i*z,z)) (done++rest).toArray vals=some (done++vals.flatMap fun p=>p.2.cells.toList).toArray
 |[],i,done,rest,hd,hv,hr=>by
  have:rest=[]:=List.eq_nil_of_length_eq_zero (by simpa using hr)
  subst this
  simp[Instr.fill]
 |(j,v)::vals,i,done,rest,hd,hv,hr=>by
  obtain⟨h1,h2⟩:=hv 0 _ rfl
  simp only[Nat.add_zero] at h1 h2
  subst h1
  simp only[List.length_cons] at hr
  have hz:z≤rest.length:=by rw[hr,Nat.add_mul];omega
  have hcond:¬(v.cells.size≠z||decide (j*z+v.cells.size>(done++rest).toArray.size))=true:=by
   simp[h2,hd];omega
  have hset:setAll (done++rest) (j*z) v.cells.toList=(done++v.cells.toList)++rest.drop z:=by
   have hvl:v.cells.toList.length=z:=by simpa using h2
   apply List.ext_getElem?
   intro k
   rw[setAll_at _ _ _ _ (by simp[hvl,hd];omega)]
   by_cases hk:j*z≤k∧k<j*z+v.cells.toList.length
   ·rw[if_pos hk,List.getElem?_append_left (by simp;omega),List.getElem?_append_right (by omega),hd]
   ·rw[if_neg hk]
    by_cases hk2:k<j*z
    ·rw[List.getElem?_append_left (by omega),List.append_assoc,List.getElem?_append_left (by omega)]
    ·rw[List.getElem?_append_right (by omega),List.getElem?_append_right (by simp;omega),List.getElem?_drop]
     congr 1
     simp;omega
  have ih:=fill_rows (z:=z) (len:=len) vals (j+1) (done++v.cells.toList) (rest.drop z) (by simp[hd,h2,Nat.add_mul]) (fun k p hp=>by
   have:=hv (k+1) p (by simpa using hp)
   exact⟨by omega,this.2⟩) (by simp[hr,Nat.add_mul])
  unfold Instr.fill
  simp only[hcond]
  rw[fold_cells,hset]
  simp only[List.flatMap_cons]
  rw[List.append_assoc] at ih
  simpa using ih
theorem rowsOf_at {S:St}: ∀ {parts:List (Nat×Operand)} {i:Nat} {rows:List (List D)},rowsOf S i parts=some rows→
 rows.length=parts.length∧ ∀(j:Nat) (p:Nat×Operand) (r:List D),parts[j]? =some p→rows[j]? =some r→p.1=i+j∧rowOf S.ob (S.ev p.2)=some r
 |[],i,rows,h=>by
  simp only[rowsOf,Option.some.injEq] at h
  subst h
  exact⟨rfl,fun j p r hp=>by simp at hp⟩
 |(k,x)::parts,i,rows,h=>by
  simp only[rowsOf] at h
  by_cases e:i=k
  ·subst e
   rw[show Nat.beq i i=true by simp,cond_true] at h
   split at h
   ·rename_i d ds hd hds
    simp only[Option.some.injEq] at h
    subst h
    obtain⟨h1,h2⟩:=rowsOf_at hds
    refine⟨by simp[h1],fun j p r hp hr=>?_⟩
    cases j with
    |zero=>simp at hp hr;subst hp;subst hr;exact⟨rfl,hd⟩
    |succ j=>
     obtain⟨h3,h4⟩:=h2 j p r (by simpa using hp) (by simpa using hr)
     exact⟨by omega,h4⟩
   ·cases h
  ·rw[nbeq e] at h;cases h
theorem widths_at {z:Nat}: ∀ {rows:List (List D)},widths z rows=true→ ∀r∈rows,r.length=z∧onesD r=true
 |[],_,r,hr=>by cases hr
 |q::rs,h,r,hr=>by
  simp only[widths,Bool.and_eq_true] at h
  rcases List.mem_cons.1 hr with rfl|hr
  ·exact⟨Nat.eq_of_beq_eq_true h.1.1,h.1.2⟩
  ·exact widths_at h.2 r hr
theorem flat_at {α:Type}{z:Nat}: ∀(L:List (List α)),(∀r∈L,r.length=z)→ ∀(i j:Nat) (r:List α),L[i]? =some r→j<z→L.flatten[i*z+j]? =r[j]?
 |[],_,i,j,r,h,_=>by simp at h
 |q::L,hz,i,j,r,h,hj=>by
  have hq:q.length=z:=hz q (List.mem_cons_self ..)
  cases i with
  |zero=>
   simp at h;subst h
   simp only[Nat.zero_mul,Nat.zero_add,List.flatten_cons]
   rw[List.getElem?_append_left (by omega)]
  |succ i=>
   simp only[List.flatten_cons]
   rw[List.getElem?_append_right (by rw[hq,Nat.add_mul];omega)]
   have:(i+1)*z+j - q.length=i*z+j:=by rw[hq,Nat.add_mul];omega
   rw[this]
   exact flat_at L (fun r hr=>hz r (List.mem_cons_of_mem _ hr)) i j r (by simpa using h) hj
theorem flat_len {α:Type}{z:Nat}: ∀(L:List (List α)),(∀r∈L,r.length=z)→L.flatten.length=L.length*z
 |[],_=>by simp
 |q::L,hz=>by
  simp only[List.flatten_cons,List.length_append,List.length_cons,flat_len L (fun r hr=>hz r (List.mem_cons_of_mem _ hr)),hz q (List.mem_cons_self ..),Nat.add_mul]
  omega
theorem Inv.addGr (I:Inv w0 σ0 ob w g)(hm:σ0.m≤ob.length){w':World}(hb:Below w.heap.size w w')(z:Nat)(e:TypeId)(rows:List (List D))(V:Value)(xs:List Value)
 (hown:w'.ownsRow w.heap.size e z V rows.length xs) (hz: ∀r∈rows,r.length=z)
 (hr: ∀(i j:Nat) (r:List D) (x:D),rows[i]? =some r→r[j]? =some x→ ∃u,xs[i*z+j]? =some u∧RD g.σ x u) (h1: ∀u∈xs,u.oneCell'=true):
 ∃g',g.le g'∧Inv w0 σ0 (ob++[.gr z e rows 0 false]) w' g'∧RT g' (.og ob.length 0) V:=by
 have hown':w'.ownsRow 0 e z V rows.length xs:=by
  refine⟨hown.1,?_⟩
  rcases hown.2 with h|⟨b,cap,cur,hv,hbb,rest⟩
  ·exact .inl h
  ·exact .inr ⟨b,cap,cur,hv,Nat.zero_le _,rest⟩
 obtain⟨g',hle,hσ,hl1,hγ,I'⟩:=I.add hb (.gr z e rows 0 false) V hm (fun g' hle hσ hl1 hγ=>by
  refine⟨⟨hl1,xs,⟨by rw[hγ];exact hown',fun b hb=>?_⟩,hz,fun i j r x hri hx=>?_,h1,fun b hbk=>?_⟩,fun b hbk=>?_⟩
  ·rw[hγ] at hb
   exact .inl (Nat.le_trans I.below.size (hown.lt b hb).1)
  ·obtain⟨u,hu,hd⟩:=hr i j r x hri hx
   exact⟨u,hu,hσ▸hd⟩
  ·simp only[Bool.false_eq_true,if_false]
   rw[hγ] at hbk
   rw[hσ]
   exact fun o=>I.new_none (hown.lt b hbk).1 o
  ·simp only[Gh.at,hγ] at hbk
   exact(hown.lt b hbk).1)
 refine⟨g',hle,I',?_⟩
 have:=RT.og (g:=g') ob.length 0 (by omega)
 rwa [hγ] at this
end
section
variable {E:Env}{N:Nm}{Q:Exit→St→Prop}{S:St}{ops l:List Oper}{ty:TypeId}{pos:String}{after:Array Edge}{gd:Option (Nat×Bool)}{d:Nat}
theorem WL.buildSlice {t e:TypeId}{len:Nat}{parts:List (Nat×Operand)}{z:Nat}{rows:List (List D)}(hw:S.want ops ⟨some d,.buildSlice t len parts.toArray,ty,pos,after,gd⟩=some true)(hd:Nat.blt d N.n=true)
 (ht:(E.ty t).kind=.slice e) (he:(E.ty e).known=true) (hz:(E.ty e).size=z) (hz0:Nat.blt 0 z=true) (hlen:Nat.beq len parts.length=true) (hmax:Nat.ble (len*z) 16777216=true)
 (hrows:rowsOf S 0 parts=some rows) (hwd:widths z rows=true)
 (k:WL E.P N ops l Q ⟨(S.set d (.og S.ob.length 0)).tm,S.ob++[.gr z e rows 0 false]⟩):WL E.P N ops (⟨some d,.buildSlice t len parts.toArray,ty,pos,after,gd⟩::l) Q S:=
 WL.eff (by simp) hw hd (fun w0 σ0 a w g R=>by
  obtain⟨inf,zz,hinf,hsz,_,hzv,hzs,hzc⟩:=E.info he
  have hlen':=Nat.eq_of_beq_eq_true hlen
  have hmax':=Nat.le_of_ble_eq_true hmax
  have hz0':0<z:=by simpa using hz0
  obtain⟨hrl,hrp⟩:=rowsOf_at hrows
  have hwa:=widths_at hwd
  let vals:List (Nat×Value):=parts.map fun p=>(p.1,a.eval p.2)
  have hval: ∀(j:Nat) (p:Nat×Value),vals[j]? =some p→p.1=0+j∧p.2.cells.size=z:=fun j p hp=>by
   simp only[vals,List.getElem?_map,Option.map_eq_some_iff] at hp
   obtain⟨q,hq,rfl⟩:=hp
   have hj:j<rows.length:=by rw[hrl];exact(List.getElem?_eq_some_iff.1 hq).1
   obtain⟨h1,h2⟩:=hrp j q _ hq (List.getElem?_eq_getElem hj)
   obtain⟨h3,h4⟩:=hwa _ (List.getElem_mem hj)
   obtain⟨c1,_,_⟩:=R.inv.row h2 (R.ev q.2) h4
   exact⟨h1,by show(a.eval q.2).cells.size=z;rw[←Array.length_toList];omega⟩
  let L:List (List Value):=vals.map fun p=>p.2.cells.toList
  have hL: ∀r∈L,r.length=z:=fun r hr=>by
   obtain⟨j,hj⟩:=List.getElem?_of_mem hr
   simp only[L,List.getElem?_map,Option.map_eq_some_iff] at hj
   obtain⟨p,hp,rfl⟩:=hj
   simpa using(hval j p hp).2
  have hLl:L.length=rows.length:=by simp[L,vals,hrl]
  have hfl:(vals.flatMap fun p=>p.2.cells.toList)=L.flatten:=by simp[L,List.flatMap]
  have hlt:vals.length=len:=by simp[vals,hlen']
  let zc:Array Value:=if len*z=0 then #[] else zz.cells
  have hfill:=fill_rows (z:=z) (len:=len) vals 0 [] (((Array.range (len*z)).map fun i=>zc[i % zc.size]!).toList) (by simp) hval (by simp[hlt])
  simp only[List.nil_append,Array.toArray_toList] at hfill
  rw[hfl] at hfill
  have hrun:(Instr.buildSlice t len (parts.toArray.map fun(i,x)=>(i,a.eval x))).run E.P w=
   .ok (.slice (some ⟨w.heap.size,0,none⟩) len len) (w.alloc (.cells L.flatten.toArray e)):=by
   have e1:(parts.toArray.map fun(x:Nat×Operand)=>(x.1,a.eval x.2)).toList=vals:=by simp[vals]
   have hnot:¬len*z>2 ^ 24:=by omega
   unfold Instr.buildSlice
   simp only[Sem.run_bind,run_underlying (E.slice ht),Result.andThen_ok,sizeOf,typeInfo,run_program,hinf,Sem.run_pure,hsz,hz]
   rw[if_neg hnot]
   simp only[Sem.run_bind,Result.andThen_ok,Sem.run_pure,pure_bind]
   by_cases h0:len*z=0
   ·simp only[h0,if_true,Sem.run_pure,Result.andThen_ok]
    have hzc0:zc= #[]:=by simp[zc,h0]
    rw[hzc0,h0] at hfill
    rw[e1]
    simp only[hfill]
    simp[newRow]
   ·simp only[h0,if_false,zeroValue,typeInfo,Sem.run_bind,run_program,hinf,Result.andThen_ok,Sem.run_pure,hzv]
    have hzc0:zc=zz.cells:=by simp[zc,h0]
    rw[hzc0] at hfill
    rw[e1]
    simp only[hfill]
    simp[newRow]
  have hrowlen:rows.length=len:=by omega
  have hown:(w.alloc (.cells L.flatten.toArray e)).ownsRow w.heap.size e z (.slice (some ⟨w.heap.size,0,none⟩) len len) len L.flatten:=by simpa using World.ownsRow_lit (base:=w.heap.size) (e:=e) (size:=z) w L.flatten.toArray len (Nat.le_refl _) (by unfold maxLen;have:len≤len*z:=Nat.le_mul_of_pos_right _ hz0';omega) (by simp[←List.length_flatten,flat_len L hL,hLl,hrowlen])
  obtain⟨g',hle,I',ht'⟩:=R.inv.addGr (by rw[R.hm];exact R.hl) (below_alloc w _) z e rows (.slice (some ⟨w.heap.size,0,none⟩) len len) L.flatten (by rw[hrowlen];exact hown) (fun r hr=>(hwa r hr).1)
   (fun i j r x hr hx=>by
     have hi:i<parts.length:=by rw[←hrl];exact(List.getElem?_eq_some_iff.1 hr).1
     obtain⟨h1,h2⟩:=hrp i parts[i] r (List.getElem?_eq_getElem hi) hr
     obtain⟨h3,h4⟩:=hwa r (List.mem_of_getElem? hr)
     obtain⟨c1,c2,c3⟩:=R.inv.row h2 (R.ev parts[i].2) h4
     have hj:j<r.length:=(List.getElem?_eq_some_iff.1 hx).1
     have hLi:L[i]? =some (a.eval parts[i].2).cells.toList:=by simp[L,vals,hi]
     have hju:j<(a.eval parts[i].2).cells.toList.length:=by omega
     exact⟨_,by rw[flat_at L hL i j _ hLi (by omega)];exact List.getElem?_eq_getElem hju,c2 j x _ hx (List.getElem?_eq_getElem hju)⟩)
   (fun u hu=>by
     obtain⟨r,hr,hur⟩:=List.mem_flatten.1 hu
     obtain⟨i,hi⟩:=List.getElem?_of_mem hr
     simp only[L,vals,List.getElem?_map,Option.map_eq_some_iff] at hi
     obtain⟨p,⟨q,hq,rfl⟩,rfl⟩:=hi
     have hir:i<rows.length:=by rw[hrl];exact(List.getElem?_eq_some_iff.1 hq).1
     obtain⟨h1,h2⟩:=hrp i q _ hq (List.getElem?_eq_getElem hir)
     obtain⟨h3,h4⟩:=hwa _ (List.getElem_mem hir)
     exact(R.inv.row h2 (R.ev q.2) h4).2.2 u hur)
  exact⟨_,_,g',by simp only[execOp,Sem.run_bind,hrun,Result.andThen_ok,Sem.run_pure],hle,I',ht'⟩) k
end
section
variable {N:Nm}{S:St}{w0:World}{σ0:Bs}{ob:List Ob}{a:Act}{w:World}{g:Gh}
def nilT :T→Bool
 |.d (.v (.slice none 0 0))=>true
 |.d (.nl _)=>true
 |_=>false
theorem RT.nil {t:T}{u:Value}(h:nilT t=true)(hr:RT g t u):u=.slice none 0 0:=by
 unfold nilT at h
 split at h
 ·exact hr.inv_v
 ·exact hr.inv_d.inv_nl
 ·cases h
def srcRows (ob:List Ob):T→Option (Nat×List (List D))
 |.d (.sl z rows)=>some (z,rows)
 |.d (.nl z)=>some (z,[])
 |.og k n=>match ob[k]? with
  |some (.gr z _ rows m _)=>bif Nat.beq m n then some (z,rows) else none
  |_=>none
 |_=>none
theorem Inv.src (I:Inv w0 σ0 ob w g){t:T}{u:Value}{z:Nat}{rows:List (List D)}(h:srcRows ob t=some (z,rows))(hr:RT g t u)(hz0:0<z):
 ∃(A:Option Addr) (c:Nat) (news:List Value),u=.slice A rows.length c∧(A=none→rows=[]∧c=0)∧news.length=rows.length*z∧(∀ad,A=some ad→ ∀(j:Nat) (x:Value),news[j]? =some x→w.cell? (ad.add j)=some x)∧
  (∀x∈news,x.oneCell'=true)∧(∀r∈rows,r.length=z)∧ ∀(i j:Nat) (r:List D) (x:D),rows[i]? =some r→r[j]? =some x→ ∃y,news[i*z+j]? =some y∧RD g.σ x y:=by
 unfold srcRows at h
 split at h
 ·simp only[Option.some.injEq,Prod.mk.injEq] at h
  obtain⟨h1,h2⟩:=h
  have h1:=h1.symm
  have h2:=h2.symm
  subst h1 h2
  cases hr.inv_d with
  |nil _ A=>exact⟨A,0,[],rfl,fun _=>⟨rfl,rfl⟩,by simp,fun ad _ j x hx=>by simp at hx,fun x hx=>by(cases hx),fun r hr=>by(cases hr),fun i j r x hr=>by simp at hr⟩
  |sl z rows b off cap U hcap hm hzr hc hrr=>
   refine⟨some ⟨b,off,none⟩,cap,(List.range (rows.length*z)).map fun q=>U (q / z) (q % z),rfl,fun h=>(by cases h),by simp,fun ad had j x hx=>?_,fun x hx=>?_,hzr,fun i j r x hri hx=>?_⟩
   ·cases had
    simp only[List.getElem?_map,Option.map_eq_some_iff] at hx
    obtain⟨j',hj',rfl⟩:=hx
    obtain⟨hlt,rfl⟩:=List.getElem?_eq_some_iff.1 hj'
    simp only[List.length_range] at hlt
    rw[List.getElem_range,Addr.add_lit]
    have h1:j / z<rows.length:=Nat.div_lt_of_lt_mul (by rw[Nat.mul_comm];exact hlt)
    have h2:j % z<z:=Nat.mod_lt _ hz0
    have:=I.con _ _ _ (hc (j / z) (j % z) h1 h2).1
    rw[show off+j=off+j / z*z+j % z by rw[Nat.add_assoc,Nat.div_add_mod' j z]]
    exact this
   ·simp only[List.mem_map,List.mem_range] at hx
    obtain⟨j,hlt,rfl⟩:=hx
    have h1:j / z<rows.length:=Nat.div_lt_of_lt_mul (by rw[Nat.mul_comm];exact hlt)
    exact(hc (j / z) (j % z) h1 (Nat.mod_lt _ hz0)).2
   ·have hi:i<rows.length:=(List.getElem?_eq_some_iff.1 hri).1
    have hj:j<z:=by rw[←hzr r (List.mem_of_getElem? hri)];exact(List.getElem?_eq_some_iff.1 hx).1
    have hlt:i*z+j<rows.length*z:=by
     calc i*z+j<i*z+z:=by omega
      _=(i+1)*z:=by rw[Nat.add_mul];omega
      _≤rows.length*z:=Nat.mul_le_mul_right _ hi
    have e1:(i*z+j) / z=i:=by rw[Nat.add_comm,Nat.add_mul_div_right _ _ hz0,Nat.div_eq_of_lt hj,Nat.zero_add]
    have e2:(i*z+j) % z=j:=by rw[Nat.add_comm,Nat.add_mul_mod_self_right,Nat.mod_eq_of_lt hj]
    refine⟨U i j,?_,hrr i j r x hri hx⟩
    simp[hlt,e1,e2]
 ·simp only[Option.some.injEq,Prod.mk.injEq] at h
  obtain⟨rfl,rfl⟩:=h
  have:=hr.inv_d.inv_nl
  subst this
  exact⟨none,0,[],rfl,fun _=>⟨rfl,rfl⟩,by simp,fun ad h=>(by cases h),fun x hx=>by(cases hx),fun r hr=>by(cases hr),fun i j r x hr=>by simp at hr⟩
 ·rename_i k n
  split at h
  ·rename_i z' e rows' m pub hk
   by_cases hm:m=n
   ·subst hm
    rw[show Nat.beq m m=true by simp,cond_true] at h
    simp only[Option.some.injEq,Prod.mk.injEq] at h
    obtain⟨rfl,rfl⟩:=h
    obtain⟨_,hu⟩:=hr.inv_og
    obtain⟨_,xs,⟨hown,_⟩,hzr,hrr,h1,_⟩:=I.obs k _ hk
    rcases hown.2 with⟨hv,hn⟩|⟨b,cap,cur,hv,_⟩
    ·have hn':rows'=[]:=List.eq_nil_of_length_eq_zero hn
     subst hn'
     exact⟨none,0,[],by rw[hu,hv];rfl,fun _=>⟨rfl,rfl⟩,by simp,fun ad h=>(by cases h),fun x hx=>by(cases hx),fun r hr=>by(cases hr),fun i j r x hr=>by simp at hr⟩
    ·refine⟨some ⟨b,0,none⟩,cap,xs,by rw[hu,hv],fun h=>(by cases h),hown.1,fun ad had j x hx=>?_,h1,hzr,hrr⟩
     cases had
     exact hown.cells (by rw[hv];rfl) j x hx
   ·rw[nbeq hm] at h;cases h
  ·cases h
 ·cases h
theorem Inv.grow (I:Inv w0 σ0 ob w g){w':World}{k z n:Nat}{e:TypeId}{rows rows':List (List D)}{xs news:List Value}{V:Value}(hk:ob[k]? =some (.gr z e rows n false))
 (hxs:w.ownsRow 0 e z (g.γ k n) rows.length xs) (hxz: ∀r∈rows,r.length=z) (hxr: ∀(i j:Nat) (r:List D) (x:D),rows[i]? =some r→r[j]? =some x→ ∃u,xs[i*z+j]? =some u∧RD g.σ x u) (hx1: ∀u∈xs,u.oneCell'=true)
 (hz': ∀r∈rows',r.length=z) (hr': ∀(i j:Nat) (r:List D) (x:D),rows'[i]? =some r→r[j]? =some x→ ∃u,news[i*z+j]? =some u∧RD g.σ x u) (h1': ∀u∈news,u.oneCell'=true)
 (hown:w'.ownsRow 0 e z V (rows.length+rows'.length) (xs++news)) (hgrow:w.grownBy w' (g.γ k n).ownBlock) (hat:V.ownBlock=(g.γ k n).ownBlock∨V.ownBlock=some w.heap.size):
 ∃g',g.le g'∧Inv w0 σ0 (ob.set k (.gr z e (rows++rows') (n+1) false)) w' g'∧RT g' (.og k (n+1)) V:=by
 have hlt:k<ob.length:=(List.getElem?_eq_some_iff.1 hk).1
 obtain⟨hlim,_,⟨_,hmine⟩,_,_,_,hσk⟩:=I.obs k _ hk
 let g':Gh:={ σ:=g.σ,γ:=fun j m=>if j=k∧m=n+1 then V else g.γ j m,lim:=fun j=>if j=k then n+2 else g.lim j,foot:=g.foot }
 have hle:g.le g':=⟨fun _ _ _ h=>h,fun j m hm=>by
  by_cases hj:j=k
  ·subst hj
   have:¬m=n+1:=by omega
   simp[g',this];omega
  ·simp[g',hj,hm]⟩
 have hγ:g'.γ k (n+1)=V:=by simp[g']
 have hVb: ∀b,V.ownBlock=some b→(g.γ k n).ownBlock=some b∨b=w.heap.size:=fun b hb=>by
  rcases hat with h|h
  ·exact .inl (h▸hb)
  ·rw[h] at hb;cases hb;exact .inr rfl
 have hσV: ∀b,V.ownBlock=some b→ ∀o,g.σ b o=none:=fun b hb o=>by
  rcases hVb b hb with h|h
  ·have:=hσk b h;simp only[Bool.false_eq_true,if_false] at this;exact this o
  ·exact I.new_none (by omega) o
 refine⟨g',hle,I.turn hk (fun _ _ _ _ h=>by cases h) (by omega) hle rfl (fun j hj=>⟨by simp[g',hj],rfl⟩) hgrow.os hgrow.tape hgrow.output hgrow.size (fun b hb hn=>hgrow.block b hb (fun e=>hn e.symm)) ?_ ?_,?_⟩
 ·refine⟨by simp[g'],xs++news,⟨by rw[hγ,List.length_append];exact hown,fun b hb=>?_⟩,fun r hr=>?_,fun i j r x hr hx=>?_,fun u hu=>?_,fun b hb=>?_⟩
  ·rw[hγ] at hb
   rcases hVb b hb with h|h
   ·exact hmine b h
   ·exact .inl (by have:=I.below.size;omega)
  ·rcases List.mem_append.1 hr with h|h
   ·exact hxz r h
   ·exact hz' r h
  ·have hxl:xs.length=rows.length*z:=hxs.1
   by_cases hi:i<rows.length
   ·rw[List.getElem?_append_left hi] at hr
    obtain⟨u,hu,hd⟩:=hxr i j r x hr hx
    have hlt':i*z+j<xs.length:=(List.getElem?_eq_some_iff.1 hu).1
    exact⟨u,by rw[List.getElem?_append_left hlt'];exact hu,hd⟩
   ·rw[List.getElem?_append_right (by omega)] at hr
    obtain⟨u,hu,hd⟩:=hr' (i - rows.length) j r x hr hx
    have e2:i*z=rows.length*z+(i - rows.length)*z:=by rw[←Nat.add_mul];congr 1;omega
    exact⟨u,by rw[List.getElem?_append_right (by omega),show i*z+j - xs.length=(i - rows.length)*z+j by omega];exact hu,hd⟩
  ·rcases List.mem_append.1 hu with h|h
   ·exact hx1 u h
   ·exact h1' u h
  ·simp only[Bool.false_eq_true,if_false]
   rw[hγ] at hb
   exact hσV b hb
 ·intro b hb
  simp only[Gh.at,hγ] at hb
  rcases hVb b hb with h|h
  ·exact .inl h
  ·exact .inr (by omega)
 ·have:=RT.og (g:=g') k (n+1) (by simp[g'])
  rwa [hγ] at this
end
section
variable {E:Env}{N:Nm}{Q:Exit→St→Prop}{S:St}{ops l:List Oper}{ty:TypeId}{pos:String}{after:Array Edge}{gd:Option (Nat×Bool)}{d:Nat}
theorem run_append_slice {P:Program}{w:World}(base:Nat)(t ty e:TypeId)(i:TypeInfo)(zv:Value)(size bytes:Nat)(ht:P.underlying t=some (.slice e))(hi:P.info? e=some i)(hz:i.zero=some zv)
 (hsize:i.size=size) (hby:i.bytes=bytes) (hzs:zv.cells.size=size) (hsz:0<size) (v:Value) (n:Nat) (xs:List Value) (hown:w.ownsRow base e size v n xs)
 (A:Option Addr) (m c:Nat) (news:List Value) (hA:A=none→m=0∧c=0) (hl:news.length=m*size) (hnews: ∀ad,A=some ad→ ∀(j:Nat) (u:Value),news[j]? =some u→w.cell? (ad.add j)=some u) (h1: ∀u∈news,u.oneCell'=true)
 (h63:n+m≤maxLen) (hbytes:(n+m)*bytes≤140737488355328) (hbase:base≤w.heap.size):
 ∃v' w',(Builtin.append_ #[t,t] ty #[v,.slice A m c]).run P w=.ok v' w'∧w'.ownsRow base e size v' (n+m) (xs++news)∧w.grownBy w' v.ownBlock∧(v'.ownBlock=v.ownBlock∨v'.ownBlock=some w.heap.size):=by
 cases A with
 |none=>
  obtain⟨rfl,rfl⟩:=hA rfl
  have:news=[]:=List.eq_nil_of_length_eq_zero (by simpa using hl)
  subst this
  exact⟨v,w,run_append_owned_none w base t ty e i size ht hi v n xs hown,by simpa using hown,⟨rfl,rfl,rfl,Nat.le_refl _,fun _ _ _=>rfl⟩,.inl rfl⟩
 |some ad=>
  obtain⟨v',w',hr,h2,h3,_,h5⟩:=run_append_own_at (P:=P) w base t ty e i zv size bytes ht hi hz hsize hby hzs hsz v n xs hown ad m c news hl (hnews ad rfl) h1 h63 hbytes hbase
  exact⟨v',w',hr,h2,h3,h5⟩
theorem room_of {n m bytes:Nat}(hb:1≤bytes)(h:(n+m)*bytes≤140737488355328):n+m≤maxLen:=by
 have:n+m≤(n+m)*bytes:=Nat.le_mul_of_pos_right _ hb
 unfold maxLen;omega
theorem WL.append {t e e':TypeId}{s x:Operand}{z j n:Nat}{rows rows':List (List D)}(hw:S.want ops ⟨some d,.call ⟨.builtin .append,#[s,x],#[t,t]⟩,ty,pos,after,gd⟩=some true)(hd:Nat.blt d N.n=true)
 (ht:(E.ty t).kind=.slice e) (he:(E.ty e).known=true) (hz:(E.ty e).size=z) (hz0:Nat.blt 0 z=true) (hby:Nat.ble 1 (E.ty e).bytes=true) (hs:S.ev s=.og j n) (hj:S.ob[j]? =some (.gr z e' rows n false)) (hee:Nat.beq e e'=true)
 (hx:srcRows S.ob (S.ev x)=some (z,rows')) (hroom:(rows.length+rows'.length)*(E.ty e).bytes≤140737488355328)
 (k:WL E.P N ops l Q ⟨(S.set d (.og j (n+1))).tm,S.ob.set j (.gr z e' (rows++rows') (n+1) false)⟩):WL E.P N ops (⟨some d,.call ⟨.builtin .append,#[s,x],#[t,t]⟩,ty,pos,after,gd⟩::l) Q S:=
 WL.eff (by simp) hw hd (fun w0 σ0 a w g R=>by
  have hee':e=e':=Nat.eq_of_beq_eq_true hee
  subst hee'
  obtain⟨inf,zz,hinf,hsz,hbs,hzv,hzs,hzc⟩:=E.info he
  have hz0':0<z:=by simpa using hz0
  have hsr:=R.ev s
  rw[hs] at hsr
  obtain⟨_,hsv⟩:=hsr.inv_og
  obtain⟨hlim,xs,⟨hxs,_⟩,hxz,hxr,hx1,_⟩:=R.inv.obs j _ hj
  obtain⟨A,c,news,hxv,hA,hnl,hcell,hn1,hnz,hnr⟩:=R.inv.src hx (R.ev x) hz0'
  obtain⟨v',w',hrun,hown,hgrow,hat⟩:=run_append_slice (P:=E.P) (w:=w) 0 t ty e inf zz z (E.ty e).bytes (E.slice ht) hinf hzv (hsz.trans hz) hbs (hzc.trans hz) hz0' (g.γ j n) rows.length xs hxs
   A rows'.length c news (fun h=>by obtain⟨h1,h2⟩:=hA h;simp[h1,h2]) hnl hcell hn1 (room_of (Nat.le_of_ble_eq_true hby) hroom) hroom (Nat.zero_le _)
  obtain⟨g',hle,I',ht'⟩:=R.inv.grow hj hxs hxz hxr hx1 hnz hnr hn1 hown hgrow hat
  exact⟨v',w',g',by simp[execOp,resolve,invoke,builtin,hsv,hxv,hrun],hle,I',ht'⟩) k
end
structure Rn where
 idx:List Nat
 off:List Nat
 K:Nat
def Rn.ix (r:Rn)(i:Nat):Nat:=match r.idx[i]? with|some j=>j|none=>i - r.idx.length+r.K
def Rn.of (r:Rn)(i:Nat):Nat:=match r.idx[i]? with|some _=>r.off.getD i 0|none=>0
mutual
def T.ren (r:Rn):T→T
 |.d x=>.d x
 |.agg cs=>.agg (T.renL r cs)
 |.tup cs=>.tup (T.renL r cs)
 |.lp l off=>bif Nat.beq (r.of l) 0 then .lp (r.ix l) off else .any
 |.og k n=>.og (r.ix k) (r.of k+n)
 |.ea x off=>.ea x off
 |.eg k n z i off=>.eg (r.ix k) (r.of k+n) z i off
 |.clo f cs=>.clo f (T.renL r cs)
 |.ps l n=>bif Nat.beq (r.of l) 0 then .ps (r.ix l) n else .any
 |.os k n i=>.os (r.ix k) (r.of k+n) i
 |.ifc ty t=>.ifc ty (T.ren r t)
 |.any=>.any
def T.renL (r:Rn):List T→List T
 |[]=>[]
 |t::s=>T.ren r t::T.renL r s
end
mutual
def T.lpOK (r:Rn):T→Bool
 |.agg cs=>T.lpOKL r cs
 |.tup cs=>T.lpOKL r cs
 |.lp l _=>Nat.beq (r.of l) 0
 |.clo _ cs=>T.lpOKL r cs
 |.ps l _=>Nat.beq (r.of l) 0
 |.ifc _ t=>T.lpOK r t
 |_=>true
def T.lpOKL (r:Rn):List T→Bool
 |[]=>true
 |t::s=>T.lpOK r t&&T.lpOKL r s
end
theorem T.renL_map (r:Rn): ∀cs,T.renL r cs=cs.map (T.ren r)
 |[]=>by simp[T.renL]
 |t::s=>by simp[T.renL,T.renL_map r s]
theorem T.lpOKL_at {r:Rn}: ∀ {cs:List T},T.lpOKL r cs=true→ ∀(i:Nat) (x:T),cs[i]? =some x→x.lpOK r=true
 |[],_,i,x,hx=>by simp at hx
 |t::s,h,i,x,hx=>by
  simp only[T.lpOKL,Bool.and_eq_true] at h
  cases i with
  |zero=>simp at hx;subst hx;exact h.1
  |succ i=>exact T.lpOKL_at h.2 i x (by simpa using hx)
def Ob.ren (r:Rn)(i:Nat):Ob→Ob
 |.pv cs=>bif Nat.beq (r.of i) 0 then .pv (T.renL r cs) else .dead
 |.gr z e rows n pub=>.gr z e rows (r.of i+n) pub
 |.x X n=>.x X (r.of i+n)
 |.dead=>.dead
 |.new=>.dead
def Ob.renOK (r:Rn)(i:Nat):Ob→Bool
 |.pv cs=>Nat.beq (r.of i) 0&&T.lpOKL r cs
 |.gr _ _ _ _ _=>true
 |.x _ _=>true
 |.dead=>false
 |.new=>false
theorem RT.push {g g':Gh}{r:Rn}(hσ: ∀b o u,g.σ b o=some u→g'.σ b o=some u)(hγ: ∀k n,n<g.lim k→r.of k+n<g'.lim (r.ix k)∧g'.γ (r.ix k) (r.of k+n)=g.γ k n){t:T}{v:Value}(h:RT g t v):
 RT g' (t.ren r) v:=by
 induction h with
 |d x u h=>simp only[T.ren];exact .d x u (h.mono hσ)
 |agg cs vs hlen h ih=>
  simp only[T.ren,T.renL_map]
  refine .agg _ vs (by simpa using hlen) fun i x u hx hu=>?_
  simp only[List.getElem?_map,Option.map_eq_some_iff] at hx
  obtain⟨y,hy,rfl⟩:=hx
  exact ih i y u hy hu
 |tup cs vs hlen h ih=>
  simp only[T.ren,T.renL_map]
  refine .tup _ vs (by simpa using hlen) fun i x u hx hu=>?_
  simp only[List.getElem?_map,Option.map_eq_some_iff] at hx
  obtain⟨y,hy,rfl⟩:=hx
  exact ih i y u hy hu
 |lp l off b h0 h=>
  simp only[T.ren]
  by_cases e:r.of l=0
  ·obtain⟨h1,h2⟩:=hγ l 0 h0
   rw[e] at h1 h2 ⊢
   exact .lp _ off b (by simpa using h1) (by simpa using h2.trans h)
  ·rw[nbeq e];exact .any _
 |og k n h=>
  simp only[T.ren]
  obtain⟨h1,h2⟩:=hγ k n h
  have:=RT.og (g:=g') _ _ h1
  rwa [h2] at this
 |ea x off b o U hc hr=>simp only[T.ren];exact .ea x off b o U (fun j hj=>⟨hσ _ _ _ (hc j hj).1,(hc j hj).2⟩) fun j x hx=>(hr j x hx).mono hσ
 |eg k n z i off b len cap h hg=>
  simp only[T.ren]
  obtain⟨h1,h2⟩:=hγ k n h
  exact .eg _ _ z i off b len cap h1 (h2.trans hg)
 |clo f cs vs hlen h ih=>
  simp only[T.ren,T.renL_map]
  refine .clo f _ vs (by simpa using hlen) fun i x u hx hu=>?_
  simp only[List.getElem?_map,Option.map_eq_some_iff] at hx
  obtain⟨y,hy,rfl⟩:=hx
  exact ih i y u hy hu
 |ps l n b h0 h=>
  simp only[T.ren]
  by_cases e:r.of l=0
  ·obtain⟨h1,h2⟩:=hγ l 0 h0
   rw[e] at h1 h2 ⊢
   exact .ps _ n b (by simpa using h1) (by simpa using h2.trans h)
  ·rw[nbeq e];exact .any _
 |os k n i b len cap h hg hi=>
  simp only[T.ren]
  obtain⟨h1,h2⟩:=hγ k n h
  exact .os _ _ i b len cap h1 (h2.trans hg) hi
 |ifc ty t u h ih=>simp only[T.ren];exact .ifc ty _ u ih
 |any u=>simp only[T.ren];exact .any u
def Gh.pull (g:Gh)(r:Rn):Gh:={ σ:=g.σ,γ:=fun k n=>g.γ (r.ix k) (r.of k+n),lim:=fun k=>if k<r.idx.length then g.lim (r.ix k) - r.of k else 0,foot:=fun k=>g.foot (r.ix k) }
theorem Gh.pull_lim {g:Gh}{r:Rn}(hK: ∀k,r.K≤k→g.lim k=0){k n:Nat}(h:r.of k+n<g.lim (r.ix k)):n<(g.pull r).lim k:=by
 simp only[Gh.pull]
 by_cases hk:k<r.idx.length
 ·rw[if_pos hk];omega
 ·have:r.ix k=k - r.idx.length+r.K:=by simp[Rn.ix,List.getElem?_eq_none (Nat.le_of_not_lt hk)]
  rw[this,hK _ (by omega)] at h
  omega
mutual
theorem RT.pull {g:Gh}{r:Rn}(hK: ∀k,r.K≤k→g.lim k=0): ∀(t:T) (v:Value),t.lpOK r=true→RT g (t.ren r) v→RT (g.pull r) t v
 |.d x,v,_,h=>by
  rw[show T.ren r (.d x)=.d x by simp[T.ren]] at h
  exact .d x v h.inv_d
 |.agg cs,v,ho,h=>by
  rw[show T.ren r (.agg cs)=.agg (T.renL r cs) by simp[T.ren]] at h
  obtain⟨vs,rfl,hl,hr⟩:=h.inv_agg
  obtain⟨h1,h2⟩:=RT.pullL hK cs vs (by simpa [T.lpOK] using ho) hl hr
  exact .agg cs vs h1 h2
 |.tup cs,v,ho,h=>by
  rw[show T.ren r (.tup cs)=.tup (T.renL r cs) by simp[T.ren]] at h
  obtain⟨vs,rfl,hl,hr⟩:=h.inv_tup
  obtain⟨h1,h2⟩:=RT.pullL hK cs vs (by simpa [T.lpOK] using ho) hl hr
  exact .tup cs vs h1 h2
 |.clo f cs,v,ho,h=>by
  rw[show T.ren r (.clo f cs)=.clo f (T.renL r cs) by simp[T.ren]] at h
  obtain⟨vs,rfl,hl,hr⟩:=h.inv_clo
  obtain⟨h1,h2⟩:=RT.pullL hK cs vs (by simpa [T.lpOK] using ho) hl hr
  exact .clo f cs vs h1 h2
 |.og k n,v,_,h=>by
  rw[show T.ren r (.og k n)=.og (r.ix k) (r.of k+n) by simp[T.ren]] at h
  obtain⟨h1,hv⟩:=h.inv_og
  rw[hv]
  exact RT.og (g:=g.pull r) k n (Gh.pull_lim hK h1)
 |.lp l off,v,ho,h=>by
  have e:r.of l=0:=Nat.eq_of_beq_eq_true (by simpa [T.lpOK] using ho)
  rw[show T.ren r (.lp l off)=.lp (r.ix l) off by simp[T.ren,e]] at h
  obtain⟨b,h0,hγ,rfl⟩:=h.inv_lp
  exact .lp l off b (Gh.pull_lim hK (by rw[e];simpa using h0)) (by simp only[Gh.pull,e];simpa using hγ)
 |.ea x off,v,_,h=>by
  rw[show T.ren r (.ea x off)=.ea x off by simp[T.ren]] at h
  obtain⟨b,o,U,rfl,h1,h2⟩:=h.inv_ea
  exact .ea x off b o U h1 h2
 |.eg k n z i off,v,_,h=>by
  rw[show T.ren r (.eg k n z i off)=.eg (r.ix k) (r.of k+n) z i off by simp[T.ren]] at h
  obtain⟨b,len,cap,h1,h2,rfl⟩:=h.inv_eg
  exact .eg k n z i off b len cap (Gh.pull_lim hK h1) h2
 |.ps l n,v,ho,h=>by
  have e:r.of l=0:=Nat.eq_of_beq_eq_true (by simpa [T.lpOK] using ho)
  rw[show T.ren r (.ps l n)=.ps (r.ix l) n by simp[T.ren,e]] at h
  obtain⟨b,h0,hγ,rfl⟩:=h.inv_ps
  exact .ps l n b (Gh.pull_lim hK (by rw[e];simpa using h0)) (by simp only[Gh.pull,e];simpa using hγ)
 |.os k n i,v,_,h=>by
  rw[show T.ren r (.os k n i)=.os (r.ix k) (r.of k+n) i by simp[T.ren]] at h
  obtain⟨b,len,cap,h1,h2,h3,rfl⟩:=h.inv_os
  exact .os k n i b len cap (Gh.pull_lim hK h1) h2 h3
 |.ifc ty t,v,ho,h=>by
  rw[show T.ren r (.ifc ty t)=.ifc ty (T.ren r t) by simp[T.ren]] at h
  obtain⟨u,rfl,h1⟩:=h.inv_ifc
  exact .ifc ty t u (RT.pull hK t u (by simpa [T.lpOK] using ho) h1)
 |.any,v,_,_=>.any v
theorem RT.pullL {g:Gh}{r:Rn}(hK: ∀k,r.K≤k→g.lim k=0): ∀(cs:List T) (vs:List Value),T.lpOKL r cs=true→(T.renL r cs).length=vs.length→
 (∀(i:Nat) (x:T) (u:Value),(T.renL r cs)[i]? =some x→vs[i]? =some u→RT g x u)→
 cs.length=vs.length∧ ∀(i:Nat) (x:T) (u:Value),cs[i]? =some x→vs[i]? =some u→RT (g.pull r) x u
 |[],vs,_,hl,_=>by
  rw[show T.renL r []=[] by simp[T.renL]] at hl
  exact⟨hl,fun i x u hx=>by simp at hx⟩
 |t::s,vs,ho,hl,hr=>by
  rw[show T.renL r (t::s)=T.ren r t::T.renL r s by simp[T.renL]] at hl hr
  simp only[T.lpOKL,Bool.and_eq_true] at ho
  cases vs with
  |nil=>simp at hl
  |cons v vs=>
   obtain⟨h1,h2⟩:=RT.pullL hK s vs ho.2 (by simpa using hl) (fun i x u hx hu=>hr (i+1) x u (by simpa using hx) (by simpa using hu))
   refine⟨by simp[h1],fun i x u hx hu=>?_⟩
   cases i with
   |zero=>simp at hx hu;subst hx;subst hu;exact RT.pull hK t v ho.1 (hr 0 _ v rfl rfl)
   |succ i=>exact h2 i x u (by simpa using hx) (by simpa using hu)
end
theorem ObOK.pull {mine:Nat→Prop}{g:Gh}{w:World}{r:Rn}(hK: ∀k,r.K≤k→g.lim k=0){k:Nat}(hk:k<r.idx.length){o:Ob}(ho:o.renOK r k=true)(h:ObOK mine g w (r.ix k) (o.ren r k)):
 ObOK mine (g.pull r) w k o∧ ∀b,(g.pull r).at k o b↔g.at (r.ix k) (o.ren r k) b:=by
 have hl:(g.pull r).lim k=g.lim (r.ix k) - r.of k:=by simp[Gh.pull,hk]
 cases o with
 |pv cs=>
  simp only[Ob.renOK,Bool.and_eq_true] at ho
  have e:r.of k=0:=Nat.eq_of_beq_eq_true ho.1
  simp only[Ob.ren,e] at h ⊢
  obtain⟨h1,b,vs,e',h2,h3,h4,h5,h6,h7,h8⟩:=h
  obtain⟨p1,p2⟩:=RT.pullL hK cs vs ho.2 h5 h6
  refine⟨⟨by rw[hl,h1,e],b,vs,e',by simp only[Gh.pull,e];simpa using h2,h3,h4,p1,p2,h7,h8⟩,fun b'=>?_⟩
  simp[Gh.at,Gh.pull,e]
 |gr z e rows n pub=>
  simp only[Ob.ren] at h ⊢
  obtain⟨h1,h2⟩:=h
  exact⟨⟨by rw[hl,h1];omega,h2⟩,fun b'=>Iff.rfl⟩
 |x X n=>
  simp only[Ob.ren] at h ⊢
  obtain⟨h1,h2⟩:=h
  exact⟨⟨by rw[hl,h1];omega,h2⟩,fun b'=>Iff.rfl⟩
 |dead=>simp[Ob.renOK] at ho
 |new=>simp[Ob.renOK] at ho
theorem ObOK.push {mine:Nat→Prop}{g g':Gh}{w:World}{r:Rn}(hσ: ∀b o,g'.σ b o=g.σ b o)(hγ: ∀k n,n<g.lim k→r.of k+n<g'.lim (r.ix k)∧g'.γ (r.ix k) (r.of k+n)=g.γ k n){k:Nat}(hf:g'.foot (r.ix k)=g.foot k)
 (hl:0<g.lim k→g'.lim (r.ix k)=r.of k+g.lim k) {o:Ob} (h:ObOK mine g w k o):
 ObOK mine g' w (r.ix k) (o.ren r k)∧ ∀b,g'.at (r.ix k) (o.ren r k) b→g.at k o b:=by
 have hσ': ∀b o u,g.σ b o=some u→g'.σ b o=some u:=fun b o u h=>(hσ b o).trans h
 cases o with
 |pv cs=>
  obtain⟨h1,b,vs,e',h2,h3,h4,h5,h6,h7,h8⟩:=h
  simp only[Ob.ren]
  by_cases e:r.of k=0
  ·have hg:=(hγ k 0 (by omega)).2
   rw[e] at hg ⊢
   simp only[Nat.add_zero] at hg
   refine⟨⟨by rw[hl (by omega),e,h1],b,vs,e',hg.trans h2,h3,h4,by rw[T.renL_map];simpa using h5,fun i x u hx hu=>?_,h7,fun o=>(hσ b o).trans (h8 o)⟩,fun b' hb'=>by simpa [Gh.at,hg] using hb'⟩
   rw[T.renL_map] at hx
   simp only[List.getElem?_map,Option.map_eq_some_iff] at hx
   obtain⟨y,hy,rfl⟩:=hx
   exact(h6 i y u hy hu).push hσ' hγ
  ·rw[nbeq e]
   exact⟨trivial,fun b' hb'=>hb'.elim⟩
 |gr z e rows n pub=>
  obtain⟨h1,xs,h2,h3,h4,h5,h6⟩:=h
  have hg:=(hγ k n (by omega)).2
  simp only[Ob.ren]
  refine⟨⟨by rw[hl (by omega),h1];omega,xs,by rw[hg];exact h2,h3,fun i j r x hr hx=>let ⟨u,hu,hd⟩:=h4 i j r x hr hx;⟨u,hu,hd.mono hσ'⟩,h5,fun b hb=>?_⟩,fun b' hb'=>by simpa [Gh.at,hg] using hb'⟩
  rw[hg] at hb
  have:=h6 b hb
  cases pub with
  |true=>simp only[if_true] at this ⊢;exact fun o=>(hσ b o).trans (this o)
  |false=>simp only[Bool.false_eq_true,if_false] at this ⊢;exact fun o=>(hσ b o).trans (this o)
 |x X n=>
  obtain⟨h1,h2,h3⟩:=h
  have hg:=(hγ k n (by omega)).2
  simp only[Ob.ren]
  refine⟨⟨by rw[hl (by omega),h1];omega,?_,fun b hb=>?_⟩,fun b' hb'=>by simpa [Gh.at,hf] using hb'⟩
  ·rw[hg,hf]
   exact X.mono hσ' (fun _ _=>rfl) h2
  ·rw[hf] at hb
   obtain⟨p1,p2,p3⟩:=h3 b hb
   exact⟨p1,p2,fun o=>(hσ b o).trans (p3 o)⟩
 |dead=>exact⟨trivial,fun b' hb'=>hb'.elim⟩
 |new=>exact⟨trivial,fun b' hb'=>hb'.elim⟩
theorem ObOK.mine {mine mine':Nat→Prop}{g:Gh}{w:World}{k:Nat}{o:Ob}(h:ObOK mine g w k o)(hm: ∀b,g.at k o b→mine b→mine' b):ObOK mine' g w k o:=by
 cases o with
 |pv cs=>
  obtain⟨h1,b,vs,e',h2,h3,rest⟩:=h
  exact⟨h1,b,vs,e',h2,hm b h2 h3,rest⟩
 |gr z e rows n pub=>
  obtain⟨h1,xs,⟨h2,h2m⟩,rest⟩:=h
  exact⟨h1,xs,⟨h2,fun b hb=>hm b hb (h2m b hb)⟩,rest⟩
 |x X n=>
  obtain⟨h1,h2,h3⟩:=h
  exact⟨h1,h2,fun b hb=>⟨hm b hb (h3 b hb).1,(h3 b hb).2⟩⟩
 |dead=>trivial
 |new=>exact h
theorem ObOK.sig {mine:Nat→Prop}{g:Gh}{w:World}{k:Nat}{o:Ob}(h:ObOK mine g w k o)(σ':Sto)(hσ: ∀b o u,g.σ b o=some u→σ' b o=some u)(ha: ∀b,g.at k o b→ ∀x,σ' b x=g.σ b x):ObOK mine { g with σ:=σ' } w k o:=by
 have hle:g.le { g with σ:=σ' }:=⟨hσ,fun _ _ h=>⟨h,rfl⟩⟩
 exact h.mono hle rfl rfl (fun b hb=>⟨rfl,ha b hb⟩) (Nat.le_refl _)
mutual
def D.flat :D→Bool
 |.v _=>true
 |.nl _=>true
 |.sl _ []=>true
 |.sl _ (_::_)=>false
 |.agg cs=>D.flatL cs
def D.flatL :List D→Bool
 |[]=>true
 |d::r=>D.flat d&&D.flatL r
end
mutual
theorem RD.flat {σ σ':Sto}: ∀(d:D) (u:Value),d.flat=true→RD σ d u→RD σ' d u
 |.v x,u,_,h=>by cases h;exact RD.v _
 |.nl z,u,_,h=>by cases h;exact RD.nl _
 |.sl z [],u,_,h=>by
  cases h with
  |nil z A=>exact .nil z A
  |sl z rows b off cap U hcap hm hz hc hr=>exact .sl z [] b off cap U hcap hm hz (fun i j hi=>by simp at hi) (fun i j r x hr=>by simp at hr)
 |.sl _ (_::_),u,hf,_=>by simp[D.flat] at hf
 |.agg cs,u,hf,h=>by
  obtain⟨vs,rfl,hl,hr⟩:=h.inv_agg
  exact .agg cs vs hl (RD.flatL cs vs (by simpa [D.flat] using hf) hr)
theorem RD.flatL {σ σ':Sto}: ∀(cs:List D) (vs:List Value),D.flatL cs=true→(∀(i:Nat) (x:D) (u:Value),cs[i]? =some x→vs[i]? =some u→RD σ x u)→ ∀(i:Nat) (x:D) (u:Value),cs[i]? =some x→vs[i]? =some u→RD σ' x u
 |[],vs,_,_,i,x,u,hx,_=>by simp at hx
 |d::r,[],_,_,i,x,u,_,hu=>by simp at hu
 |d::r,y::vs,hf,hr,i,x,u,hx,hu=>by
  simp only[D.flatL,Bool.and_eq_true] at hf
  cases i with
  |zero=>simp at hx hu;subst hx;subst hu;exact RD.flat d y hf.1 (hr 0 d y rfl rfl)
  |succ i=>exact RD.flatL r vs hf.2 (fun i x u hx hu=>hr (i+1) x u (by simpa using hx) (by simpa using hu)) i x u (by simpa using hx) (by simpa using hu)
end
mutual
def T.flat :T→Bool
 |.d x=>x.flat
 |.agg cs=>T.flatL cs
 |.tup cs=>T.flatL cs
 |.clo _ cs=>T.flatL cs
 |.ifc _ t=>T.flat t
 |.ea _ _=>false
 |_=>true
def T.flatL :List T→Bool
 |[]=>true
 |t::r=>T.flat t&&T.flatL r
end
theorem T.flatL_at : ∀ {cs:List T},T.flatL cs=true→ ∀(i:Nat) (x:T),cs[i]? =some x→x.flat=true
 |[],_,i,x,hx=>by simp at hx
 |t::r,h,i,x,hx=>by
  simp only[T.flatL,Bool.and_eq_true] at h
  cases i with
  |zero=>simp at hx;subst hx;exact h.1
  |succ i=>exact T.flatL_at h.2 i x (by simpa using hx)
theorem RT.flat {g:Gh}{t:T}{u:Value}(h:RT g t u)(hf:t.flat=true)(σ':Sto):RT { g with σ:=σ' } t u:=by
 induction h with
 |d x u h=>exact .d x u (RD.flat x u (by simpa [T.flat] using hf) h)
 |agg cs vs hl h ih=>exact .agg cs vs hl fun i x u hx hu=>ih i x u hx hu (T.flatL_at (by simpa [T.flat] using hf) i x hx)
 |tup cs vs hl h ih=>exact .tup cs vs hl fun i x u hx hu=>ih i x u hx hu (T.flatL_at (by simpa [T.flat] using hf) i x hx)
 |lp l off b h0 h=>exact .lp l off b h0 h
 |og k n h=>exact .og (g:={ g with σ:=σ' }) k n h
 |ea r off b o U hc hr=>simp[T.flat] at hf
 |eg k n z i off b len cap h hg=>exact .eg k n z i off b len cap h hg
 |clo f cs vs hl h ih=>exact .clo f cs vs hl fun i x u hx hu=>ih i x u hx hu (T.flatL_at (by simpa [T.flat] using hf) i x hx)
 |ps l n b h0 h=>exact .ps l n b h0 h
 |os k n i b len cap h hg hi=>exact .os k n i b len cap h hg hi
 |ifc ty t u h ih=>exact .ifc ty t u (ih (by simpa [T.flat] using hf))
 |any u=>exact .any u
def Ob.flat :Ob→Prop
 |.pv cs=>T.flatL cs=true
 |.gr _ _ rows _ _=> ∀r∈rows,D.flatL r=true
 |.x X _=> ∀(σ σ':Sto) h F v,X.ok σ h F v→X.ok σ' h F v
 |.dead=>True
 |.new=>True
theorem ObOK.flat {mine:Nat→Prop}{g:Gh}{w:World}{k:Nat}{o:Ob}(h:ObOK mine g w k o)(hf:o.flat)(σ':Sto)(ha: ∀b,g.at k o b→ ∀x,σ' b x=g.σ b x):ObOK mine { g with σ:=σ' } w k o:=by
 cases o with
 |pv cs=>
  obtain⟨h1,b,vs,e',h2,h3,h4,h5,h6,h7,h8⟩:=h
  exact⟨h1,b,vs,e',h2,h3,h4,h5,fun i x u hx hu=>(h6 i x u hx hu).flat (T.flatL_at hf i x hx) σ',h7,fun o=>(ha b h2 o).trans (h8 o)⟩
 |gr z e rows n pub=>
  obtain⟨h1,xs,h2,h3,h4,h5,h6⟩:=h
  refine⟨h1,xs,h2,h3,fun i j r x hr hx=>?_,h5,fun b hb=>?_⟩
  ·obtain⟨u,hu,hd⟩:=h4 i j r x hr hx
   refine⟨u,hu,RD.flat x u ?_ hd⟩
   have:=hf r (List.mem_of_getElem? hr)
   have key: ∀(l:List D),D.flatL l=true→ ∀(j:Nat) (x:D),l[j]? =some x→x.flat=true:=by
    intro l
    induction l with
    |nil=>intro _ j x hx;simp at hx
    |cons d l ih=>
     intro h j x hx
     simp only[D.flatL,Bool.and_eq_true] at h
     cases j with
     |zero=>simp at hx;subst hx;exact h.1
     |succ j=>exact ih h.2 j x (by simpa using hx)
   exact key r this j x hx
  ·have:=h6 b hb
   cases pub with
   |true=>simp only[if_true] at this ⊢;exact fun o=>(ha b hb o).trans (this o)
   |false=>simp only[Bool.false_eq_true,if_false] at this ⊢;exact fun o=>(ha b hb o).trans (this o)
 |x X n=>
  obtain⟨h1,h2,h3⟩:=h
  exact⟨h1,hf _ _ _ _ _ h2,fun b hb=>⟨(h3 b hb).1,(h3 b hb).2.1,fun o=>(ha b hb o).trans ((h3 b hb).2.2 o)⟩⟩
 |dead=>trivial
 |new=>exact h
def renFrom (r:Rn):Nat→List Ob→List Ob
 |_,[]=>[]
 |i,o::l=>o.ren r i::renFrom r (i+1) l
def mergeO (r:Rn):Nat→List Ob→List Nat→List Ob→List Ob
 |i,obC,[],rest=>obC++renFrom r i rest
 |i,obC,j::js,[]=>mergeO r (i+1) (obC.set j .dead) js []
 |i,obC,j::js,o::rest=>mergeO r (i+1) (obC.set j (o.ren r i)) js rest
theorem renFrom_at (r:Rn): ∀(l:List Ob) (i k:Nat),(renFrom r i l)[k]? =(l[k]?).map (Ob.ren r (i+k))
 |[],i,k=>by simp[renFrom]
 |o::l,i,0=>by simp[renFrom]
 |o::l,i,k+1=>by
  simp only[renFrom,List.getElem?_cons_succ]
  rw[renFrom_at r l (i+1) k,show i+1+k=i+(k+1) by omega]
theorem mergeO_at (r:Rn): ∀(js:List Nat) (i:Nat) (obC rest:List Ob),js.length≤rest.length→js.Nodup→(∀j∈js,j<obC.length)→
 (∀(p j:Nat),js[p]? =some j→(mergeO r i obC js rest)[j]? =(rest[p]?).map (Ob.ren r (i+p)))∧
 (∀k,k<obC.length→k∉js→(mergeO r i obC js rest)[k]? =obC[k]?)∧
 (∀k,obC.length≤k→(mergeO r i obC js rest)[k]? =(rest[k - obC.length+js.length]?).map (Ob.ren r (i+(k - obC.length+js.length))))
 |[],i,obC,rest,_,_,_=>by
  refine⟨fun p j h=>by simp at h,fun k hk _=>by simp only[mergeO];rw[List.getElem?_append_left hk],fun k hk=>?_⟩
  simp only[mergeO]
  rw[List.getElem?_append_right hk,renFrom_at]
  simp
 |j::js,i,obC,[],h,_,_=>by simp at h
 |j::js,i,obC,o::rest,h,hnd,hlt=>by
  simp only[mergeO]
  have hnd':=List.nodup_cons.1 hnd
  obtain⟨h1,h2,h3⟩:=mergeO_at r js (i+1) (obC.set j (o.ren r i)) rest (by simpa using h) hnd'.2 (fun k hk=>by simpa using hlt k (List.mem_cons_of_mem _ hk))
  simp only[List.length_set] at h2 h3
  have hj:=hlt j (List.mem_cons_self ..)
  refine⟨fun p k hp=>?_,fun k hk hn=>?_,fun k hk=>?_⟩
  ·cases p with
   |zero=>
    simp at hp
    subst hp
    rw[h2 _ hj hnd'.1,List.getElem?_set_self hj]
    simp
   |succ p=>
    have:=h1 p k (by simpa using hp)
    rw[this,show i+1+p=i+(p+1) by omega]
    simp
  ·rw[List.mem_cons,not_or] at hn
   rw[h2 k hk hn.2,List.getElem?_set_ne (fun e=>hn.1 e.symm)]
  ·rw[h3 k hk]
   simp only[List.length_cons]
   rw[show k - obC.length+(js.length+1)=k - obC.length+js.length+1 by omega,List.getElem?_cons_succ,show i+1+(k - obC.length+js.length)=i+(k - obC.length+js.length+1) by omega]
def Ob.start (r:Rn)(i:Nat)(o:Ob):Bool:=o.renOK r i&&(match o with|.gr _ _ _ n pub=>Nat.beq n 0&& !pub|.x _ n=>Nat.beq n 0|_=>true)
def startL (r:Rn):Nat→List Ob→Bool
 |_,[]=>true
 |i,o::l=>o.start r i&&startL r (i+1) l
def matchO (r:Rn)(ob:List Ob):Nat→List Ob→Prop
 |_,[]=>True
 |i,o::l=>ob[r.ix i]? =some (o.ren r i)∧matchO r ob (i+1) l
theorem startL_at {r:Rn}: ∀ {l:List Ob} {i:Nat},startL r i l=true→ ∀(k:Nat) (o:Ob),l[k]? =some o→o.start r (i+k)=true
 |[],i,_,k,o,h=>by simp at h
 |p::l,i,h,k,o,hk=>by
  simp only[startL,Bool.and_eq_true] at h
  cases k with
  |zero=>simp at hk;subst hk;exact h.1
  |succ k=>
   have:=startL_at h.2 k o (by simpa using hk)
   rwa [show i+1+k=i+(k+1) by omega] at this
theorem matchO_at {r:Rn}{ob:List Ob}: ∀ {l:List Ob} {i:Nat},matchO r ob i l→ ∀(k:Nat) (o:Ob),l[k]? =some o→ob[r.ix (i+k)]? =some (o.ren r (i+k))
 |[],i,_,k,o,h=>by simp at h
 |p::l,i,h,k,o,hk=>by
  cases k with
  |zero=>simp at hk;subst hk;exact h.1
  |succ k=>
   have:=matchO_at h.2 k o (by simpa using hk)
   rwa [show i+1+k=i+(k+1) by omega] at this
def nodupB :List Nat→Bool
 |[]=>true
 |x::l=> !(l.any (Nat.beq x))&&nodupB l
theorem nodupB_ok : ∀ {l:List Nat},nodupB l=true→l.Nodup
 |[],_=>List.nodup_nil
 |x::l,h=>by
  simp only[nodupB,Bool.and_eq_true,Bool.not_eq_true',List.any_eq_false] at h
  exact List.nodup_cons.2 ⟨fun hm=>h.1 x hm (by simp),nodupB_ok h.2⟩
theorem Rn.ix_lt {r:Rn}{i k:Nat}(h:r.idx[i]? =some k):r.ix i=k:=by simp[Rn.ix,h]
def aliveN (n:Nat)(l:List Ob):Bool:=Nat.ble n l.length
section
variable {w0:World}{σ0:Bs}{ob:List Ob}{w:World}{g:Gh}
theorem Inv.start (I:Inv w0 σ0 ob w g){r:Rn}(hK:r.K=ob.length)(hnd:r.idx.Nodup){obA:List Ob}(hA:obA.length=r.idx.length)(hs:startL r 0 obA=true)(hmt:matchO r ob 0 obA)
 (σ':Sto) (hσ: ∀b o u,g.σ b o=some u→σ' b o=some u) (hcon: ∀b o u,σ' b o=some u→w.cell? ⟨b,o,none⟩=some u) (hown: ∀i o b,obA[i]? =some o→(g.pull r).at i o b→ ∀x,σ' b x=none):
 Inv w (baseOf obA { g.pull r with σ:=σ' }) obA w { g.pull r with σ:=σ' }:=by
 have hK': ∀k,r.K≤k→g.lim k=0:=fun k hk=>I.lim k (by omega)
 have hobs: ∀(k:Nat) (o:Ob),obA[k]? =some o→ObOK (mineB w0 σ0) (g.pull r) w k o∧(∀b,(g.pull r).at k o b↔g.at (r.ix k) (o.ren r k) b)∧ob[r.ix k]? =some (o.ren r k):=fun k o hk=>by
  have h1:=startL_at hs k o hk
  have h2:=matchO_at hmt k o hk
  rw[Nat.zero_add] at h1 h2
  simp only[Ob.start,Bool.and_eq_true] at h1
  have hlt:k<r.idx.length:=by rw[←hA];exact(List.getElem?_eq_some_iff.1 hk).1
  obtain⟨p1,p2⟩:=(I.obs _ _ h2).pull hK' hlt h1.1
  exact⟨p1,p2,h2⟩
 have hat: ∀(k:Nat) (o:Ob) (b:Nat),Gh.at { g.pull r with σ:=σ' } k o b↔(g.pull r).at k o b:=fun k o b=>by cases o<;>exact Iff.rfl
 have hnp: ∀(k:Nat) (o:Ob),obA[k]? =some o→ ∀z e rows n,o≠ .gr z e rows n true:=fun k o hk z e rows n he=>by
  have h1:=startL_at hs k o hk
  subst he
  simp[Ob.start] at h1
 refine⟨.refl _ _,fun _ _ _ _=>rfl,hcon,fun k o hk=>?_,fun k hk=>?_,fun k k' o o' b hne ho ho' hb hb'=>?_,fun k _=>.inr rfl⟩
 ·obtain⟨p1,_,_⟩:=hobs k o hk
  refine(p1.sig σ' hσ fun b hb x=>?_).mine fun b hb _=>.inr ⟨k,o,hk,hb⟩
  rw[hown k o b hk hb x,p1.hid (hnp k o hk) hb x]
 ·simp only[Gh.pull]
  rw[if_neg (by omega)]
 ·rw[hat] at hb hb'
  obtain⟨_,q1,q2⟩:=hobs k o ho
  obtain⟨_,q1',q2'⟩:=hobs k' o' ho'
  have hlt:k<r.idx.length:=by rw[←hA];exact(List.getElem?_eq_some_iff.1 ho).1
  have hlt':k'<r.idx.length:=by rw[←hA];exact(List.getElem?_eq_some_iff.1 ho').1
  have e1:=Rn.ix_lt (r:=r) (List.getElem?_eq_getElem hlt)
  have e2:=Rn.ix_lt (r:=r) (List.getElem?_eq_getElem hlt')
  refine I.dis _ _ _ _ b (fun e=>hne ?_) q2 q2' ((q1 b).1 hb) ((q1' b).1 hb')
  rw[e1,e2] at e
  exact(List.getElem_inj hnd).1 e
open Classical in
theorem Inv.behind (I:Inv w0 σ0 ob w g){r:Rn}(hK:r.K=ob.length)(hm:σ0.m≤ob.length)(hnd:r.idx.Nodup){obA:List Ob}(hA:obA.length=r.idx.length)(hs:startL r 0 obA=true)(hmt:matchO r ob 0 obA)
 (σ':Sto) {obB:List Ob} {w':World} {g1:Gh} (J:Inv w (baseOf obA { g.pull r with σ:=σ' }) obB w' g1) (hfl:(∀b o,σ' b o=g.σ b o)∨ ∀o∈obB,o.flat) (hal:aliveN r.idx.length obB=true):
 ∃g',g.le g'∧Inv w0 σ0 (mergeO r 0 ob r.idx obB) w' g'∧ ∀t v,RT g1 t v→((∀b o,σ' b o=g.σ b o)∨t.flat=true)→RT g' (t.ren r) v:=by
 have hK': ∀k,r.K≤k→g.lim k=0:=fun k hk=>I.lim k (by omega)
 have hobs: ∀(k:Nat) (o:Ob),obA[k]? =some o→ObOK (mineB w0 σ0) (g.pull r) w k o∧(∀b,(g.pull r).at k o b↔g.at (r.ix k) (o.ren r k) b)∧ob[r.ix k]? =some (o.ren r k)∧g.lim (r.ix k)=r.of k+1:=fun k o hk=>by
  have h1:=startL_at hs k o hk
  have h2:=matchO_at hmt k o hk
  rw[Nat.zero_add] at h1 h2
  simp only[Ob.start,Bool.and_eq_true] at h1
  have hlt:k<r.idx.length:=by rw[←hA];exact(List.getElem?_eq_some_iff.1 hk).1
  have hok:=I.obs _ _ h2
  obtain⟨p1,p2⟩:=hok.pull hK' hlt h1.1
  refine⟨p1,p2,h2,?_⟩
  cases o with
  |pv cs=>
   have e:r.of k=0:=by
    have:=h1.1
    simp only[Ob.renOK,Bool.and_eq_true] at this
    exact Nat.eq_of_beq_eq_true this.1
   simp only[Ob.ren,e,show Nat.beq 0 0=true from rfl,cond_true] at hok
   rw[hok.1,e]
  |gr z e rows n pub=>
   have:n=0:=by
    have:=h1.2
    simp only[Bool.and_eq_true] at this
    exact Nat.eq_of_beq_eq_true this.1
   subst this
   exact hok.1
  |x X n=>
   have:n=0:=Nat.eq_of_beq_eq_true h1.2
   subst this
   exact hok.1
  |dead=>simp[Ob.renOK] at h1
  |new=>simp[Ob.renOK] at h1
 have hnp: ∀(k:Nat) (o:Ob),obA[k]? =some o→ ∀z e rows n,o.ren r k≠ .gr z e rows n true:=fun k o hk z e rows n he=>by
  have h1:=startL_at hs k o hk
  cases o with
  |pv cs=>simp only[Ob.ren] at he;cases h:Nat.beq (r.of k) 0<;>rw[h] at he<;>simp at he
  |gr z' e' rows' n' pub=>
   simp only[Ob.ren,Ob.gr.injEq] at he
   obtain⟨_,_,_,_,rfl⟩:=he
   simp[Ob.start] at h1
  |x X n=>simp[Ob.ren] at he
  |dead=>simp[Ob.ren] at he
  |new=>simp[Ob.ren] at he
 let own:Nat→Prop:=(baseOf obA { g.pull r with σ:=σ' }).own
 have hown: ∀b,own b→ ∃k o,obA[k]? =some o∧ob[r.ix k]? =some (o.ren r k)∧g.at (r.ix k) (o.ren r k) b:=fun b ⟨k,o,hk,hb⟩=>by
  obtain⟨_,q1,q2,_⟩:=hobs k o hk
  exact⟨k,o,hk,q2,(q1 b).1 (by cases o<;>exact hb)⟩
 have hownσ: ∀b,own b→ ∀x,g.σ b x=none:=fun b hb x=>by
  obtain⟨k,o,hk,q2,hb⟩:=hown b hb
  exact(I.obs _ _ q2).hid (hnp k o hk) hb x
 have hownM: ∀b,own b→mineB w0 σ0 b:=fun b hb=>by
  obtain⟨k,o,hk,q2,hb⟩:=hown b hb
  exact((I.obs _ _ q2).at_lt hb).1
 -- the callee's cells without what it was shown
 let τ:Sto:=fun b o=>if b<w.heap.size∧¬own b then g.σ b o else g1.σ b o
 have hτ:(∀b o,σ' b o=g.σ b o)→ ∀b o,τ b o=g1.σ b o:=fun h b o=>by
  simp only[τ]
  by_cases hb:b<w.heap.size∧¬own b
  ·rw[if_pos hb,J.old b o hb.1 hb.2];exact(h b o).symm
  ·rw[if_neg hb]
 have hτat: ∀(k:Nat) (o:Ob),obB[k]? =some o→ ∀b,g1.at k o b→ ∀x,τ b x=g1.σ b x:=fun k o hk b hb x=>by
  simp only[τ]
  rcases((J.obs k o hk).at_lt hb).1 with h|h
  ·rw[if_neg (by omega)]
  ·rw[if_neg (fun h'=>h'.2 h)]
 let g2:Gh:={ g1 with σ:=τ }
 have hobB: ∀(k:Nat) (o:Ob),obB[k]? =some o→ObOK (mineB w0 σ0) g2 w' k o:=fun k o hk=>by
  have hmine: ∀b,g2.at k o b→mineB w (baseOf obA { g.pull r with σ:=σ' }) b→mineB w0 σ0 b:=fun b _ h=>by
   rcases h with h|h
   ·exact .inl (by have:=I.below.size;omega)
   ·exact hownM b h
  refine ObOK.mine ?_ hmine
  rcases hfl with h|h
  ·have e:g2=g1:=by
    have:τ=g1.σ:=funext fun b=>funext fun o=>hτ h b o
    simp only[g2,this]
   rw[e]
   exact J.obs k o hk
  ·exact(J.obs k o hk).flat (h o (List.mem_of_getElem? hk)) τ (hτat k o hk)
 have hRT: ∀t v,RT g1 t v→((∀b o,σ' b o=g.σ b o)∨t.flat=true)→RT g2 t v:=fun t v h hf=>by
  rcases hf with hf|hf
  ·have e:g2=g1:=by
    have:τ=g1.σ:=funext fun b=>funext fun o=>hτ hf b o
    simp only[g2,this]
   rw[e];exact h
  ·exact h.flat hf τ
 have hlenB:r.idx.length≤obB.length:=Nat.le_of_ble_eq_true hal
 have hidx: ∀(i k:Nat),r.idx[i]? =some k→k<ob.length:=fun i k hi=>by
  have hlt:i<obA.length:=by rw[hA];exact(List.getElem?_eq_some_iff.1 hi).1
  obtain⟨_,_,q2,_⟩:=hobs i _ (List.getElem?_eq_getElem hlt)
  rw[Rn.ix_lt hi] at q2
  exact(List.getElem?_eq_some_iff.1 q2).1
 have hlimA: ∀(i k:Nat),r.idx[i]? =some k→g.lim k=r.of i+1:=fun i k hi=>by
  have hlt:i<obA.length:=by rw[hA];exact(List.getElem?_eq_some_iff.1 hi).1
  obtain⟨_,_,_,q3⟩:=hobs i _ (List.getElem?_eq_getElem hlt)
  rwa [Rn.ix_lt hi] at q3
 have hextA: ∀(i k:Nat),r.idx[i]? =some k→0<g1.lim i→g1.γ i 0=g.γ k (r.of i):=fun i k hi hl0=>by
  have hlt:i<r.idx.length:=(List.getElem?_eq_some_iff.1 hi).1
  rcases J.ext i (by show i<obA.length;omega) with h|h
  ·omega
  ·rw[h]
   show g.γ (r.ix i) (r.of i+0)=_
   rw[Rn.ix_lt hi,Nat.add_zero]
 have huniq: ∀(i j k:Nat),r.idx[i]? =some k→r.idx[j]? =some k→i=j:=fun i j k hi hj=>by
  obtain⟨h1,e1⟩:=List.getElem?_eq_some_iff.1 hi
  obtain⟨h2,e2⟩:=List.getElem?_eq_some_iff.1 hj
  exact(List.getElem_inj hnd).1 (e1.trans e2.symm)
 -- the ghost behind the call
 let g':Gh:=
  { σ:=τ
    γ:=fun k n=>if h: ∃i:Nat,r.idx[i]? =some k then(if n<r.of h.choose+1 then g.γ k n else g1.γ h.choose (n - r.of h.choose)) else if k<ob.length then g.γ k n else g1.γ (k - ob.length+r.idx.length) n
    lim:=fun k=>if h: ∃i:Nat,r.idx[i]? =some k then max (r.of h.choose+1) (r.of h.choose+g1.lim h.choose) else if k<ob.length then g.lim k else g1.lim (k - ob.length+r.idx.length)
    foot:=fun k=>if h: ∃i:Nat,r.idx[i]? =some k then g1.foot h.choose else if k<ob.length then g.foot k else g1.foot (k - ob.length+r.idx.length) }
 have hIn: ∀(i k:Nat),r.idx[i]? =some k→g'.lim k=max (r.of i+1) (r.of i+g1.lim i)∧g'.foot k=g1.foot i∧ ∀n,g'.γ k n=if n<r.of i+1 then g.γ k n else g1.γ i (n - r.of i):=fun i k hi=>by
  have hex: ∃i:Nat,r.idx[i]? =some k:=⟨i,hi⟩
  have e:hex.choose=i:=huniq _ _ k hex.choose_spec hi
  simp only[g',dif_pos hex,e]
  exact⟨trivial,trivial,fun _=>trivial⟩
 have hOut: ∀k,k<ob.length→k∉r.idx→g'.lim k=g.lim k∧g'.foot k=g.foot k∧ ∀n,g'.γ k n=g.γ k n:=fun k hk hn=>by
  have hex:¬ ∃i:Nat,r.idx[i]? =some k:=fun⟨i,hi⟩=>hn (List.mem_of_getElem? hi)
  simp only[g',dif_neg hex,if_pos hk]
  exact⟨trivial,trivial,fun _=>trivial⟩
 have hNew: ∀k,ob.length≤k→g'.lim k=g1.lim (k - ob.length+r.idx.length)∧g'.foot k=g1.foot (k - ob.length+r.idx.length)∧ ∀n,g'.γ k n=g1.γ (k - ob.length+r.idx.length) n:=fun k hk=>by
  have hex:¬ ∃i:Nat,r.idx[i]? =some k:=fun⟨i,hi⟩=>by have:=hidx i k hi;omega
  simp only[g',dif_neg hex,if_neg (Nat.not_lt.2 hk)]
  exact⟨trivial,trivial,fun _=>trivial⟩
 have hix: ∀i,(∃k,r.idx[i]? =some k∧r.ix i=k)∨(r.idx.length≤i∧r.ix i=i - r.idx.length+ob.length):=fun i=>by
  cases h:r.idx[i]? with
  |some k=>exact .inl ⟨k,rfl,Rn.ix_lt h⟩
  |none=>exact .inr ⟨by simpa using h,by simp[Rn.ix,h,hK]⟩
 have hof: ∀i,r.idx.length≤i→r.of i=0:=fun i hi=>by simp[Rn.of,List.getElem?_eq_none hi]
 have hγ: ∀k n,n<g2.lim k→r.of k+n<g'.lim (r.ix k)∧g'.γ (r.ix k) (r.of k+n)=g2.γ k n:=fun k n hn=>by
  rcases hix k with⟨j,hj,e⟩|h
  ·obtain⟨p1,_,p3⟩:=hIn k j hj
   have hn1:n<g1.lim k:=hn
   rw[e,p1,p3]
   refine⟨by omega,?_⟩
   by_cases h0:n=0
   ·subst h0
    rw[Nat.add_zero,if_pos (by omega)]
    exact(hextA k j hj (by omega)).symm
   ·rw[if_neg (by omega),Nat.add_sub_cancel_left]
  ·obtain⟨p1,_,p3⟩:=hNew (r.ix k) (by omega)
   have e2:r.ix k - ob.length+r.idx.length=k:=by omega
   rw[p1,p3,e2,hof k h.1,Nat.zero_add]
   exact⟨hn,rfl⟩
 have hft: ∀k,g'.foot (r.ix k)=g2.foot k∧(0<g2.lim k→g'.lim (r.ix k)=r.of k+g2.lim k):=fun k=>by
  rcases hix k with⟨j,hj,e⟩|h
  ·obtain⟨p1,p2,_⟩:=hIn k j hj
   rw[e]
   exact⟨p2,fun h0=>by have:0<g1.lim k:=h0;show g'.lim j=r.of k+g1.lim k;rw[p1];omega⟩
  ·obtain⟨p1,p2,_⟩:=hNew (r.ix k) (by omega)
   have e2:r.ix k - ob.length+r.idx.length=k:=by omega
   rw[e2] at p1 p2
   rw[hof k h.1,Nat.zero_add]
   exact⟨p2,fun _=>p1⟩
 have hpush: ∀(k:Nat) (o:Ob),obB[k]? =some o→ObOK (mineB w0 σ0) g' w' (r.ix k) (o.ren r k)∧ ∀b,g'.at (r.ix k) (o.ren r k) b→g1.at k o b:=fun k o hk=>by
  obtain⟨q1,q2⟩:=ObOK.push (g:=g2) (g':=g') (r:=r) (fun _ _=>rfl) hγ (hft k).1 (hft k).2 (hobB k o hk)
  exact⟨q1,fun b hb=>by have:=q2 b hb;cases o<;>exact this⟩
 have hle:g.le g':=⟨fun b o u hu=>by
  have hn:¬own b:=fun h=>by rw[hownσ b h o] at hu;cases hu
  have hb:=I.lt_of_σ hu
  show τ b o=some u
  simp only[τ]
  rw[if_pos ⟨hb,hn⟩];exact hu,fun k n hn=>by
  by_cases hk:k<ob.length
  ·by_cases hi:k∈r.idx
   ·obtain⟨i,hi⟩:=List.getElem?_of_mem hi
    obtain⟨p1,_,p3⟩:=hIn i k hi
    have hl:=hlimA i k hi
    refine⟨by omega,?_⟩
    rw[p3,if_pos (by omega)]
   ·obtain⟨p1,_,p3⟩:=hOut k hk hi
    exact⟨by omega,p3 n⟩
  ·have:=I.lim k (by omega);omega⟩
 obtain⟨m1,m2,m3⟩:=mergeO_at r r.idx 0 ob obB hlenB hnd (fun j hj=>by obtain⟨i,hi⟩:=List.getElem?_of_mem hj;exact hidx i j hi)
 have hcase: ∀(k:Nat) (p:Ob),(mergeO r 0 ob r.idx obB)[k]? =some p→(∃i o,obB[i]? =some o∧k=r.ix i∧p=o.ren r i)∨(k<ob.length∧k∉r.idx∧ob[k]? =some p):=fun k p hp=>by
  by_cases hk:k<ob.length
  ·by_cases hi:k∈r.idx
   ·obtain⟨i,hi⟩:=List.getElem?_of_mem hi
    rw[m1 i k hi] at hp
    obtain⟨o,ho,rfl⟩:=Option.map_eq_some_iff.1 hp
    exact .inl ⟨i,o,ho,(Rn.ix_lt hi).symm,by rw[Nat.zero_add]⟩
   ·rw[m2 k hk hi] at hp
    exact .inr ⟨hk,hi,hp⟩
  ·rw[m3 k (by omega)] at hp
   obtain⟨o,ho,rfl⟩:=Option.map_eq_some_iff.1 hp
   refine .inl ⟨_,o,ho,?_,by rw[Nat.zero_add]⟩
   rcases hix (k - ob.length+r.idx.length) with⟨j,hj,_⟩|h
   ·have:=(List.getElem?_eq_some_iff.1 hj).1;omega
   ·omega
 have hkept: ∀(k:Nat) (p:Ob),k∉r.idx→ob[k]? =some p→ ∀b,g.at k p b→b<w.heap.size∧¬own b:=fun k p hk hp b hb=>by
  refine⟨((I.obs k p hp).at_lt hb).2,fun h=>?_⟩
  obtain⟨i,o,hi,q2,hb'⟩:=hown b h
  have hlt:i<r.idx.length:=by rw[←hA];exact(List.getElem?_eq_some_iff.1 hi).1
  have e:=Rn.ix_lt (r:=r) (List.getElem?_eq_getElem hlt)
  refine I.dis k (r.ix i) p _ b (fun h=>hk ?_) hp q2 hb hb'
  rw[h,e];exact List.getElem_mem hlt
 refine⟨g',hle,⟨I.below.then J.below.os J.below.tape J.below.output J.below.size fun b hb hn=>?_,fun b o hb hn=>?_,fun b o u hu=>?_,fun k p hp=>?_,fun k hk=>?_,fun k k' p p' b hne hp hp' hb hb'=>?_,fun k hk=>?_⟩,fun t v h hf=>?_⟩
 ·refine J.below.block b (by have:=I.below.size;omega) fun h=>?_
  rcases hownM b h with h|h
  ·omega
  ·exact hn h
 ·have hn':¬own b:=fun h=>by
   rcases hownM b h with h|h
   ·omega
   ·exact hn h
  show τ b o=_
  simp only[τ]
  rw[if_pos ⟨by have:=I.below.size;omega,hn'⟩]
  exact I.old b o hb hn
 ·have hu':τ b o=some u:=hu
  simp only[τ] at hu'
  by_cases hb:b<w.heap.size∧¬own b
  ·rw[if_pos hb] at hu'
   rw[World.cell?_of_block (w:=w) (w':=w') (J.below.block b hb.1 hb.2)]
   exact I.con b o u hu'
  ·rw[if_neg hb] at hu'
   exact J.con b o u hu'
 ·rcases hcase k p hp with⟨i,o,ho,rfl,rfl⟩|⟨hk,hi,hp⟩
  ·exact(hpush i o ho).1
  ·obtain⟨q1,q2,q3⟩:=hOut k hk hi
   refine(I.obs k p hp).mono hle q1 q2 (fun b hb=>?_) J.below.size
   obtain⟨h1,h2⟩:=hkept k p hi hp b hb
   exact⟨J.below.block b h1 h2,fun x=>by show τ b x=_;simp only[τ];rw[if_pos ⟨h1,h2⟩]⟩
 ·have hlen: ∀k,(mergeO r 0 ob r.idx obB).length≤k→ob.length≤k:=fun k hk=>by
   by_cases h:ob.length≤k
   ·exact h
   ·have hn:(mergeO r 0 ob r.idx obB)[k]? =none:=List.getElem?_eq_none hk
    by_cases hi:k∈r.idx
    ·obtain⟨i,hi⟩:=List.getElem?_of_mem hi
     rw[m1 i k hi] at hn
     have:=(List.getElem?_eq_some_iff.1 hi).1
     rw[List.getElem?_eq_getElem (show i<obB.length by omega)] at hn
     simp at hn
    ·rw[m2 k (by omega) hi,List.getElem?_eq_getElem (show k<ob.length by omega)] at hn
     cases hn
  have h1:=hlen k hk
  obtain⟨q1,_,_⟩:=hNew k h1
  rw[q1]
  refine J.lim _ ?_
  have hn:(mergeO r 0 ob r.idx obB)[k]? =none:=List.getElem?_eq_none hk
  rw[m3 k h1] at hn
  simpa using hn
 ·have both: ∀(k k':Nat) (p p':Ob),(∃i o,obB[i]? =some o∧k=r.ix i∧p=o.ren r i)→k'∉r.idx→k'<ob.length→ob[k']? =some p'→g'.at k p b→g'.at k' p' b→False:=fun k k' p p' ⟨i,o,ho,hk,hp⟩ hn hlt hp' hb hb'=>by
   subst hk;subst hp
   have h1:=(hpush i o ho).2 b hb
   rw[Gh.at_mono hle (I.obs k' p' hp') (hOut k' hlt hn).2.1] at hb'
   obtain⟨h2,h3⟩:=hkept k' p' hn hp' b hb'
   rcases((J.obs i o ho).at_lt h1).1 with h|h
   ·omega
   ·exact h3 h
  rcases hcase k p hp with hA|⟨hk,hi,hp2⟩
  ·rcases hcase k' p' hp' with hB|⟨hk',hi',hp2'⟩
   ·obtain⟨i,o,ho,rfl,rfl⟩:=hA
    obtain⟨i',o',ho',rfl,rfl⟩:=hB
    exact J.dis i i' o o' b (fun e=>hne (by rw[e])) ho ho' ((hpush i o ho).2 b hb) ((hpush i' o' ho').2 b hb')
   ·exact both k k' p p' hA hi' hk' hp2' hb hb'
  ·rcases hcase k' p' hp' with hB|⟨hk',hi',hp2'⟩
   ·exact both k' k p' p hB hi hk hp2 hb' hb
   ·rw[Gh.at_mono hle (I.obs k p hp2) (hOut k hk hi).2.1] at hb
    rw[Gh.at_mono hle (I.obs k' p' hp2') (hOut k' hk' hi').2.1] at hb'
    exact I.dis k k' p p' b hne hp2 hp2' hb hb'
 ·have hkl:k<ob.length:=by omega
  by_cases hi:k∈r.idx
  ·obtain⟨i,hi⟩:=List.getElem?_of_mem hi
   have hl:=hlimA i k hi
   rcases I.ext k hk with h|h
   ·omega
   ·exact .inr (((hle.γ k 0 (by omega)).2).trans h)
  ·obtain⟨q1,_,q3⟩:=hOut k hkl hi
   rw[q1,q3]
   exact I.ext k hk
 ·exact RT.push (g:=g2) (g':=g') (r:=r) (fun _ _ _ h=>h) hγ (hRT t v h hf)
end
section
variable {N:Nm}{S:St}{w0:World}{σ0:Bs}{ob:List Ob}{a:Act}{w:World}{g:Gh}
def argsOf (E:Env)(S:St):List Operand→List TypeId→Option (List D)
 |[],_=>some []
 |x::r,ts=>match norm S.ob (fixNil E (ts.headD 0) (S.ev x)),argsOf E S r ts.tail with
  |.d d,some ds=>some (d.fix::ds)
  |_,_=>none
theorem Rel.args {E:Env}(r:Rel N w0 σ0 S a w g): ∀ {xs:List Operand} {ts:List TypeId} {ds:List D},argsOf E S xs ts=some ds→
 (xs.map a.eval).length=ds.length∧ ∀(i:Nat) (x:D) (u:Value),ds[i]? =some x→(xs.map a.eval)[i]? =some u→RD g.σ x u
 |[],ts,ds,h=>by
  simp only[argsOf,Option.some.injEq] at h
  subst h
  exact⟨rfl,fun i x u hx=>by simp at hx⟩
 |x::xs,ts,ds,h=>by
  simp only[argsOf] at h
  split at h
  ·rename_i d ds' hd hds
   simp only[Option.some.injEq] at h
   subst h
   obtain⟨h1,h2⟩:=Rel.args r hds
   refine⟨by simpa using h1,fun i y u hy hu=>?_⟩
   cases i with
   |zero=>
    simp at hy hu
    subst hy;subst hu
    have:=r.inv.norm ((r.ev x).fixNil E (ts.headD 0))
    rw[hd] at this
    exact this.inv_d.fix
   |succ i=>exact h2 i y u (by simpa using hy) (by simpa using hu)
  ·cases h
end
structure FunQ (P:Program) (f:FuncId) (args:List T) (ob:List Ob) (R:T→List Ob→Prop):Prop where
 enter: ∀(vals:Array Value) (w:World),(callFunc f vals).run P w=.ok (.enter f vals) w
 calls:FnQ P f args ob R
abbrev Fun (P:Program)(f:FuncId)(args:List D)(t:T)(ob:List Ob):Prop:=FunQ P f (args.map .d) [] (just t ob)
theorem FunQ.intro {P:Program}{f:FuncId}{fn:Func}{c:Code}{args:List T}{ob:List Ob}{R:T→List Ob→Prop}(hf:P.funcs[f]? =some fn)(hb:fn.body=some c)(hname:(fn.name== "runtime.NumGoroutine")=false)
 (hn:Nat.ble args.length fn.ntmps=true) (h:W P ⟨fn.ntmps,ob.length⟩ c (RetR P fn ob.length R) ⟨argT args,ob⟩):FunQ P f args ob R:=
 ⟨fun vals w=>by
   unfold callFunc
   simp only[Sem.run_bind,run_program,Result.andThen_ok,hf,hname,hb,Bool.false_eq_true,if_false,Option.isNone_some,Sem.run_pure],FnQ.intro hf hb (Nat.le_of_ble_eq_true hn) h⟩
theorem FunQ.mono {P:Program}{f:FuncId}{args:List T}{ob:List Ob}{R R':T→List Ob→Prop}(h:FunQ P f args ob R)(hR: ∀t ob',R t ob'→R' t ob'):FunQ P f args ob R':=
 ⟨h.enter,fun w g vals hI hl hr=>(h.calls w g vals hI hl hr).mono fun e w' ⟨v,t,ob',g',h1,h2,h3⟩=>⟨v,t,ob',g',h1,hR t ob' h2,h3⟩⟩
def argD (l:List D)(i:Nat):T:=match l[i]? with|some x=>.d x|none=>.any
theorem argD_eq (l:List D):argD l=argT (l.map .d):=by
 funext i
 simp only[argD,argT,List.getElem?_map]
 cases l[i]? <;>rfl
theorem Fun.intro {P:Program}{f:FuncId}{fn:Func}{c:Code}{args:List D}{t:T}{ob:List Ob}(hf:P.funcs[f]? =some fn)(hb:fn.body=some c)(hname:(fn.name== "runtime.NumGoroutine")=false)
 (hn:Nat.ble args.length fn.ntmps=true) (h:W P ⟨fn.ntmps,0⟩ c (RetR P fn 0 (just t ob)) ⟨argD args,[]⟩):Fun P f args t ob:=by
 refine FunQ.intro hf hb hname (by simpa using hn) ?_
 rw[←argD_eq]
 exact h
theorem Fun.cast {P:Program}{f:FuncId}{args args':List D}{t t':T}{ob ob':List Ob}(h:Fun P f args t ob)(ha:args=args')(ht:t=t')(ho:ob=ob'):Fun P f args' t' ob':=by
 subst ha;subst ht;subst ho;exact h
def cloOf :T→Option (FuncId×List T)
 |.clo f cs=>some (f,cs)
 |.d (.v (.func (.func f) first cap))=>match first.toList,cap.toList with|[],[]=>some (f,[])|_,_=>none
 |_=>none
theorem RT.clo_of {g:Gh}{t:T}{u:Value}{f:FuncId}{cs:List T}(h:RT g t u)(hc:cloOf t=some (f,cs)):
 ∃vs:List Value,u=.func (.func f) #[] vs.toArray∧cs.length=vs.length∧ ∀(i:Nat) (x:T) (u:Value),cs[i]? =some x→vs[i]? =some u→RT g x u:=by
 unfold cloOf at hc
 split at hc
 ·simp only[Option.some.injEq,Prod.mk.injEq] at hc
  obtain⟨rfl,rfl⟩:=hc
  exact h.inv_clo
 ·rename_i f' first cap
  split at hc
  ·rename_i h1 h2
   simp only[Option.some.injEq,Prod.mk.injEq] at hc
   obtain⟨rfl,rfl⟩:=hc
   have e1:first= #[]:=by rw[←Array.toArray_toList (xs:=first),h1]
   have e2:cap= #[]:=by rw[←Array.toArray_toList (xs:=cap),h2]
   subst e1;subst e2
   exact⟨[],h.inv_v,rfl,fun i x u hx=>by simp at hx⟩
  ·cases hc
 ·cases hc
def lendC (ob:List Ob):T→T
 |.og k n=>match ob[k]? with
  |some (.gr z _ rows m _)=>bif Nat.beq m n then .d (.sl z rows) else .og k n
  |some (.x X m)=>match X.dat with
   |some d=>bif Nat.beq m n then .d d else .og k n
   |none=>.og k n
  |_=>.og k n
 |.d x=>.d x.fix1
 |t=>t
def lend1 (ob:List Ob):T→T
 |.agg cs=>mkAgg (cs.map (lendC ob))
 |.d x=>.d x.fix
 |.clo f cs=>.clo f (cs.map (lendC ob))
 |t=>lendC ob t
section
variable {N:Nm}{S:St}{w0:World}{σ0:Bs}{ob:List Ob}{a:Act}{w:World}{g:Gh}
open Classical in
noncomputable def lentσ (ob:List Ob)(w:World)(g:Gh):Sto:=fun b o=>
 if(∃k z e rows n,ob[k]? =some (.gr z e rows n false)∧(g.γ k n).ownBlock=some b)∨(∃k X n,ob[k]? =some (.x X n)∧g.foot k b) then w.cell? ⟨b,o,none⟩ else g.σ b o
theorem lentσ_le (I:Inv w0 σ0 ob w g):(∀b o u,g.σ b o=some u→lentσ ob w g b o=some u)∧ ∀b o u,lentσ ob w g b o=some u→w.cell? ⟨b,o,none⟩=some u:=by
 refine⟨fun b o u hu=>?_,fun b o u hu=>?_⟩
 ·unfold lentσ
  split
  ·exact I.con b o u hu
  ·exact hu
 ·unfold lentσ at hu
  split at hu
  ·exact hu
  ·exact I.con b o u hu
theorem Inv.readL (I:Inv w0 σ0 ob w g){k z:Nat}{e:TypeId}{rows:List (List D)}{n:Nat}{pub:Bool}(hk:ob[k]? =some (.gr z e rows n pub)):RD (lentσ ob w g) (.sl z rows) (g.γ k n):=by
 cases pub with
 |true=>exact(I.read hk).mono (lentσ_le I).1
 |false=>
  obtain⟨h1,xs,⟨h2,h2m⟩,h3,h4,h5,h6⟩:=I.obs k _ hk
  rcases h2.2 with⟨hv,hn⟩|⟨b,cap,cur,hv,hb,hh,hcap,hm,hcs,hxs⟩
  ·rw[hv]
   have:rows=[]:=List.eq_nil_of_length_eq_zero hn
   subst this
   exact .nil z none
  ·rw[hv]
   have hlen:=h2.1
   have hin: ∀i j,i<rows.length→j<z→i*z+j<xs.length:=fun i j hi hj=>by
    rw[hlen]
    calc i*z+j<i*z+z:=by omega
     _=(i+1)*z:=by rw[Nat.add_mul];omega
     _≤rows.length*z:=Nat.mul_le_mul_right _ hi
   have hcell: ∀i j,i<rows.length→j<z→lentσ ob w g b (i*z+j)=xs[i*z+j]? :=fun i j hi hj=>by
    have hlt:=hin i j hi hj
    unfold lentσ
    rw[if_pos (.inl ⟨k,z,e,rows,n,hk,by rw[hv];rfl⟩)]
    have:=h2.cells (g:=b) (by rw[hv];rfl) (i*z+j) _ (List.getElem?_eq_getElem hlt)
    rw[Addr.add_lit,Nat.zero_add] at this
    rw[this,List.getElem?_eq_getElem hlt]
   refine .sl z rows b 0 cap (fun i j=>(xs[i*z+j]?).getD undef) hcap hm h3 (fun i j hi hj=>?_) (fun i j r x hr hx=>?_)
   ·have hlt:=hin i j hi hj
    rw[Nat.zero_add,hcell i j hi hj,List.getElem?_eq_getElem hlt]
    exact⟨rfl,h5 _ (List.getElem_mem hlt)⟩
   ·obtain⟨u,hu,hd⟩:=h4 i j r x hr hx
    rw[hu]
    exact hd.mono (lentσ_le I).1
theorem Inv.readX (I:Inv w0 σ0 ob w g){k n:Nat}{X:ObX}{d:D}(hk:ob[k]? =some (.x X n))(hd:X.dat=some d):RD (lentσ ob w g) d (g.γ k n):=by
 obtain⟨h1,h2,h3⟩:=I.obs k _ hk
 refine X.read hd h2 (lentσ_le I).1 fun b o cur e u hb hh hu=>?_
 unfold lentσ
 rw[if_pos (.inr ⟨k,X,n,hk,hb⟩)]
 obtain⟨cur⟩:=cur
 have hh:w.heap[b]? =some (.cells cur.toArray e (0,0)):=hh
 rw[cell_of_heap hh o]
 simpa using hu
theorem Inv.lendC (I:Inv w0 σ0 ob w g){t:T}{v:Value}(h:RT g t v):RT { g with σ:=lentσ ob w g } (lendC ob t) v:=by
 have hle:g.le { g with σ:=lentσ ob w g }:=⟨(lentσ_le I).1,fun _ _ h=>⟨h,rfl⟩⟩
 cases t with
 |og k n=>
  simp only[Go.Proofs.YtmmjbpgdkokjgaaGreatDoor.lendC]
  split
  ·rename_i z e rows m pub hk
   by_cases e':m=n
   ·subst e'
    rw[show Nat.beq m m=true by simp]
    simp only[cond_true]
    obtain⟨_,hv⟩:=h.inv_og
    rw[hv]
    exact .d _ _ (I.readL hk)
   ·rw[nbeq e'];exact h.mono hle
  ·rename_i X m hk
   split
   ·rename_i d hd
    by_cases e':m=n
    ·subst e'
     rw[show Nat.beq m m=true by simp]
     simp only[cond_true]
     obtain⟨_,hv⟩:=h.inv_og
     rw[hv]
     exact .d _ _ (I.readX hk hd)
    ·rw[nbeq e'];exact h.mono hle
   ·exact h.mono hle
  ·exact h.mono hle
 |d x=>exact .d _ _ (h.inv_d.fix1.mono (lentσ_le I).1)
 |_=>exact h.mono hle
theorem Inv.lend1 (I:Inv w0 σ0 ob w g){t:T}{v:Value}(h:RT g t v):RT { g with σ:=lentσ ob w g } (lend1 ob t) v:=by
 cases t with
 |agg cs=>
  obtain⟨vs,rfl,hl,hh⟩:=h.inv_agg
  refine RT.mkAgg (by simpa using hl) fun i x u hx hu=>?_
  simp only[List.getElem?_map,Option.map_eq_some_iff] at hx
  obtain⟨y,hy,rfl⟩:=hx
  exact I.lendC (hh i y u hy hu)
 |clo f cs=>
  obtain⟨vs,rfl,hl,hh⟩:=h.inv_clo
  refine .clo f _ vs (by simpa using hl) fun i x u hx hu=>?_
  simp only[List.getElem?_map,Option.map_eq_some_iff] at hx
  obtain⟨y,hy,rfl⟩:=hx
  exact I.lendC (hh i y u hy hu)
 |d x=>exact .d _ _ (h.inv_d.fix.mono (lentσ_le I).1)
 |_=>exact I.lendC h
def fixT :T→T
 |.d x=>.d x.fix
 |t=>t
theorem RT.fixT {g:Gh}{t:T}{v:Value}(h:RT g t v):RT g (fixT t) v:=by
 cases t with
 |d x=>exact .d _ _ h.inv_d.fix
 |_=>exact h
def argsT (E:Env)(S:St)(lend:Bool):List Operand→List TypeId→List T
 |[],_=>[]
 |x::r,ts=>(bif lend then lend1 S.ob (fixNil E (ts.headD 0) (S.ev x)) else fixT (norm S.ob (fixNil E (ts.headD 0) (S.ev x))))::argsT E S lend r ts.tail
theorem Rel.argsL {E:Env}(r:Rel N w0 σ0 S a w g)(lend:Bool): ∀(xs:List Operand) (ts:List TypeId),(argsT E S lend xs ts).length=xs.length∧
 ∀(i:Nat) (x:T) (u:Value),(argsT E S lend xs ts)[i]? =some x→(xs.map a.eval)[i]? =some u→RT { g with σ:=bif lend then lentσ S.ob w g else g.σ } x u
 |[],ts=>⟨rfl,fun i x u hx=>by simp[argsT] at hx⟩
 |x::xs,ts=>by
  obtain⟨h1,h2⟩:=Rel.argsL (E:=E) r lend xs ts.tail
  refine⟨by simp[argsT,h1],fun i y u hy hu=>?_⟩
  cases i with
  |zero=>
   simp only[argsT,List.getElem?_cons_zero,Option.some.injEq,List.map_cons] at hy hu
   subst hy;subst hu
   cases lend with
   |true=>exact r.inv.lend1 ((r.ev x).fixNil E (ts.headD 0))
   |false=>exact(r.inv.norm ((r.ev x).fixNil E (ts.headD 0))).fixT
  |succ i=>exact h2 i y u (by simpa [argsT] using hy) (by simpa using hu)
theorem app_at {g:Gh}{xs ys:List T}{us vs:List Value}(h1:xs.length=us.length)(h2: ∀(i:Nat) (x:T) (u:Value),xs[i]? =some x→us[i]? =some u→RT g x u)
 (h3: ∀(i:Nat) (x:T) (u:Value),ys[i]? =some x→vs[i]? =some u→RT g x u) (i:Nat) (x:T) (u:Value) (hx:(xs++ys)[i]? =some x) (hu:(us++vs)[i]? =some u):RT g x u:=by
 by_cases hi:i<xs.length
 ·rw[List.getElem?_append_left hi] at hx
  rw[List.getElem?_append_left (by omega)] at hu
  exact h2 i x u hx hu
 ·rw[List.getElem?_append_right (by omega)] at hx
  rw[List.getElem?_append_right (by omega),←h1] at hu
  exact h3 _ x u hx hu
theorem Inv.sigma (I:Inv w0 σ0 ob w g)(lend:Bool):(∀b o u,g.σ b o=some u→(bif lend then lentσ ob w g else g.σ) b o=some u)∧ ∀b o u,(bif lend then lentσ ob w g else g.σ) b o=some u→w.cell? ⟨b,o,none⟩=some u:=by
 cases lend with
 |true=>exact lentσ_le I
 |false=>exact⟨fun _ _ _ h=>h,I.con⟩
end
section
variable {E:Env}{N:Nm}{Q:Exit→St→Prop}{S:St}{ops l:List Oper}{ty:TypeId}{pos:String}{after:Array Edge}{gd:Option (Nat×Bool)}
theorem run_callV {P:Program}{w:World}{a:Act}{f:FuncId}{fop:Operand}{xs:List Operand}{tys:Array TypeId}{vs:List Value}{dst:Option Nat}(hv:a.eval fop=.func (.func f) #[] vs.toArray)
 (h: ∀(vals:Array Value) (w:World),(callFunc f vals).run P w=.ok (.enter f vals) w):
 (execOp a.eval ⟨dst,.call ⟨.value fop,xs.toArray,tys⟩,ty,pos,after,gd⟩).run P w=.ok (.enter f (xs.map a.eval++vs).toArray) w:=by
 simp[execOp,resolve,hv,Deferred.ofValue,invoke,h]
theorem Rel.call {w0:World}{σ0:Bs}{a:Act}{w:World}{g:Gh}(R:Rel N w0 σ0 S a w g){f:FuncId}{fop:Operand}{xs:List Operand}{tys:List TypeId}{cap args:List T}{obA:List Ob}{Rr:T→List Ob→Prop}(r:Rn)(lend:Bool)
 (hc:FunQ E.P f args obA Rr) (hclo:cloOf (norm S.ob (S.ev fop))=some (f,cap)) (ha:argsT E S lend xs tys++cap=T.renL r args) (hlp:T.lpOKL r args=true) (hK:r.K=S.ob.length) (hnd:nodupB r.idx=true)
 (hA:Nat.beq obA.length r.idx.length=true) (hs:startL r 0 obA=true) (hmt:matchO r S.ob 0 obA) (hno:lend=false∨r.idx=[]) (hal: ∀t obB,Rr t obB→aliveN r.idx.length obB=true∧(lend=true→t.flat=true∧ ∀o∈obB,o.flat))
 {dst:Option Nat} (K:Act→World→Prop) (QQ:Exit→Act→World→Prop)
 (k: ∀t obB,Rr t obB→ ∀v w' g',g.le g'→Inv w0 σ0 (mergeO r 0 S.ob r.idx obB) w' g'→RT g' (t.ren r) v→K (a.put dst v) w'):
 Oper.wp E.P ⟨dst,.call ⟨.value fop,xs.toArray,tys.toArray⟩,ty,pos,after,gd⟩ a w K QQ:=by
 have I:=R.inv
 obtain⟨vs,hv,hvl,hvr⟩:=(I.norm (R.ev fop)).clo_of hclo
 obtain⟨h1,h2⟩:=R.argsL (E:=E) lend xs tys
 have hlen:obA.length=r.idx.length:=Nat.eq_of_beq_eq_true hA
 have hK': ∀k,r.K≤k→g.lim k=0:=fun k hk=>I.lim k (by omega)
 have hsg:=I.sigma lend
 generalize hσ':(bif lend then lentσ S.ob w g else g.σ)=σ' at hsg h2
 have hown: ∀i o b,obA[i]? =some o→(g.pull r).at i o b→ ∀x,σ' b x=none:=fun i o b hi hb x=>by
  have h3:=startL_at hs i o hi
  have h4:=matchO_at hmt i o hi
  rw[Nat.zero_add] at h3 h4
  simp only[Ob.start,Bool.and_eq_true] at h3
  have hlt:i<r.idx.length:=by rw[←hlen];exact(List.getElem?_eq_some_iff.1 hi).1
  rcases hno with hno|hno
  ·subst hno
   rw[←hσ']
   obtain⟨p1,p2⟩:=(I.obs _ _ h4).pull hK' hlt h3.1
   refine p1.hid (fun z e rows n he=>?_) hb x
   subst he
   simp at h3
  ·rw[hno] at hlt;simp at hlt
 have hst:=I.start hK (nodupB_ok hnd) hlen hs hmt σ' hsg.1 hsg.2 hown
 unfold Oper.wp
 rw[run_callV hv hc.enter,Oper.upon_enter]
 have hg2: ∀k,r.K≤k→({ g with σ:=σ' }:Gh).lim k=0:=hK'
 obtain⟨p1,p2⟩:=RT.pullL (g:={ g with σ:=σ' }) (r:=r) hg2 args (xs.map a.eval++vs) hlp (by rw[←ha];simp[h1,hvl]) (by
  rw[←ha]
  exact app_at (by simp[h1]) h2 fun i x u hx hu=>(hvr i x u hx hu).mono (g':={ g with σ:=σ' }) ⟨hsg.1,fun _ _ h=>⟨h,rfl⟩⟩)
 refine(hc.calls w _ (xs.map a.eval++vs) hst p1.symm p2).mono fun e w' ⟨v,t,obB,g1,he,hR,J,hv⟩=>?_
 subst he
 obtain⟨ha1,ha2⟩:=hal t obB hR
 have hno2:(∀b o,σ' b o=g.σ b o)∨lend=true:=by
  cases lend with
  |true=>exact .inr rfl
  |false=>rw[←hσ'];exact .inl fun _ _=>rfl
 obtain⟨g',hle,I',hmap⟩:=I.behind hK (by rw[R.hm];exact R.hl) (nodupB_ok hnd) hlen hs hmt σ' J (hno2.imp id fun h=>(ha2 h).2) ha1
 exact k t obB hR v w' g' hle I' (hmap t v hv (hno2.imp id fun h=>(ha2 h).1))
theorem mergeO_length (r:Rn): ∀(js:List Nat) (i:Nat) (obC rest:List Ob),obC.length≤(mergeO r i obC js rest).length
 |[],i,obC,rest=>by simp[mergeO]
 |j::js,i,obC,[]=>by
  simp only[mergeO]
  have:=mergeO_length r js (i+1) (obC.set j .dead) []
  simpa using this
 |j::js,i,obC,o::rest=>by
  simp only[mergeO]
  have:=mergeO_length r js (i+1) (obC.set j (o.ren r i)) rest
  simpa using this
theorem WL.callQ {d:Nat}{f:FuncId}{fop:Operand}{xs:List Operand}{tys:List TypeId}{cap args:List T}{obA:List Ob}{Rr:T→List Ob→Prop}(r:Rn)(lend:Bool)(hw:S.want ops ⟨some d,.call ⟨.value fop,xs.toArray,tys.toArray⟩,ty,pos,after,gd⟩=some true)(hd:Nat.blt d N.n=true)
 (hc:FunQ E.P f args obA Rr) (hclo:cloOf (norm S.ob (S.ev fop))=some (f,cap)) (ha:argsT E S lend xs tys++cap=T.renL r args) (hlp:T.lpOKL r args=true) (hK:r.K=S.ob.length) (hnd:nodupB r.idx=true)
 (hA:Nat.beq obA.length r.idx.length=true) (hs:startL r 0 obA=true) (hmt:matchO r S.ob 0 obA) (hno:lend=false∨r.idx=[]) (hal: ∀t obB,Rr t obB→aliveN r.idx.length obB=true∧(lend=true→t.flat=true∧ ∀o∈obB,o.flat))
 (k: ∀t obB,Rr t obB→WL E.P N ops l Q ⟨(S.set d (t.ren r)).tm,mergeO r 0 S.ob r.idx obB⟩):WL E.P N ops (⟨some d,.call ⟨.value fop,xs.toArray,tys.toArray⟩,ty,pos,after,gd⟩::l) Q S:=
 WL.oper hw fun w0 σ0 a w g R=>R.call r lend hc hclo ha hlp hK hnd hA hs hmt hno hal _ _ fun t obB hR v w' g' hle I' hv=>by
  have r':Rel N w0 σ0 ⟨S.tm,mergeO r 0 S.ob r.idx obB⟩ a w' g':=⟨I',R.defers,R.size,R.hm,Nat.le_trans R.hl (mergeO_length ..),fun i=>(R.tm i).mono hle⟩
  exact k t obB hR w0 σ0 _ w' g' (r'.set (by simpa using hd) hv)
theorem WL.callQx {f:FuncId}{fop:Operand}{xs:List Operand}{tys:List TypeId}{cap args:List T}{obA:List Ob}{Rr:T→List Ob→Prop}(r:Rn)(lend:Bool)(hw:S.want ops ⟨none,.call ⟨.value fop,xs.toArray,tys.toArray⟩,ty,pos,after,gd⟩=some true)
 (hc:FunQ E.P f args obA Rr) (hclo:cloOf (norm S.ob (S.ev fop))=some (f,cap)) (ha:argsT E S lend xs tys++cap=T.renL r args) (hlp:T.lpOKL r args=true) (hK:r.K=S.ob.length) (hnd:nodupB r.idx=true)
 (hA:Nat.beq obA.length r.idx.length=true) (hs:startL r 0 obA=true) (hmt:matchO r S.ob 0 obA) (hno:lend=false∨r.idx=[]) (hal: ∀t obB,Rr t obB→aliveN r.idx.length obB=true∧(lend=true→t.flat=true∧ ∀o∈obB,o.flat))
 (k: ∀t obB,Rr t obB→WL E.P N ops l Q ⟨S.tm,mergeO r 0 S.ob r.idx obB⟩):WL E.P N ops (⟨none,.call ⟨.value fop,xs.toArray,tys.toArray⟩,ty,pos,after,gd⟩::l) Q S:=
 WL.oper hw fun w0 σ0 a w g R=>R.call r lend hc hclo ha hlp hK hnd hA hs hmt hno hal _ _ fun t obB hR v w' g' hle I' hv=>
  k t obB hR w0 σ0 _ w' g' ⟨I',R.defers,R.size,R.hm,Nat.le_trans R.hl (mergeO_length ..),fun i=>(R.tm i).mono hle⟩
theorem argsT_of {xs:List Operand}: ∀ {ts:List TypeId} {ds:List D} (r:Rn),argsOf E S xs ts=some ds→argsT E S false xs ts=T.renL r (ds.map .d):=by
 induction xs with
 |nil=>
  intro ts ds r h
  simp only[argsOf,Option.some.injEq] at h
  subst h
  simp[argsT,T.renL]
 |cons x xs ih=>
  intro ts ds r h
  simp only[argsOf] at h
  split at h
  ·rename_i d ds' hd hds
   simp only[Option.some.injEq] at h
   subst h
   simp only[argsT,List.map_cons,T.renL,T.ren,ih r hds,cond_false,hd,fixT]
  ·cases h
def pushT (K:Nat):T→T:=T.ren ⟨[],[],K⟩
def pushO (K:Nat):List Ob→List Ob:=renFrom ⟨[],[],K⟩ 0
theorem WL.call {d:Nat}{f:FuncId}{xs:List Operand}{tys:List TypeId}{args:List D}{t:T}{ob1:List Ob}(hw:S.want ops ⟨some d,.call ⟨.value (.func f),xs.toArray,tys.toArray⟩,ty,pos,after,gd⟩=some true)(hd:Nat.blt d N.n=true)
 (hc:Fun E.P f args t ob1) (ha:argsOf E S xs tys=some args)
 (k:WL E.P N ops l Q ⟨(S.set d (pushT S.ob.length t)).tm,S.ob++pushO S.ob.length ob1⟩):WL E.P N ops (⟨some d,.call ⟨.value (.func f),xs.toArray,tys.toArray⟩,ty,pos,after,gd⟩::l) Q S:=by
 refine WL.callQ (cap:=[]) ⟨[],[],S.ob.length⟩ false hw hd hc rfl (by rw[List.append_nil];exact argsT_of _ ha) ?_ rfl rfl rfl rfl trivial (.inl rfl) (fun t obB h=>⟨rfl,fun h=>by cases h⟩) fun t' obB ⟨h1,h2⟩=>?_
 ·clear ha hc
  induction args with
  |nil=>rfl
  |cons x r ih=>simp[T.lpOKL,T.lpOK,ih]
 ·subst h1;subst h2
  exact k
theorem WL.callx {f:FuncId}{xs:List Operand}{tys:List TypeId}{args:List D}{t:T}{ob1:List Ob}(hw:S.want ops ⟨none,.call ⟨.value (.func f),xs.toArray,tys.toArray⟩,ty,pos,after,gd⟩=some true)
 (hc:Fun E.P f args t ob1) (ha:argsOf E S xs tys=some args)
 (k:WL E.P N ops l Q ⟨S.tm,S.ob++pushO S.ob.length ob1⟩):WL E.P N ops (⟨none,.call ⟨.value (.func f),xs.toArray,tys.toArray⟩,ty,pos,after,gd⟩::l) Q S:=by
 refine WL.callQx (cap:=[]) ⟨[],[],S.ob.length⟩ false hw hc rfl (by rw[List.append_nil];exact argsT_of _ ha) ?_ rfl rfl rfl rfl trivial (.inl rfl) (fun t obB h=>⟨rfl,fun h=>by cases h⟩) fun t' obB ⟨h1,h2⟩=>?_
 ·clear ha hc
  induction args with
  |nil=>rfl
  |cons x r ih=>simp[T.lpOKL,T.lpOK,ih]
 ·subst h1;subst h2
  exact k
end
def ofL :List (Nat×T)→Nat→T
 |[],_=>.any
 |(i,t)::r,j=>bif Nat.beq j i then t else ofL r j
def leL (n:Nat)(f:Nat→T):List (Nat×T)→Prop
 |[]=>True
 |(i,t)::r=>(f i=t∧t.under n=true)∧leL n f r
theorem le_ofL {N:Nm}{S:St}{L:List (Nat×T)}{ob:List Ob}(hm:Nat.ble N.m ob.length=true)(ho:obsLe ob.length ob S.ob)(h:leL ob.length S.tm L):St.le N S ⟨ofL L,ob⟩:=by
 refine⟨Nat.le_of_ble_eq_true hm,ho,fun i=>?_⟩
 show ofL L i=.any∨(S.tm i=ofL L i∧(ofL L i).under ob.length=true)
 induction L with
 |nil=>exact .inl rfl
 |cons p r ih=>
  obtain⟨j,t⟩:=p
  obtain⟨h1,h2⟩:=h
  unfold ofL
  by_cases e:i=j
  ·subst e
   rw[show Nat.beq i i=true by simp,cond_true]
   exact .inr h1
  ·rw[nbeq e,cond_false]
   exact ih h2
end Go.Proofs.YtmmjbpgdkokjgaaGreatDoor
