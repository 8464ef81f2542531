/-
  A text of this claim. Conditions: none.
-/
import Derived.KernelRfl
import Derived.WalkKit
import Derived.WalkLawsBesides
set_option linter.unusedVariables false
set_option linter.unusedSimpArgs false
set_option maxRecDepth 100000
set_option maxHeartbeats 16000000
namespace Go.Proofs.YtmmjbpgdkokjgaaGreatDoor
open Go.RowKit
theorem atS :(∀(p:Prop) [Decidable p],(decide p=true)=p)∧(∀(p:Prop) [Decidable p],decide p=false↔ ¬p)∧(∀b:Bool,((!b)=true)=(b=false))∧(∀b:Bool,((!b)=false)=(b=true))∧(∀a b:Bool,((a&&b)=true)=(a=true∧b=true))∧(∀a b:Bool,((a||b)=true)=(a=true∨b=true))∧
 (∀a b:Bool,(a&&b)=false↔(a=false∨b=false))∧(∀a b:Bool,(a||b)=false↔(a=false∧b=false))∧(∀b:Bool,(¬b=true)=(b=false))∧(∀b:Bool,(¬b=false)=(b=true))∧(∀a b:Int,¬a<b↔b≤a)∧(∀a b:Int,¬a≤b↔b<a)∧((true=false)=False)∧((false=true)=False):=
 ⟨fun _ _=>decide_eq_true_eq,fun _ _=>decide_eq_false_iff_not,fun b=>by cases b<;>simp,fun b=>by cases b<;>simp,fun _ _=>Bool.and_eq_true ..,fun _ _=>Bool.or_eq_true ..,fun a b=>by cases a<;>cases b<;>simp,fun a b=>by cases a<;>cases b<;>simp,fun b=>by cases b<;>simp,fun b=>by cases b<;>simp,fun _ _=>Int.not_lt,fun _ _=>Int.not_le,by simp,by simp⟩
inductive D where
 |v (x:Value)
 |nl (z:Nat)
 |sl (z:Nat) (rows:List (List D))
 |agg (cs:List D)
 deriving Inhabited
inductive T where
 |d (x:D)
 |agg (cs:List T)
 |tup (cs:List T)
 |lp (l off:Nat)
 |og (k n:Nat)
 |ea (r:List D) (off:Nat)
 |eg (k n z i off:Nat)
 |clo (f:FuncId) (cs:List T)
 |ps (l n:Nat)
 |os (k n i:Nat)
 |ifc (ty:TypeId) (t:T)
 |any
 deriving Inhabited
abbrev Sto :=Nat→Nat→Option Value
inductive RD (σ:Sto):D→Value→Prop
 |v (x:Value):RD σ (.v x) x
 |nl (z:Nat):RD σ (.nl z) (.slice none 0 0)
 |nil (z:Nat) (A:Option Addr):RD σ (.sl z []) (.slice A 0 0)
 |sl (z:Nat) (rows:List (List D)) (b off cap:Nat) (U:Nat→Nat→Value)
   (hcap:rows.length≤cap) (hm:cap≤maxLen) (hz: ∀r∈rows,r.length=z)
   (hc: ∀i j,i<rows.length→j<z→σ b (off+i*z+j)=some (U i j)∧(U i j).oneCell'=true)
   (hr: ∀(i j:Nat) (r:List D) (x:D),rows[i]? =some r→r[j]? =some x→RD σ x (U i j)):
   RD σ (.sl z rows) (.slice (some ⟨b,off,none⟩) rows.length cap)
 |agg (cs:List D) (vs:List Value) (hl:cs.length=vs.length)
   (h: ∀(i:Nat) (x:D) (u:Value),cs[i]? =some x→vs[i]? =some u→RD σ x u):RD σ (.agg cs) (.agg vs.toArray)
theorem RD.mono {σ σ':Sto}(hs: ∀b o u,σ b o=some u→σ' b o=some u){d:D}{u:Value}(h:RD σ d u):RD σ' d u:=by
 induction h with
 |v x=>exact .v x
 |nl z=>exact .nl z
 |nil z A=>exact .nil z A
 |sl z rows b off cap U hcap hm hz hc hr ih=>exact .sl z rows b off cap U hcap hm hz (fun i j hi hj=>⟨hs _ _ _ (hc i j hi hj).1,(hc i j hi hj).2⟩) ih
 |agg cs vs hl h ih=>exact .agg cs vs hl ih
structure ObX where
 ok:Sto→(Nat→Option Obj)→(Nat→Prop)→Value→Prop
 mono: ∀ {σ σ':Sto} {h h':Nat→Option Obj} {F:Nat→Prop} {v:Value},(∀b o u,σ b o=some u→σ' b o=some u)→(∀b,F b→h' b=h b)→ok σ h F v→ok σ' h' F v
 one: ∀ {σ:Sto} {h:Nat→Option Obj} {F:Nat→Prop} {v:Value},ok σ h F v→v.oneCell'=true
 dat:Option D:=none
 read: ∀ {σ σ':Sto} {h:Nat→Option Obj} {F:Nat→Prop} {v:Value} {d:D},dat=some d→ok σ h F v→(∀b o u,σ b o=some u→σ' b o=some u)→
  (∀(b o:Nat) (cur:Array Value) (e:TypeId) (u:Value),F b→h b=some (.cells cur e (0,0))→cur[o]? =some u→σ' b o=some u)→RD σ' d v:=by intro σ σ' h F v d hd;cases hd
instance :Inhabited ObX:=⟨{ ok:=fun _ _ _ _=>False,mono:=fun _ _ h=>h,one:=fun h=>h.elim }⟩
inductive Ob where
 |pv (cs:List T)
 |gr (z:Nat) (e:TypeId) (rows:List (List D)) (n:Nat) (pub:Bool)
 |x (X:ObX) (n:Nat)
 |dead
 |new
 deriving Inhabited
structure St where
 tm:Nat→T
 ob:List Ob
structure Gh where
 σ:Sto
 γ:Nat→Nat→Value
 lim:Nat→Nat
 foot:Nat→Nat→Prop
structure Bs where
 σ:Sto
 own:Nat→Prop
 γ:Nat→Value
 m:Nat
inductive RT (g:Gh):T→Value→Prop
 |d (x:D) (u:Value) (h:RD g.σ x u):RT g (.d x) u
 |agg (cs:List T) (vs:List Value) (hl:cs.length=vs.length)
   (h: ∀(i:Nat) (x:T) (u:Value),cs[i]? =some x→vs[i]? =some u→RT g x u):RT g (.agg cs) (.agg vs.toArray)
 |tup (cs:List T) (vs:List Value) (hl:cs.length=vs.length)
   (h: ∀(i:Nat) (x:T) (u:Value),cs[i]? =some x→vs[i]? =some u→RT g x u):RT g (.tup cs) (.tuple vs.toArray)
 |lp (l off b:Nat) (h0:0<g.lim l) (h:g.γ l 0=.pointer (some ⟨b,0,none⟩)):RT g (.lp l off) (.pointer (some ⟨b,off,none⟩))
 |og (k n:Nat) (h:n<g.lim k):RT g (.og k n) (g.γ k n)
 |ea (r:List D) (off b o:Nat) (U:Nat→Value)
   (hc: ∀j,j<r.length→g.σ b (o+j)=some (U j)∧(U j).oneCell'=true)
   (hr: ∀(j:Nat) (x:D),r[j]? =some x→RD g.σ x (U j)):RT g (.ea r off) (.pointer (some ⟨b,o+off,none⟩))
 |eg (k n z i off b len cap:Nat) (h:n<g.lim k) (hg:g.γ k n=.slice (some ⟨b,0,none⟩) len cap):RT g (.eg k n z i off) (.pointer (some ⟨b,i*z+off,none⟩))
 |clo (f:FuncId) (cs:List T) (vs:List Value) (hl:cs.length=vs.length)
   (h: ∀(i:Nat) (x:T) (u:Value),cs[i]? =some x→vs[i]? =some u→RT g x u):RT g (.clo f cs) (.func (.func f) #[] vs.toArray)
 |ps (l n b:Nat) (h0:0<g.lim l) (h:g.γ l 0=.pointer (some ⟨b,0,none⟩)):RT g (.ps l n) (.slice (some ⟨b,0,none⟩) n n)
 |os (k n i b len cap:Nat) (h:n<g.lim k) (hg:g.γ k n=.slice (some ⟨b,0,none⟩) len cap) (hi:i<len):RT g (.os k n i) (.slice (some ⟨b,i,none⟩) (len - i) (cap - i))
 |ifc (ty:TypeId) (t:T) (u:Value) (h:RT g t u):RT g (.ifc ty t) (.iface ty u)
 |any (u:Value):RT g .any u
structure Gh.le (g g':Gh):Prop where
 σ: ∀b o u,g.σ b o=some u→g'.σ b o=some u
 γ: ∀k n,n<g.lim k→n<g'.lim k∧g'.γ k n=g.γ k n
theorem Gh.le_refl (g:Gh):g.le g:=⟨fun _ _ _ h=>h,fun _ _ h=>⟨h,rfl⟩⟩
theorem RT.mono {g g':Gh}(hg:g.le g'){t:T}{u:Value}(h:RT g t u):RT g' t u:=by
 induction h with
 |d x u h=>exact .d x u (h.mono hg.σ)
 |agg cs vs hl h ih=>exact .agg cs vs hl ih
 |tup cs vs hl h ih=>exact .tup cs vs hl ih
 |lp l off b h0 h=>exact .lp l off b (hg.γ l 0 h0).1 ((hg.γ l 0 h0).2.trans h)
 |og k n h=>rw[←(hg.γ k n h).2];exact .og k n (hg.γ k n h).1
 |ea r off b o U hc hr=>exact .ea r off b o U (fun j hj=>⟨hg.σ _ _ _ (hc j hj).1,(hc j hj).2⟩) (fun j x hx=>(hr j x hx).mono hg.σ)
 |eg k n z i off b len cap h hgk=>exact .eg k n z i off b len cap (hg.γ k n h).1 ((hg.γ k n h).2.trans hgk)
 |clo f cs vs hl h ih=>exact .clo f cs vs hl ih
 |ps l n b h0 h=>exact .ps l n b (hg.γ l 0 h0).1 ((hg.γ l 0 h0).2.trans h)
 |os k n i b len cap h hgk hi=>exact .os k n i b len cap (hg.γ k n h).1 ((hg.γ k n h).2.trans hgk) hi
 |ifc ty t u h ih=>exact .ifc ty t u ih
 |any u=>exact .any u
def Gh.at (g:Gh)(k:Nat):Ob→Nat→Prop
 |.pv _,b=>g.γ k 0=.pointer (some ⟨b,0,none⟩)
 |.gr _ _ _ n _,b=>(g.γ k n).ownBlock=some b
 |.x _ _,b=>g.foot k b
 |.dead,_=>False
 |.new,_=>False
def ObOK (mine:Nat→Prop)(g:Gh)(w:World)(k:Nat):Ob→Prop
 |.pv cs=>g.lim k=1∧ ∃(b:Nat) (vs:List Value) (e:TypeId),g.γ k 0=.pointer (some ⟨b,0,none⟩)∧mine b∧w.heap[b]? =some (.cells vs.toArray e (0,0))∧
   cs.length=vs.length∧(∀(i:Nat) (x:T) (u:Value),cs[i]? =some x→vs[i]? =some u→RT g x u)∧(∀u∈vs,u.oneCell'=true)∧ ∀o,g.σ b o=none
 |.gr z e rows n pub=>g.lim k=n+1∧ ∃xs:List Value,(w.ownsRow 0 e z (g.γ k n) rows.length xs∧ ∀b,(g.γ k n).ownBlock=some b→mine b)∧(∀r∈rows,r.length=z)∧
   (∀(i j:Nat) (r:List D) (x:D),rows[i]? =some r→r[j]? =some x→ ∃u,xs[i*z+j]? =some u∧RD g.σ x u)∧(∀u∈xs,u.oneCell'=true)∧
   ∀b,(g.γ k n).ownBlock=some b→if pub then ∀o,g.σ b o=xs[o]? else ∀o,g.σ b o=none
 |.x X n=>g.lim k=n+1∧X.ok g.σ (fun b=>w.heap[b]?) (g.foot k) (g.γ k n)∧ ∀b,g.foot k b→mine b∧b<w.heap.size∧ ∀o,g.σ b o=none
 |.dead=>True
 |.new=>g.lim k=0
structure BelowX (own:Nat→Prop) (w0 w:World):Prop where
 os:w.os=w0.os
 tape:w.tape=w0.tape
 output:w.output=w0.output
 size:w0.heap.size≤w.heap.size
 block: ∀k,k<w0.heap.size→¬own k→w.heap[k]? =w0.heap[k]?
theorem BelowX.refl (own:Nat→Prop)(w:World):BelowX own w w:=⟨rfl,rfl,rfl,Nat.le_refl _,fun _ _ _=>rfl⟩
theorem BelowX.then {own:Nat→Prop}{w0 w w':World}(h:BelowX own w0 w)(hos:w'.os=w.os)(ht:w'.tape=w.tape)(ho:w'.output=w.output)(hs:w.heap.size≤w'.heap.size)
 (hb: ∀k,k<w0.heap.size→¬own k→w'.heap[k]? =w.heap[k]?):BelowX own w0 w':=
 ⟨hos.trans h.os,ht.trans h.tape,ho.trans h.output,Nat.le_trans h.size hs,fun k hk hn=>(hb k hk hn).trans (h.block k hk hn)⟩
theorem BelowX.trans {own:Nat→Prop}{w0 w w':World}(h:BelowX own w0 w)(k:Below w.heap.size w w'):BelowX own w0 w':=
 h.then k.os k.tape k.output k.size fun b hb _=>k.block b (Nat.lt_of_lt_of_le hb h.size)
def mineB (w0:World)(B:Bs)(b:Nat):Prop:=w0.heap.size≤b∨B.own b
structure Inv (w0:World) (σ0:Bs) (ob:List Ob) (w:World) (g:Gh):Prop where
 below:BelowX σ0.own w0 w
 old: ∀b o,b<w0.heap.size→¬σ0.own b→g.σ b o=σ0.σ b o
 con: ∀b o u,g.σ b o=some u→w.cell? ⟨b,o,none⟩=some u
 obs: ∀(k:Nat) (o:Ob),ob[k]? =some o→ObOK (mineB w0 σ0) g w k o
 lim: ∀(k:Nat),ob.length≤k→g.lim k=0
 dis: ∀(k k':Nat) (o o':Ob) (b:Nat),k≠k'→ob[k]? =some o→ob[k']? =some o'→g.at k o b→¬g.at k' o' b
 ext: ∀k,k<σ0.m→g.lim k=0∨g.γ k 0=σ0.γ k
structure Nm where
 n:Nat
 m:Nat
structure Rel (N:Nm) (w0:World) (σ0:Bs) (S:St) (a:Act) (w:World) (g:Gh):Prop where
 inv:Inv w0 σ0 S.ob w g
 defers:a.defers=[]
 size:a.tmps.size=N.n
 hm:σ0.m=N.m
 hl:N.m≤S.ob.length
 tm: ∀i,RT g (S.tm i) (a.tmps.getD i undef)
inductive TK where
 |no|int (k:IntKind)|bool|string|slice (e:TypeId)|struct|other
structure TyI where
 kind:TK:=.no
 size:Nat:=1
 bytes:Nat:=8
 zero:List D:=[]
 offs:List (Nat×Nat×Bool):=[]
def zeroIs :D→Value→Bool
 |.v (.int k n),.int k' n'=>decide (k=k')&&decide (n=n')
 |.v (.bool b),.bool b'=>b==b'
 |.v (.string s),.string s'=>decide (s.data=s'.data)
 |.v (.pointer none),.pointer none=>true
 |.v (.map none),.map none=>true
 |.v .nilFunc,.nilFunc=>true
 |.v .nilIface,.nilIface=>true
 |.nl _,.slice none 0 0=>true
 |_,_=>false
def zerosAre :List D→List Value→Bool
 |[],[]=>true
 |d::r,v::s=>zeroIs d v&&v.oneCell'&&zerosAre r s
 |_,_=>false
def offsAre (P:Program):List (Nat×Nat×Bool)→List Field→Bool
 |[],[]=>true
 |(o,n,b)::r,f::s=>decide (f.offset=o)&&decide (P.cellsOf f.type=n)&&decide (n≠0)&&(P.info? f.type).isSome&&
    (match P.underlying f.type with|some (.struct _)=>b|some (.array ..)=>b|some _=> !b|none=>false)&&offsAre P r s
 |_,_=>false
def TyI.agg (i:TyI):Bool:=match i.kind with|.struct=>true|_=>false
def tyCheck (P:Program)(t:TypeId)(i:TyI):Bool:=
 (match P.info? t with
  |some f=>decide (f.size=i.size)&&decide (f.bytes=i.bytes)&&(match f.zero with|some z=>zerosAre i.zero z.cells.toList&&decide (z.cells.size=i.size)|none=>false)
  |none=>false)&&
 (match i.kind,P.underlying t with
  |.no,_=>false
  |.int k,some (.int k')=>decide (k=k')
  |.bool,some .bool=>true
  |.string,some .string=>true
  |.slice e,some (.slice e')=>decide (e=e')
  |.struct,some (.struct fs)=>offsAre P i.offs fs.toList
  |.other,some (.struct _)|.other,some (.array ..)|.other,none=>false
  |.other,some _=>true
  |_,_=>false)
structure Env where
 P:Program
 ty:TypeId→TyI
 ok: ∀t,(match (ty t).kind with|.no=>false|_=>true)=true→tyCheck P t (ty t)=true
def look :List (TypeId×TyI)→TypeId→TyI
 |[],_=>{}
 |(k,i)::r,t=>bif Nat.beq t k then i else look r t
theorem look_ok {P:Program}(tab:List (TypeId×TyI))(h:tab.all (fun p=>tyCheck P p.1 p.2)=true)(t:TypeId)
 (hk:(match (look tab t).kind with|.no=>false|_=>true)=true):tyCheck P t (look tab t)=true:=by
 induction tab with
 |nil=>simp[look] at hk
 |cons p r ih=>
  obtain⟨k,i⟩:=p
  simp only[List.all_cons,Bool.and_eq_true] at h
  unfold look at hk ⊢
  by_cases e:Nat.beq t k=true
  ·rw[e] at hk ⊢
   have:t=k:=Nat.eq_of_beq_eq_true e
   subst this
   exact h.1
  ·have e':Nat.beq t k=false:=Bool.eq_false_iff.2 e
   rw[e'] at hk ⊢
   exact ih h.2 hk
theorem nbeq {a b:Nat}(h:¬a=b):Nat.beq a b=false:=Bool.eq_false_iff.2 fun e=>h (Nat.eq_of_beq_eq_true e)
mutual
def T.under (n:Nat):T→Bool
 |.d _=>true
 |.agg cs=>T.underL n cs
 |.tup cs=>T.underL n cs
 |.lp l _=>Nat.blt l n
 |.og k _=>Nat.blt k n
 |.ea _ _=>true
 |.eg k _ _ _ _=>Nat.blt k n
 |.clo _ cs=>T.underL n cs
 |.ps l _=>Nat.blt l n
 |.os k _ _=>Nat.blt k n
 |.ifc _ t=>T.under n t
 |.any=>true
def T.underL (n:Nat):List T→Bool
 |[]=>true
 |t::r=>T.under n t&&T.underL n r
end
theorem T.underL_at {n:Nat}: ∀ {cs:List T},T.underL n cs=true→ ∀(i:Nat) (x:T),cs[i]? =some x→x.under n=true
 |[],_,i,x,hx=>by simp at hx
 |t::r,h,i,x,hx=>by
  simp only[T.underL,Bool.and_eq_true] at h
  cases i with
  |zero=>simp at hx;subst hx;exact h.1
  |succ i=>exact T.underL_at h.2 i x (by simpa using hx)
def Gh.trim (g:Gh)(n:Nat):Gh:={ g with lim:=fun k=>if k<n then g.lim k else 0 }
theorem RT.trim {g:Gh}{n:Nat}{t:T}{u:Value}(h:RT g t u)(hu:t.under n=true):RT (g.trim n) t u:=by
 induction h with
 |d x u h=>exact .d x u h
 |agg cs vs hl h ih=>exact .agg cs vs hl fun i x u hx hv=>ih i x u hx hv (T.underL_at (by simpa [T.under] using hu) i x hx)
 |tup cs vs hl h ih=>exact .tup cs vs hl fun i x u hx hv=>ih i x u hx hv (T.underL_at (by simpa [T.under] using hu) i x hx)
 |lp l off b h0 h=>
  have hl:l<n:=by simpa [T.under] using hu
  exact .lp l off b (by simpa [Gh.trim,hl] using h0) h
 |og k m h=>
  have hl:k<n:=by simpa [T.under] using hu
  exact .og (g:=g.trim n) k m (by simpa [Gh.trim,hl] using h)
 |ea r off b o U hc hr=>exact .ea r off b o U hc hr
 |eg k m z i off b len cap h hg=>
  have hl:k<n:=by simpa [T.under] using hu
  exact .eg k m z i off b len cap (by simpa [Gh.trim,hl] using h) hg
 |clo f cs vs hl h ih=>exact .clo f cs vs hl fun i x u hx hv=>ih i x u hx hv (T.underL_at (by simpa [T.under] using hu) i x hx)
 |ps l m b h0 h=>
  have hl:l<n:=by simpa [T.under] using hu
  exact .ps l m b (by simpa [Gh.trim,hl] using h0) h
 |os k m i b len cap h hg hi=>
  have hl:k<n:=by simpa [T.under] using hu
  exact .os k m i b len cap (by simpa [Gh.trim,hl] using h) hg hi
 |ifc ty t u h ih=>exact .ifc ty t u (ih (by simpa [T.under] using hu))
 |any u=>exact .any u
def Ob.under (n:Nat):Ob→Bool
 |.pv cs=>T.underL n cs
 |_=>true
def obsLe (n:Nat):List Ob→List Ob→Prop
 |[],_=>True
 |o::r,S=>o.under n=true∧(match S with|[]=>False|p::s=>(o=p∨o=.dead)∧obsLe n r s)
theorem obsLe_at {n:Nat}: ∀ {l S:List Ob},obsLe n l S→l.length≤S.length∧ ∀(k:Nat) (o:Ob),l[k]? =some o→o.under n=true∧(S[k]? =some o∨o=.dead)
 |[],S,_=>⟨Nat.zero_le _,fun k o h=>by simp at h⟩
 |o::r,[],h=>h.2.elim
 |o::r,p::s,h=>by
  obtain⟨hu,hp,hr⟩:=h
  obtain⟨hl,hk⟩:=obsLe_at hr
  refine⟨by simpa using hl,fun k q hq=>?_⟩
  cases k with
  |zero=>
   simp at hq;subst hq
   exact⟨hu,hp.imp (fun e=>by simp[e]) id⟩
  |succ k=>exact hk k q (by simpa using hq)
def St.le (N:Nm)(S S':St):Prop:=
 N.m≤S'.ob.length∧obsLe S'.ob.length S'.ob S.ob∧ ∀i,S'.tm i=.any∨(S.tm i=S'.tm i∧(S'.tm i).under S'.ob.length=true)
theorem Rel.weaken {N:Nm}{w0:World}{σ0:Bs}{S S':St}{a:Act}{w:World}{g:Gh}(h:St.le N S S')(r:Rel N w0 σ0 S a w g):
 ∃g',Rel N w0 σ0 S' a w g':=by
 obtain⟨hlm,hob,htm⟩:=h
 obtain⟨hlen,hk⟩:=obsLe_at hob
 have I:=r.inv
 have hlim: ∀k o,S'.ob[k]? =some o→(g.trim S'.ob.length).lim k=g.lim k:=fun k o ho=>by
  have:k<S'.ob.length:=(List.getElem?_eq_some_iff.1 ho).1
  simp[Gh.trim,this]
 refine⟨g.trim S'.ob.length,⟨⟨I.below,I.old,I.con,fun k o ho=>?_,fun k h=>by simp[Gh.trim];omega,fun k k' o o' b hne ho ho' hb=>?_,fun k hk=>?_⟩,r.defers,r.size,r.hm,hlm,fun i=>?_⟩⟩
 ·obtain⟨hu,ho2⟩:=hk k o ho
  rcases ho2 with ho2|rfl
  ·have:=I.obs k o ho2
   cases o with
   |pv cs=>
    obtain⟨h1,b,vs,e,h2,h3,h4,h5,h6,h7⟩:=this
    exact⟨(hlim k _ ho).trans h1,b,vs,e,h2,h3,h4,h5,fun i x u hx hv=>(h6 i x u hx hv).trim (T.underL_at hu i x hx),h7⟩
   |gr z e rows n pub=>exact⟨(hlim k _ ho).trans this.1,this.2⟩
   |x X n=>exact⟨(hlim k _ ho).trans this.1,this.2⟩
   |dead=>trivial
   |new=>exact(hlim k _ ho).trans this
  ·trivial
 ·obtain⟨_,h1⟩:=hk k o ho
  obtain⟨_,h2⟩:=hk k' o' ho'
  rcases h1 with h1|rfl
  ·rcases h2 with h2|rfl
   ·have e1:g.at k o b:=by cases o<;>exact hb
    have:=I.dis k k' o o' b hne h1 h2 e1
    cases o'<;>exact this
   ·simp[Gh.at]
  ·simp[Gh.at] at hb
 ·by_cases h:k<S'.ob.length
  ·simpa [Gh.trim,h] using I.ext k hk
  ·exact .inl (by simp[Gh.trim,h])
 ·rcases htm i with h|⟨h,hu⟩
  ·rw[h];exact .any _
  ·have:=r.tm i
   rw[h] at this
   exact this.trim hu
def lift (N:Nm)(w0:World)(σ0:Bs)(Q:Exit→St→Prop):Exit→Act→World→Prop:=fun e a w=> ∃S g,Q e S∧Rel N w0 σ0 S a w g
def W (P:Program)(N:Nm)(c:Code)(Q:Exit→St→Prop)(S:St):Prop:=
 ∀w0 σ0 a w g,Rel N w0 σ0 S a w g→c.wp P (lift N w0 σ0 Q) a w
def WL (P:Program)(N:Nm)(ops:List Oper)(l:List Oper)(Q:Exit→St→Prop)(S:St):Prop:=
 ∀w0 σ0 a w g,Rel N w0 σ0 S a w g→wpList P ops.toArray (lift N w0 σ0 Q) l a w
section
variable {P:Program}{N:Nm}{Q:Exit→St→Prop}{S:St}
theorem W.weaken {c:Code}(S':St)(h:St.le N S S')(k:W P N c Q S'):W P N c Q S:=fun w0 σ0 a w _ r=>
 let ⟨g',r'⟩:=r.weaken h;k w0 σ0 a w g' r'
theorem W.mono {c:Code}{Q':Exit→St→Prop}(h:W P N c Q S)(hq: ∀e S,Q e S→Q' e S):W P N c Q' S:=fun w0 σ0 a w g r=>
 wp_mono (h w0 σ0 a w g r) fun _ _ _ ⟨S,g,q,r⟩=>⟨S,g,hq _ _ q,r⟩
theorem W.skip (h:Q .normal S):W P N .skip Q S:=fun _ _ _ _ g r=>wp_skip ⟨S,g,h,r⟩
theorem W.ret (h:Q .ret S):W P N .ret Q S:=fun _ _ _ _ g r=>wp_ret ⟨S,g,h,r⟩
theorem W.exit {id:Nat}(h:Q (.exit id) S):W P N (.exit id) Q S:=fun _ _ _ _ g r=>wp_exit ⟨S,g,h,r⟩
def thenQ (P:Program)(N:Nm)(y:Code)(Q:Exit→St→Prop):Exit→St→Prop
 |.normal,S=>W P N y Q S
 |e,S=>Q e S
theorem W.seq {x y:Code}(h:W P N x (thenQ P N y Q) S):W P N (.seq x y) Q S:=fun w0 σ0 a w g r=>
 wp_seq (wp_mono (h w0 σ0 a w g r) fun e a' w' ⟨S',g',q,r'⟩=>by
  cases e with
  |normal=>exact q w0 σ0 a' w' g' r'
  |exit id=>exact⟨S',g',q,r'⟩
  |goto l=>exact⟨S',g',q,r'⟩
  |ret=>exact⟨S',g',q,r'⟩
  |panic ch=>exact⟨S',g',q,r'⟩
  |outgrown=>exact⟨S',g',q,r'⟩)
def inB (id:Nat)(Q:Exit→St→Prop):Exit→St→Prop
 |.exit k,S=>bif Nat.beq k id then Q .normal S else Q (.exit k) S
 |e,S=>Q e S
theorem W.block {id:Nat}{c:Code}(h:W P N c (inB id Q) S):W P N (.block id c) Q S:=fun w0 σ0 a w g r=>
 wp_block (wp_mono (h w0 σ0 a w g r) fun e a' w' ⟨S',g',q,r'⟩=>by
  cases e with
  |exit k=>
   simp only[inB] at q
   by_cases hk:k=id
   ·subst hk
    have hb:Nat.beq k k=true:=by simp
    rw[hb] at q
    simp only[Exit.inBlock,if_true]
    exact⟨S',g',q,r'⟩
   ·have hb:Nat.beq k id=false:=nbeq hk
    rw[hb] at q
    simp only[Exit.inBlock,if_neg hk]
    exact⟨S',g',q,r'⟩
  |normal=>exact⟨S',g',q,r'⟩
  |goto l=>exact⟨S',g',q,r'⟩
  |ret=>exact⟨S',g',q,r'⟩
  |panic ch=>exact⟨S',g',q,r'⟩
  |outgrown=>exact⟨S',g',q,r'⟩)
def St.ev (S:St):Operand→T
 |.tmp i=>S.tm i
 |.const v=>.d (.v v)
 |.func f=>.d (.v (.func (.func f) #[] #[]))
 |.global k=>.d (.v (.pointer (some ⟨k,0,none⟩)))
theorem Rel.ev {w0:World}{σ0:Bs}{a:Act}{w:World}{g:Gh}(r:Rel N w0 σ0 S a w g)(x:Operand):RT g (S.ev x) (a.eval x):=by
 cases x with
 |tmp i=>exact r.tm i
 |const v=>exact .d _ _ (.v v)
 |func f=>exact .d _ _ (.v _)
 |global k=>exact .d _ _ (.v _)
theorem RT.inv_v {g:Gh}{x u:Value}(h:RT g (.d (.v x)) u):u=x:=by
 cases h with
 |d _ _ h=>cases h;rfl
theorem W.cond {c:Operand}{x y:Code}{b:Bool}(hc:S.ev c=.d (.v (.bool b)):=by exact rfl)(ht:b=true→W P N x Q S)(hf:b=false→W P N y Q S):
 W P N (.cond c x y) Q S:=fun w0 σ0 a w g r=>by
 have h:=r.ev c
 rw[hc] at h
 have:=h.inv_v
 exact wp_cond_split this (fun e=>ht e w0 σ0 a w g r) (fun e=>hf e w0 σ0 a w g r)
theorem W.cond' {c:Operand}{x y:Code}{b:Bool}(ht:b=true→W P N x Q S)(hf:b=false→W P N y Q S)
 (hc:S.ev c=.d (.v (.bool b)):=by exact rfl):W P N (.cond c x y) Q S:=
 W.cond hc ht hf
theorem W.cond_true {c:Operand}{x y:Code}(hc:S.ev c=.d (.v (.bool true)):=by exact rfl)(h:W P N x Q S):W P N (.cond c x y) Q S:=
 W.cond hc (fun _=>h) (fun e=>by cases e)
theorem W.cond_true' {c:Operand}{x y:Code}(h:W P N x Q S)
 (hc:S.ev c=.d (.v (.bool true)):=by exact rfl):W P N (.cond c x y) Q S:=
 W.cond_true hc h
theorem W.cond_false {c:Operand}{x y:Code}(hc:S.ev c=.d (.v (.bool false)):=by exact rfl)(h:W P N y Q S):W P N (.cond c x y) Q S:=
 W.cond hc (fun e=>by cases e) (fun _=>h)
theorem W.cond_false' {c:Operand}{x y:Code}(h:W P N y Q S)
 (hc:S.ev c=.d (.v (.bool false)):=by exact rfl):W P N (.cond c x y) Q S:=
 W.cond_false hc h
theorem exists_least {p:Nat→Prop}(h: ∃n,p n): ∃n,p n∧ ∀m,p m→n≤m:=by
 obtain⟨n,hn⟩:=h
 induction n using Nat.strongRecOn with
 |_ n ih=>
  by_cases hm: ∃m,m<n∧p m
  ·obtain⟨m,hlt,hp⟩:=hm
   exact ih m hlt hp
  ·exact⟨n,hn,fun m hp=>by
    by_cases hl:n≤m
    ·exact hl
    ·exact(hm ⟨m,by omega,hp⟩).elim⟩
def loopQ (N:Nm)(I:Nat→St→Prop)(n:Nat)(Q:Exit→St→Prop):Exit→St→Prop
 |.normal,S=> ∃m S',m<n∧I m S'∧St.le N S S'
 |e,S=>Q e S
open Classical in
theorem W.loop {c:Code}(I:Nat→St→Prop)(n:Nat)(S':St)(h0:I n S')(hle:St.le N S S')(round: ∀n S,I n S→W P N c (loopQ N I n Q) S):
 W P N (.loop c) Q S:=fun w0 σ0 a w g r=>by
 let J:Act→World→Nat→Prop:=fun a w n=> ∃S g,I n S∧Rel N w0 σ0 S a w g
 have hμ: ∀a w,(∃n,J a w n)→ ∃n,J a w n∧ ∀m,J a w m→n≤m:=fun a w h=>exists_least h
 let μ:Act→World→Nat:=fun a w=>if h: ∃n,J a w n then Classical.choose (hμ a w h) else 0
 refine wp_loop (fun a w=> ∃n,J a w n) μ ?_ ?_
 ·obtain⟨g',r'⟩:=r.weaken hle
  exact⟨n,S',g',h0,r'⟩
 ·intro a w hI
  obtain⟨hJ,hleast⟩:=Classical.choose_spec (hμ a w hI)
  have hμe:μ a w=Classical.choose (hμ a w hI):=by simp only[μ];rw[dif_pos hI]
  rw[←hμe] at hJ hleast
  obtain⟨S1,g1,hI1,r1⟩:=hJ
  refine wp_mono (round _ _ hI1 w0 σ0 a w g1 r1) fun e a' w' ⟨S2,g2,q,r2⟩=>?_
  cases e with
  |normal=>
   obtain⟨m,S3,hm,hI3,hle3⟩:=q
   obtain⟨g3,r3⟩:=r2.weaken hle3
   have hex: ∃n,J a' w' n:=⟨m,S3,g3,hI3,r3⟩
   refine⟨hex,?_⟩
   have:=(Classical.choose_spec (hμ a' w' hex)).2 m ⟨S3,g3,hI3,r3⟩
   have e2:μ a' w'=Classical.choose (hμ a' w' hex):=by simp only[μ];rw[dif_pos hex]
   show μ a' w'<μ a w
   omega
  |exit id=>exact⟨S2,g2,q,r2⟩
  |goto l=>exact⟨S2,g2,q,r2⟩
  |ret=>exact⟨S2,g2,q,r2⟩
  |panic ch=>exact⟨S2,g2,q,r2⟩
  |outgrown=>exact⟨S2,g2,q,r2⟩
theorem W.region {id:Nat}{l:List Oper}(h:WL P N l l Q S):W P N (.region id l.toArray false) Q S:=fun w0 σ0 a w g r=>
 wp_region_lit (h w0 σ0 a w g r)
theorem W.join {id:Nat}{l:List Oper}(S1:St)(h:WL P N l l (fun e S'=>e=.normal∧St.le N S' S1) S)(k:Q .normal S1):W P N (.region id l.toArray false) Q S:=fun w0 σ0 a w g r=>
 wp_mono (wp_region_lit (h w0 σ0 a w g r)) fun e a' w' ⟨S',g',⟨he,hle⟩,r'⟩=>by
  subst he
  obtain⟨g2,r2⟩:=r'.weaken hle
  exact⟨S1,g2,k,r2⟩
theorem WL.nil {ops:List Oper}(h:Q .normal S):WL P N ops [] Q S:=fun _ _ _ _ g r=>⟨S,g,h,r⟩
def St.set (S:St)(i:Nat)(t:T):St:={ S with tm:=fun j=>bif Nat.beq j i then t else S.tm j }
def St.want (S:St)(ops:List Oper)(o:Oper):Option Bool:=
 match o.guard with
 |none=>some true
 |some (j,b)=>
  match ops[j]? with
  |some p=>match p.dst with
   |some d=>match S.tm d with
    |.d (.v (.bool c))=>some (bif b then c else !c)
    |.d (.v (.tuple _))=>some false
    |_=>none
   |none=>none
  |none=>none
theorem Rel.want {w0:World}{σ0:Bs}{a:Act}{w:World}{g:Gh}(r:Rel N w0 σ0 S a w g){ops:List Oper}{o:Oper}{b:Bool}
 (h:S.want ops o=some b):Region.wanted o (yielded ops.toArray a.tmps)=b:=by
 unfold St.want at h
 unfold Region.wanted
 split at h
 ·rename_i hg
  rw[hg];simpa using h
 ·rename_i j c hg
  rw[hg]
  simp only[]
  split at h
  ·rename_i p hp
   split at h
   ·rename_i d hd
    have hr:=r.tm d
    have hget:a.tmps.getD d undef=(a.tmps[d]?).getD undef:=by simp[Array.getD_eq_getD_getElem?]
    split at h
    ·rename_i x hx
     rw[hx] at hr
     have hv:=hr.inv_v
     rw[hget] at hv
     have hs:a.tmps[d]? =some (.bool x):=by
      cases hq:a.tmps[d]? with
      |none=>rw[hq] at hv;simp[undef] at hv
      |some y=>rw[hq] at hv;simp at hv;rw[hv]
     simp only[yielded,List.getElem?_toArray,hp,Option.bind_some,hd,hs]
     simp only[Option.some.injEq] at h
     subst h
     cases c<;>cases x<;>rfl
    ·rename_i vs hx
     rw[hx] at hr
     have hv:=hr.inv_v
     rw[hget] at hv
     simp only[Option.some.injEq] at h
     subst h
     simp only[yielded,List.getElem?_toArray,hp,Option.bind_some,hd]
     cases hq:a.tmps[d]? with
     |none=>simp
     |some y=>rw[hq] at hv;simp at hv;subst hv;simp
    ·cases h
   ·cases h
  ·cases h
theorem Rel.set {w0:World}{σ0:Bs}{a:Act}{w:World}{g:Gh}(r:Rel N w0 σ0 S a w g){d:Nat}(hd:d<N.n){t:T}{v:Value}(h:RT g t v):
 Rel N w0 σ0 (S.set d t) (a.put (some d) v) w g:=by
 refine⟨r.inv,r.defers,by simpa [Act.put] using r.size,r.hm,r.hl,fun i=>?_⟩
 simp only[St.set,Act.put,Array.getD_eq_getD_getElem?,Array.getElem?_setIfInBounds]
 by_cases e:i=d
 ·subst e
  have:Nat.beq i i=true:=by simp
  rw[this]
  have hs:i<a.tmps.size:=by rw[r.size];exact hd
  simpa [hs] using h
 ·have hb:Nat.beq i d=false:=nbeq e
  rw[hb]
  have e':¬d=i:=fun h=>e h.symm
  simp only[e',if_false,cond_false]
  have:=r.tm i
  rwa [Array.getD_eq_getD_getElem?] at this
theorem WL.pass {ops l:List Oper}{d:Nat}{op:Op}{ty:TypeId}{pos:String}{after:Array Edge}{gd:Option (Nat×Bool)}(hw:S.want ops ⟨some d,op,ty,pos,after,gd⟩=some false)(hd:Nat.blt d N.n=true)
 (k:WL P N ops l Q (S.set d (.d (.v undef)))):WL P N ops (⟨some d,op,ty,pos,after,gd⟩::l) Q S:=fun w0 σ0 a w g r=>by
 unfold wpList
 rw[if_neg (by rw[r.want hw];simp)]
 exact k w0 σ0 _ w g (r.set (by simpa using hd) (.d _ _ (.v _)))
theorem WL.passx {ops l:List Oper}{op:Op}{ty:TypeId}{pos:String}{after:Array Edge}{gd:Option (Nat×Bool)}(hw:S.want ops ⟨none,op,ty,pos,after,gd⟩=some false)
 (k:WL P N ops l Q S):WL P N ops (⟨none,op,ty,pos,after,gd⟩::l) Q S:=fun w0 σ0 a w g r=>by
 unfold wpList
 rw[if_neg (by rw[r.want hw];simp)]
 exact k w0 σ0 _ w g r
theorem WL.oper {ops l:List Oper}{o:Oper}(hw:S.want ops o=some true)
 (h: ∀w0 σ0 a w g,Rel N w0 σ0 S a w g→o.wp P a w (wpList P ops.toArray (lift N w0 σ0 Q) l) (lift N w0 σ0 Q)):WL P N ops (o::l) Q S:=fun w0 σ0 a w g r=>by
 unfold wpList
 rw[if_pos (r.want hw)]
 exact .inl (h w0 σ0 a w g r)
theorem WL.split {ops l:List Oper}{o p:Oper}{j d:Nat}{b c:Bool}(hg:o.guard=some (j,b))(hp:ops[j]? =some p)(hd:p.dst=some d)(hc:S.tm d=.d (.v (.bool c)))
 (ht:c=true→WL P N ops (o::l) Q (S.set d (.d (.v (.bool true))))) (hf:c=false→WL P N ops (o::l) Q (S.set d (.d (.v (.bool false))))):
 WL P N ops (o::l) Q S:=fun w0 σ0 a w g r=>by
 have same: ∀t,S.tm d=t→ ∀a w g,Rel N w0 σ0 S a w g→Rel N w0 σ0 (S.set d t) a w g:=fun t e a w g r=>⟨r.inv,r.defers,r.size,r.hm,r.hl,fun i=>by
  by_cases hi:i=d
  ·subst hi
   have:Nat.beq i i=true:=by simp
   simp only[St.set,this,cond_true]
   rw[←e];exact r.tm i
  ·have hb:Nat.beq i d=false:=nbeq hi
   simp only[St.set,hb,cond_false]
   exact r.tm i⟩
 cases c with
 |true=>exact ht rfl w0 σ0 a w g (same _ hc a w g r)
 |false=>exact hf rfl w0 σ0 a w g (same _ hc a w g r)
def argT (l:List T)(i:Nat):T:=match l[i]? with|some x=>x|none=>.any
def baseOf (ob:List Ob)(g:Gh):Bs:=⟨g.σ,fun b=> ∃k o,ob[k]? =some o∧g.at k o b,fun k=>g.γ k 0,ob.length⟩
def FnPostQ (w:World)(B:Bs)(R:T→List Ob→Prop)(e:Ending)(w':World):Prop:= ∃v t ob' g',e=.returned v∧R t ob'∧Inv w B ob' w' g'∧RT g' t v
def FnQ (P:Program)(f:FuncId)(args:List T)(ob:List Ob)(R:T→List Ob→Prop):Prop:=
 ∀(w:World) (g:Gh) (vals:List Value),Inv w (baseOf ob g) ob w g→vals.length=args.length→
  (∀(i:Nat) (x:T) (u:Value),args[i]? =some x→vals[i]? =some u→RT g x u)→Calls P f vals.toArray w (FnPostQ w (baseOf ob g) R)
def FinQ (m:Nat)(ob:List Ob)(tt:T)(R:T→List Ob→Prop):Prop:=
 ∀w0 σ0 w g v,σ0.m=m→Inv w0 σ0 ob w g→RT g tt v→ ∃t ob' g',R t ob'∧Inv w0 σ0 ob' w g'∧RT g' t v
def Fin (ob:List Ob)(tt:T)(ob':List Ob)(t:T):Prop:=
 ∀w0 σ0 w g v,Inv w0 σ0 ob w g→RT g tt v→ ∃g',Inv w0 σ0 ob' w g'∧RT g' t v
theorem Fin.q {m:Nat}{ob ob':List Ob}{tt t:T}{R:T→List Ob→Prop}(h:Fin ob tt ob' t)(hR:R t ob'):FinQ m ob tt R:=fun w0 σ0 w g v _ I hv=>
 let ⟨g',I',h'⟩:=h w0 σ0 w g v I hv;⟨t,ob',g',hR,I',h'⟩
def resOf (S:St):ResultVar→Option T
 |.tmp i=>some (S.tm i)
 |.cell a _=>match S.tm a with
  |.lp l off=>match S.ob[l]? with
   |some (.pv cs)=>bif Nat.beq off 0 then some (.agg cs) else none
   |_=>none
  |_=>none
def resL (S:St):List ResultVar→Option (List T)
 |[]=>some []
 |x::r=>match resOf S x,resL S r with
  |some t,some ts=>some (t::ts)
  |_,_=>none
def resT :List T→T
 |[t]=>t
 |ts=>.tup ts
def resOK (P:Program)(S:St):List ResultVar→Prop
 |[]=>True
 |.tmp _::r=>resOK P S r
 |.cell a t::r=>(∃fs,P.underlying t=some (.struct fs))∧(match S.tm a with
   |.lp l _=>match S.ob[l]? with|some (.pv cs)=>P.cellsOf t=cs.length∧(P.info? t).isSome=true|_=>False
   |_=>False)∧resOK P S r
def RetR (P:Program)(fn:Func)(m:Nat)(R:T→List Ob→Prop):Exit→St→Prop:=fun e S=>
 (e=.ret∨e=.normal)∧ ∃ts,resL S fn.results.toList=some ts∧resOK P S fn.results.toList∧FinQ m S.ob (resT ts) R
def just (t:T)(ob:List Ob):T→List Ob→Prop:=fun t' ob'=>t'=t∧ob'=ob
def RetQ (P:Program)(fn:Func)(t:T)(ob:List Ob):Exit→St→Prop:=fun e S=>
 (e=.ret∨e=.normal)∧ ∃ts,resL S fn.results.toList=some ts∧resOK P S fn.results.toList∧Fin S.ob (resT ts) ob t
theorem RetQ.r {P:Program}{fn:Func}{m:Nat}{t:T}{ob:List Ob}{R:T→List Ob→Prop}(hR:R t ob){e:Exit}{S:St}(h:RetQ P fn t ob e S):RetR P fn m R e S:=
 ⟨h.1,let ⟨ts,h1,h2,h3⟩:=h.2;⟨ts,h1,h2,h3.q hR⟩⟩
end
theorem cell_of_heap {w:World}{b:Nat}{vs:List Value}{e:TypeId}(h:w.heap[b]? =some (.cells vs.toArray e (0,0)))(o:Nat):w.cell? ⟨b,o,none⟩=vs[o]? :=by
 simp[World.cell?,h]
theorem run_loadVar_struct {P:Program}{t:TypeId}{fs:Array Field}{i:TypeInfo}{w:World}(hu:P.underlying t=some (.struct fs))(hi:P.info? t=some i)
 (a:Addr) (cs:List Value) (hn:i.size=cs.length) (h: ∀(j:Nat) (v:Value),cs[j]? =some v→w.cell? (a.add j)=some v):
 (loadVar t a).run P w=.ok (.agg cs.toArray) w:=by
 have h1:=run_loadCells_list (P:=P) (w:=w) a cs h
 simp[loadVar,isAgg,run_underlying hu,sizeOf,typeInfo,hi,hn,h1]
theorem RD.inv_agg {σ:Sto}{cs:List D}{u:Value}(h:RD σ (.agg cs) u): ∃vs:List Value,u=.agg vs.toArray∧cs.length=vs.length∧ ∀(i:Nat) (x:D) (u:Value),cs[i]? =some x→vs[i]? =some u→RD σ x u:=by
 cases h with
 |agg _ vs hl h=>exact⟨vs,rfl,hl,h⟩
theorem RT.inv_d {g:Gh}{x:D}{u:Value}(h:RT g (.d x) u):RD g.σ x u:=by cases h;assumption
theorem RT.inv_agg {g:Gh}{cs:List T}{u:Value}(h:RT g (.agg cs) u): ∃vs:List Value,u=.agg vs.toArray∧cs.length=vs.length∧ ∀(i:Nat) (x:T) (u:Value),cs[i]? =some x→vs[i]? =some u→RT g x u:=by
 cases h with
 |agg _ vs hl h=>exact⟨vs,rfl,hl,h⟩
theorem RT.inv_tup {g:Gh}{cs:List T}{u:Value}(h:RT g (.tup cs) u): ∃vs:List Value,u=.tuple vs.toArray∧cs.length=vs.length∧ ∀(i:Nat) (x:T) (u:Value),cs[i]? =some x→vs[i]? =some u→RT g x u:=by
 cases h with
 |tup _ vs hl h=>exact⟨vs,rfl,hl,h⟩
theorem RT.inv_og {g:Gh}{k n:Nat}{u:Value}(h:RT g (.og k n) u):n<g.lim k∧u=g.γ k n:=by
 cases h;exact⟨‹_›,rfl⟩
theorem RT.inv_lp {g:Gh}{l off:Nat}{u:Value}(h:RT g (.lp l off) u): ∃b,0<g.lim l∧g.γ l 0=.pointer (some ⟨b,0,none⟩)∧u=.pointer (some ⟨b,off,none⟩):=by
 cases h;exact⟨_,‹_›,‹_›,rfl⟩
theorem RT.inv_os {g:Gh}{k n i:Nat}{u:Value}(h:RT g (.os k n i) u): ∃b len cap,n<g.lim k∧g.γ k n=.slice (some ⟨b,0,none⟩) len cap∧i<len∧u=.slice (some ⟨b,i,none⟩) (len - i) (cap - i):=by
 cases h;exact⟨_,_,_,‹_›,‹_›,‹_›,rfl⟩
theorem RT.inv_ps {g:Gh}{l n:Nat}{u:Value}(h:RT g (.ps l n) u): ∃b,0<g.lim l∧g.γ l 0=.pointer (some ⟨b,0,none⟩)∧u=.slice (some ⟨b,0,none⟩) n n:=by
 cases h;exact⟨_,‹_›,‹_›,rfl⟩
theorem RT.inv_ifc {g:Gh}{ty:TypeId}{t:T}{u:Value}(h:RT g (.ifc ty t) u): ∃v,u=.iface ty v∧RT g t v:=by
 cases h;exact⟨_,rfl,‹_›⟩
section
variable {P:Program}{N:Nm}{S:St}{w0:World}{σ0:Bs}{a:Act}{w:World}{g:Gh}
def resultOf (tmps:Array Value):ResultVar→Sem Value
 |.tmp t=>pure (tmps.getD t undef)
 |.cell a t=>do loadVar t (←asAddr (tmps.getD a undef))
theorem results_eq (fn:Func)(tmps:Array Value):
 Go.results fn tmps=(fn.results.mapM (resultOf tmps) >>= fun vs=>pure (if h:vs.size=1 then vs[0] else .tuple vs)):=by
 unfold Go.results
 refine congrArg (fun f=>fn.results.mapM f >>= _) ?_
 funext x
 cases x<;>rfl
theorem Rel.res1 (r:Rel N w0 σ0 S a w g){x:ResultVar}{t:T}(ht:resOf S x=some t)(hok:resOK P S [x]):
 ∃v,(resultOf a.tmps x).run P w=.ok v w∧RT g t v:=by
 cases x with
 |tmp i=>
  simp only[resOf,Option.some.injEq] at ht
  subst ht
  exact⟨_,by simp[resultOf],r.tm i⟩
 |cell p ty=>
  simp only[resOf] at ht
  obtain⟨⟨fs,hu⟩,hsz,_⟩:=hok
  cases hp:S.tm p with
  |lp l off=>
   rw[hp] at ht hsz
   simp only[] at ht hsz
   cases hl:S.ob[l]? with
   |none=>rw[hl] at ht;cases ht
   |some o=>
    cases o with
    |pv cs=>
     rw[hl] at ht hsz
     simp only[] at ht hsz
     have hoff:off=0:=by
      by_cases h:off=0
      ·exact h
      ·rw[nbeq h] at ht;cases ht
     subst hoff
     rw[show Nat.beq 0 0=true from rfl] at ht
     simp only[cond_true,Option.some.injEq] at ht
     subst ht
     obtain⟨b,h0,hγ,hv⟩:=(show RT g (.lp l 0) _ from hp▸r.tm p).inv_lp
     obtain⟨_,b',vs,e,hγ',hb,hh,hlen,hcs,h1,hσ⟩:=r.inv.obs l _ hl
     rw[hγ] at hγ'
     injection hγ' with e1;injection e1 with e1;injection e1 with e1 _ _
     subst e1
     obtain⟨hc,hi⟩:=hsz
     obtain⟨inf,hinf⟩:=Option.isSome_iff_exists.1 hi
     refine⟨.agg vs.toArray,?_,.agg cs vs hlen hcs⟩
     have hl:=run_loadVar_struct (w:=w) hu hinf ⟨b,0,none⟩ vs (by have:inf.size=cs.length:=(by simpa [Program.cellsOf,hinf] using hc);omega) (fun j v hj=>by rw[Addr.add_lit,cell_of_heap hh];simpa using hj)
     simp only[resultOf,hv,asAddr]
     simpa using hl
    |gr _ _ _ _ _=>rw[hl] at ht;cases ht
    |x _ _=>rw[hl] at ht;cases ht
    |dead=>rw[hl] at ht;cases ht
    |new=>rw[hl] at ht;cases ht
  |d _=>rw[hp] at ht;cases ht
  |agg _=>rw[hp] at ht;cases ht
  |tup _=>rw[hp] at ht;cases ht
  |og _ _=>rw[hp] at ht;cases ht
  |ea _ _=>rw[hp] at ht;cases ht
  |eg _ _ _ _ _=>rw[hp] at ht;cases ht
  |clo _ _=>rw[hp] at ht;cases ht
  |ps _ _=>rw[hp] at ht;cases ht
  |os _ _ _=>rw[hp] at ht;cases ht
  |ifc _ _=>rw[hp] at ht;cases ht
  |any=>rw[hp] at ht;cases ht
theorem Rel.runL (r:Rel N w0 σ0 S a w g): ∀(l:List ResultVar) (ts:List T),resL S l=some ts→resOK P S l→
 ∃vs:List Value,(l.mapM (resultOf a.tmps)).run P w=.ok vs w∧ts.length=vs.length∧ ∀(i:Nat) (x:T) (u:Value),ts[i]? =some x→vs[i]? =some u→RT g x u
 |[],ts,h,_=>by
  simp only[resL,Option.some.injEq] at h
  subst h
  exact⟨[],by simp,rfl,fun i x u hx=>by simp at hx⟩
 |x::l,ts,h,hok=>by
  unfold Go.Proofs.YtmmjbpgdkokjgaaGreatDoor.resL at h
  cases h1:resOf S x with
  |none=>rw[h1] at h;cases h
  |some t=>
   cases h2:Go.Proofs.YtmmjbpgdkokjgaaGreatDoor.resL S l with
   |none=>rw[h1,h2] at h;cases h
   |some ts'=>
    rw[h1,h2] at h
    simp only[Option.some.injEq] at h
    subst h
    have hok1:resOK P S [x]:=by
     cases x with
     |tmp i=>trivial
     |cell p ty=>exact⟨hok.1,hok.2.1,trivial⟩
    have hok2:resOK P S l:=by
     cases x with
     |tmp i=>exact hok
     |cell p ty=>exact hok.2.2
    obtain⟨v,hv,hr⟩:=r.res1 h1 hok1
    obtain⟨vs,hvs,hlen,hrs⟩:=Rel.runL r l ts' h2 hok2
    refine⟨v::vs,by simp[List.mapM_cons,hv,hvs],by simp[hlen],fun i y u hy hu=>?_⟩
    cases i with
    |zero=>simp at hy hu;subst hy;subst hu;exact hr
    |succ i=>exact hrs i y u (by simpa using hy) (by simpa using hu)
theorem Rel.results (r:Rel N w0 σ0 S a w g)(fn:Func){ts:List T}(h:Go.Proofs.YtmmjbpgdkokjgaaGreatDoor.resL S fn.results.toList=some ts)(hok:resOK P S fn.results.toList):
 ∃v,(Go.results fn a.tmps).run P w=.ok v w∧RT g (resT ts) v:=by
 obtain⟨vs,hvs,hlen,hrs⟩:=r.runL fn.results.toList ts h hok
 rw[results_eq,Array.mapM_eq_mapM_toList]
 simp only[Sem.run_bind,Sem.run_map,hvs,Result.andThen_ok,Sem.run_pure]
 refine⟨_,rfl,?_⟩
 match vs,ts,hlen,hrs with
 |[],[],_,hrs=>exact .tup [] [] rfl hrs
 |[v],[t],_,hrs=>exact hrs 0 t v rfl rfl
 |v::v'::vs,t::t'::ts,hlen,hrs=>exact .tup (t::t'::ts) (v::v'::vs) hlen hrs
end
theorem FnQ.intro {P:Program}{f:FuncId}{fn:Func}{c:Code}{args:List T}{ob:List Ob}{R:T→List Ob→Prop}(hf:P.funcs[f]? =some fn)(hb:fn.body=some c)
 (hn:args.length≤fn.ntmps) (h:W P ⟨fn.ntmps,ob.length⟩ c (RetR P fn ob.length R) ⟨argT args,ob⟩):FnQ P f args ob R:=by
 intro w g0 vals hI hlen hR
 refine calls_of_wp hf hb ?_
 have hrel:Rel ⟨fn.ntmps,ob.length⟩ w (baseOf ob g0) ⟨argT args,ob⟩ { tmps:=vals.toArray++Array.replicate (fn.ntmps - vals.toArray.size) undef,defers:=[] } w g0:=by
  refine⟨hI,rfl,by simp;omega,rfl,Nat.le_refl _,fun i=>?_⟩
  simp only[argT]
  cases hi:args[i]? with
  |none=>exact .any _
  |some x=>
   have hlt:i<args.length:=(List.getElem?_eq_some_iff.1 hi).1
   have hlt':i<vals.length:=by omega
   refine hR i x _ hi ?_
   simp[Array.getD_eq_getD_getElem?,Array.getElem?_append,hlt']
 refine wp_mono (h w _ _ w _ hrel) fun e a' w' ⟨S,g,⟨he,ts,h1,h2,h3⟩,r⟩=>?_
 obtain⟨v,hv,hrt⟩:=r.results fn h1 h2
 obtain⟨t,ob',g',hQ,hI',hrt'⟩:=h3 _ _ _ _ _ rfl r.inv hrt
 rcases he with rfl|rfl
 ·exact⟨r.defers,v,hv,v,t,ob',g',rfl,hQ,hI',hrt'⟩
 ·exact⟨r.defers,v,hv,v,t,ob',g',rfl,hQ,hI',hrt'⟩
theorem ObOK.mono {mine:Nat→Prop}{g g':Gh}{w w':World}{k:Nat}{o:Ob}(h:ObOK mine g w k o)(hg:g.le g')(hlim:g'.lim k=g.lim k)(hft:g'.foot k=g.foot k)
 (hb: ∀b,g.at k o b→w'.heap[b]? =w.heap[b]? ∧ ∀x,g'.σ b x=g.σ b x) (hs:w.heap.size≤w'.heap.size):ObOK mine g' w' k o:=by
 cases o with
 |pv cs=>
  obtain⟨h1,b,vs,e,h2,h3,h4,h5,h6,h7,h8⟩:=h
  have hg0:g'.γ k 0=g.γ k 0:=(hg.γ k 0 (by omega)).2
  have hbb:=hb b (by simp[Gh.at,h2])
  exact⟨hlim.trans h1,b,vs,e,hg0.trans h2,h3,hbb.1.trans h4,h5,fun i x u hx hu=>(h6 i x u hx hu).mono hg,h7,fun x=>(hbb.2 x).trans (h8 x)⟩
 |gr z e rows n pub=>
  obtain⟨h1,xs,⟨h2,h2m⟩,h3,h4,h5,h6⟩:=h
  have hg0:g'.γ k n=g.γ k n:=(hg.γ k n (by omega)).2
  refine⟨hlim.trans h1,xs,⟨?_,by rw[hg0];exact h2m⟩,h3,fun i j r x hr hx=>let ⟨u,hu,hd⟩:=h4 i j r x hr hx;⟨u,hu,hd.mono hg.σ⟩,h5,fun b hbk=>?_⟩
  ·rw[hg0]
   refine⟨h2.1,?_⟩
   rcases h2.2 with hn|⟨b,cap,cur,hv,hg1,hh,rest⟩
   ·exact .inl hn
   ·exact .inr ⟨b,cap,cur,hv,hg1,((hb b (by simp[Gh.at,hv,Value.ownBlock])).1).trans hh,rest⟩
  ·rw[hg0] at hbk
   have:=h6 b hbk
   have hs:=(hb b (by simp[Gh.at,hbk])).2
   cases pub with
   |true=>simp only[if_true] at this ⊢;exact fun x=>(hs x).trans (this x)
   |false=>simp only[Bool.false_eq_true,if_false] at this ⊢;exact fun x=>(hs x).trans (this x)
 |x X n=>
  obtain⟨h1,h2,h3⟩:=h
  have hg0:g'.γ k n=g.γ k n:=(hg.γ k n (by omega)).2
  refine⟨hlim.trans h1,?_,fun b hb'=>?_⟩
  ·rw[hg0,hft]
   exact X.mono hg.σ (fun b hb'=>(hb b hb').1) h2
  ·rw[hft] at hb'
   obtain⟨h4,h5,h6⟩:=h3 b hb'
   exact⟨h4,by omega,fun x=>((hb b hb').2 x).trans (h6 x)⟩
 |dead=>trivial
 |new=>exact hlim.trans h
theorem Gh.at_mono {g g':Gh}(hg:g.le g'){mine:Nat→Prop}{w:World}{k:Nat}{o:Ob}(h:ObOK mine g w k o)(hft:g'.foot k=g.foot k)(b:Nat):g'.at k o b↔g.at k o b:=by
 cases o with
 |pv cs=>
  have hg0:g'.γ k 0=g.γ k 0:=(hg.γ k 0 (by have:=h.1;omega)).2
  simp[Gh.at,hg0]
 |gr z e rows n pub=>
  have hg0:g'.γ k n=g.γ k n:=(hg.γ k n (by have:=h.1;omega)).2
  simp[Gh.at,hg0]
 |x X n=>simp[Gh.at,hft]
 |dead=>exact Iff.rfl
 |new=>exact Iff.rfl
theorem ObOK.at_lt {mine:Nat→Prop}{g:Gh}{w:World}{k:Nat}{o:Ob}(h:ObOK mine g w k o){b:Nat}(hb:g.at k o b):mine b∧b<w.heap.size:=by
 cases o with
 |pv cs=>
  obtain⟨h1,b',vs,e,h2,h3,h4,_⟩:=h
  simp only[Gh.at,h2,Value.pointer.injEq,Option.some.injEq,Addr.mk.injEq,and_true] at hb
  subst hb
  exact⟨h3,(Array.getElem?_eq_some_iff.1 h4).1⟩
 |gr z e rows n pub=>
  obtain⟨h1,xs,⟨h2,h2m⟩,_⟩:=h
  exact⟨h2m b hb,(h2.lt b hb).2⟩
 |x X n=>exact⟨(h.2.2 b hb).1,(h.2.2 b hb).2.1⟩
 |dead=>exact hb.elim
 |new=>exact hb.elim
theorem ObOK.hid {mine:Nat→Prop}{g:Gh}{w:World}{k:Nat}{o:Ob}(h:ObOK mine g w k o)(ho: ∀z e rows n,o≠ .gr z e rows n true){b:Nat}(hb:g.at k o b)(x:Nat):g.σ b x=none:=by
 cases o with
 |pv cs=>
  obtain⟨h1,b',vs,e,h2,h3,h4,_,_,_,h8⟩:=h
  simp only[Gh.at,h2,Value.pointer.injEq,Option.some.injEq,Addr.mk.injEq,and_true] at hb
  subst hb
  exact h8 x
 |gr z e rows n pub=>
  cases pub with
  |true=>exact(ho z e rows n rfl).elim
  |false=>
   obtain⟨h1,xs,_,_,_,_,h6⟩:=h
   have:=h6 b hb
   simp only[Bool.false_eq_true,if_false] at this
   exact this x
 |x X n=>exact(h.2.2 b hb).2.2 x
 |dead=>exact hb.elim
 |new=>exact hb.elim
theorem Inv.pub {w0:World}{σ0:Bs}{ob:List Ob}{w:World}{g:Gh}(I:Inv w0 σ0 ob w g){k z:Nat}{e:TypeId}{rows:List (List D)}{n:Nat}
 (hk:ob[k]? =some (.gr z e rows n false)): ∃g',g.le g'∧g'.lim=g.lim∧Inv w0 σ0 (ob.set k (.gr z e rows n true)) w g':=by
 have hlt:k<ob.length:=(List.getElem?_eq_some_iff.1 hk).1
 obtain⟨h1,xs,⟨h2,h2m⟩,h3,h4,h5,h6⟩:=I.obs k _ hk
 let g':Gh:={ g with σ:=fun b o=>if(g.γ k n).ownBlock=some b then xs[o]? else g.σ b o }
 have hle:g.le g':=⟨fun b o u hu=>by
  by_cases hb:(g.γ k n).ownBlock=some b
  ·have h6':=h6 b hb
   simp only[Bool.false_eq_true,if_false] at h6'
   rw[h6' o] at hu
   cases hu
  ·simpa [g',hb] using hu,fun k n hn=>⟨hn,rfl⟩⟩
 refine⟨g',hle,rfl,I.below,fun b o hb hn=>?_,fun b o u hu=>?_,fun j o ho=>?_,fun j hj=>I.lim j (by simpa using hj),fun i j o o' b hne ho ho' hb=>?_,I.ext⟩
 ·have:¬(g.γ k n).ownBlock=some b:=fun e=>by
   rcases h2m b e with h|h
   ·omega
   ·exact hn h
  simpa [g',this] using I.old b o hb hn
 ·by_cases hb:(g.γ k n).ownBlock=some b
  ·simp only[g',hb,if_true] at hu
   have:=h2.cells hb o u hu
   rwa [Addr.add_lit,Nat.zero_add] at this
  ·simp only[g',hb,if_false] at hu
   exact I.con b o u hu
 ·by_cases hj:k=j
  ·subst hj
   rw[List.getElem?_set_self hlt] at ho
   simp only[Option.some.injEq] at ho
   subst ho
   refine⟨h1,xs,⟨h2,h2m⟩,h3,fun i j r x hr hx=>let ⟨u,hu,hd⟩:=h4 i j r x hr hx;⟨u,hu,hd.mono hle.σ⟩,h5,fun b hb=>?_⟩
   simp only[if_true]
   intro o
   show(if(g.γ k n).ownBlock=some b then xs[o]? else g.σ b o)=xs[o]?
   rw[if_pos hb]
  ·rw[List.getElem?_set_ne hj] at ho
   refine(I.obs j o ho).mono hle rfl rfl (fun b hb=>⟨rfl,fun x=>?_⟩) (Nat.le_refl _)
   have:¬(g.γ k n).ownBlock=some b:=fun e=>I.dis k j _ o b hj hk ho (by simpa [Gh.at] using e) hb
   simp[g',this]
 ·have same: ∀(i:Nat) (o:Ob),(ob.set k (.gr z e rows n true))[i]? =some o→ ∃p,ob[i]? =some p∧ ∀(b:Nat),g'.at i o b→g.at i p b:=by
   intro i o ho
   by_cases hi:k=i
   ·subst hi
    rw[List.getElem?_set_self hlt] at ho
    simp only[Option.some.injEq] at ho
    subst ho
    exact⟨_,hk,fun b hb=>hb⟩
   ·rw[List.getElem?_set_ne hi] at ho
    exact⟨o,ho,fun b hb=>by rwa [Gh.at_mono hle (I.obs i o ho) rfl] at hb⟩
  obtain⟨p,hp,hpb⟩:=same i o ho
  obtain⟨q,hq,hqb⟩:=same j o' ho'
  exact fun e=>I.dis i j p q b hne hp hq (hpb b hb) (hqb b e)
theorem W.pub {P:Program}{N:Nm}{c:Code}{Q:Exit→St→Prop}{S:St}(k:Nat){z:Nat}{e:TypeId}{rows:List (List D)}{n:Nat}
 (hk:S.ob[k]? =some (.gr z e rows n false)) (h:W P N c Q { S with ob:=S.ob.set k (.gr z e rows n true) }):W P N c Q S:=fun w0 σ0 a w g r=>by
 obtain⟨g',hle,hlim,I⟩:=r.inv.pub hk
 exact h w0 σ0 a w g' ⟨I,r.defers,r.size,r.hm,by simpa using r.hl,fun i=>(r.tm i).mono hle⟩
theorem Inv.read {w0:World}{σ0:Bs}{ob:List Ob}{w:World}{g:Gh}(I:Inv w0 σ0 ob w g){k z:Nat}{e:TypeId}{rows:List (List D)}{n:Nat}
 (hk:ob[k]? =some (.gr z e rows n true)):RD g.σ (.sl z rows) (g.γ k n):=by
 obtain⟨h1,xs,⟨h2,h2m⟩,h3,h4,h5,h6⟩:=I.obs k _ hk
 rcases h2.2 with⟨hv,hn⟩|⟨b,cap,cur,hv,hb,hh,hcap,hm,hcs,hxs⟩
 ·rw[hv]
  have:rows=[]:=List.eq_nil_of_length_eq_zero hn
  subst this
  exact .nil z none
 ·rw[hv]
  have h6b:=h6 b (by rw[hv];rfl)
  simp only[if_true] at h6b
  have hlen:=h2.1
  have hin: ∀i j,i<rows.length→j<z→i*z+j<xs.length:=fun i j hi hj=>by
   rw[hlen]
   calc i*z+j<i*z+z:=by omega
    _=(i+1)*z:=by rw[Nat.add_mul];omega
    _≤rows.length*z:=Nat.mul_le_mul_right _ hi
  refine .sl z rows b 0 cap (fun i j=>(xs[i*z+j]?).getD undef) hcap hm h3 (fun i j hi hj=>?_) (fun i j r x hr hx=>?_)
  ·have hlt:=hin i j hi hj
   rw[Nat.zero_add,h6b,List.getElem?_eq_getElem hlt]
   exact⟨rfl,h5 _ (List.getElem_mem hlt)⟩
  ·obtain⟨u,hu,hd⟩:=h4 i j r x hr hx
   rw[hu]
   exact hd
theorem RD.inv_nl {σ:Sto}{z:Nat}{u:Value}(h:RD σ (.nl z) u):u=.slice none 0 0:=by cases h;rfl
def D.fix1 :D→D
 |.nl z=>.sl z []
 |x=>x
def D.fix :D→D
 |.agg cs=>.agg (cs.map D.fix1)
 |x=>x.fix1
theorem RD.fix1 {σ:Sto}{d:D}{u:Value}(h:RD σ d u):RD σ d.fix1 u:=by
 cases d with
 |nl z=>have:=h.inv_nl;subst this;exact .nil z none
 |_=>exact h
theorem RD.fix {σ:Sto}{d:D}{u:Value}(h:RD σ d u):RD σ d.fix u:=by
 cases d with
 |agg cs=>
  obtain⟨vs,rfl,hl,hr⟩:=h.inv_agg
  refine .agg _ vs (by simpa using hl) fun i x u hx hu=>?_
  simp only[List.getElem?_map,Option.map_eq_some_iff] at hx
  obtain⟨y,hy,rfl⟩:=hx
  exact(hr i y u hy hu).fix1
 |_=>exact h.fix1
def allD :List T→Option (List D)
 |[]=>some []
 |.d x::r=>match allD r with|some xs=>some (x::xs)|none=>none
 |_::_=>none
def mkAgg (cs:List T):T:=match allD cs with|some xs=>.d (.agg xs)|none=>.agg cs
theorem allD_at : ∀ {cs:List T} {xs:List D},allD cs=some xs→cs=xs.map .d
 |[],xs,h=>by simp[allD] at h;subst h;rfl
 |.d x::r,xs,h=>by
  simp only[allD] at h
  cases hr:allD r with
  |none=>rw[hr] at h;cases h
  |some ys=>
   rw[hr] at h
   simp only[Option.some.injEq] at h
   subst h
   rw[allD_at hr];rfl
 |.agg _::_,xs,h=>by simp[allD] at h
 |.tup _::_,xs,h=>by simp[allD] at h
 |.lp _ _::_,xs,h=>by simp[allD] at h
 |.og _ _::_,xs,h=>by simp[allD] at h
 |.ea _ _::_,xs,h=>by simp[allD] at h
 |.eg _ _ _ _ _::_,xs,h=>by simp[allD] at h
 |.clo _ _::_,xs,h=>by simp[allD] at h
 |.ps _ _::_,xs,h=>by simp[allD] at h
 |.os _ _ _::_,xs,h=>by simp[allD] at h
 |.ifc _ _::_,xs,h=>by simp[allD] at h
 |.any::_,xs,h=>by simp[allD] at h
theorem RT.mkAgg {g:Gh}{cs:List T}{vs:List Value}(hl:cs.length=vs.length)(h: ∀(i:Nat) (x:T) (u:Value),cs[i]? =some x→vs[i]? =some u→RT g x u):
 RT g (mkAgg cs) (.agg vs.toArray):=by
 unfold Go.Proofs.YtmmjbpgdkokjgaaGreatDoor.mkAgg
 cases ha:allD cs with
 |none=>exact .agg cs vs hl h
 |some xs=>
  have:=allD_at ha
  subst this
  refine .d _ _ (.agg xs vs (by simpa using hl) fun i x u hx hu=>?_)
  exact(h i (.d x) u (by simp[hx]) hu).inv_d
def normC (ob:List Ob):T→T
 |.og k n=>match ob[k]? with
  |some (.gr z _ rows m true)=>bif Nat.beq m n then .d (.sl z rows) else .og k n
  |_=>.og k n
 |.d x=>.d x.fix1
 |t=>t
def norm1 (ob:List Ob):T→T
 |.agg cs=>mkAgg (cs.map (normC ob))
 |.d x=>.d x.fix
 |.clo f cs=>.clo f (cs.map (normC ob))
 |t=>normC ob t
def norm (ob:List Ob):T→T
 |.tup cs=>.tup (cs.map (norm1 ob))
 |t=>norm1 ob t
section
variable {w0:World}{σ0:Bs}{ob:List Ob}{w:World}{g:Gh}
theorem Inv.normC (I:Inv w0 σ0 ob w g){t:T}{v:Value}(h:RT g t v):RT g (normC ob t) v:=by
 cases t with
 |og k n=>
  simp only[Go.Proofs.YtmmjbpgdkokjgaaGreatDoor.normC]
  split
  ·rename_i z e rows m hk
   by_cases e':m=n
   ·subst e'
    rw[show Nat.beq m m=true by simp]
    simp only[cond_true]
    obtain⟨_,hv⟩:=h.inv_og
    rw[hv]
    exact .d _ _ (I.read hk)
   ·rw[nbeq e'];exact h
  ·exact h
 |d x=>exact .d _ _ h.inv_d.fix1
 |_=>exact h
theorem RT.inv_clo {f:FuncId}{cs:List T}{u:Value}(h:RT g (.clo f cs) u): ∃vs:List Value,u=.func (.func f) #[] vs.toArray∧cs.length=vs.length∧ ∀(i:Nat) (x:T) (u:Value),cs[i]? =some x→vs[i]? =some u→RT g x u:=by
 cases h with
 |clo _ _ vs hl h=>exact⟨vs,rfl,hl,h⟩
theorem Inv.norm1 (I:Inv w0 σ0 ob w g){t:T}{v:Value}(h:RT g t v):RT g (norm1 ob t) v:=by
 cases t with
 |agg cs=>
  obtain⟨vs,rfl,hl,hh⟩:=h.inv_agg
  refine RT.mkAgg (by simpa using hl) fun i x u hx hu=>?_
  simp only[List.getElem?_map,Option.map_eq_some_iff] at hx
  obtain⟨y,hy,rfl⟩:=hx
  exact I.normC (hh i y u hy hu)
 |d x=>exact .d _ _ h.inv_d.fix
 |clo f cs=>
  obtain⟨vs,rfl,hl,hh⟩:=h.inv_clo
  refine .clo f _ vs (by simpa using hl) fun i x u hx hu=>?_
  simp only[List.getElem?_map,Option.map_eq_some_iff] at hx
  obtain⟨y,hy,rfl⟩:=hx
  exact I.normC (hh i y u hy hu)
 |_=>exact I.normC h
theorem Inv.norm (I:Inv w0 σ0 ob w g){t:T}{v:Value}(h:RT g t v):RT g (norm ob t) v:=by
 cases t with
 |tup cs=>
  obtain⟨vs,rfl,hl,hh⟩:=h.inv_tup
  refine .tup _ vs (by simpa using hl) fun i x u hx hu=>?_
  simp only[List.getElem?_map,Option.map_eq_some_iff] at hx
  obtain⟨y,hy,rfl⟩:=hx
  exact I.norm1 (hh i y u hy hu)
 |_=>exact I.norm1 h
theorem Inv.trim (I:Inv w0 σ0 ob w g){ob':List Ob}(h:obsLe ob'.length ob' ob):Inv w0 σ0 ob' w (g.trim ob'.length):=by
 obtain⟨hlen,hk⟩:=obsLe_at h
 have hlim: ∀k o,ob'[k]? =some o→(g.trim ob'.length).lim k=g.lim k:=fun k o ho=>by
  have:k<ob'.length:=(List.getElem?_eq_some_iff.1 ho).1
  simp[Gh.trim,this]
 refine⟨I.below,I.old,I.con,fun k o ho=>?_,fun k h=>by simp[Gh.trim];omega,fun k k' o o' b hne ho ho' hb=>?_,fun k hk=>?_⟩
 ·obtain⟨hu,ho2⟩:=hk k o ho
  rcases ho2 with ho2|rfl
  ·have:=I.obs k o ho2
   cases o with
   |pv cs=>
    obtain⟨h1,b,vs,e,h2,h3,h4,h5,h6,h7⟩:=this
    exact⟨(hlim k _ ho).trans h1,b,vs,e,h2,h3,h4,h5,fun i x u hx hv=>(h6 i x u hx hv).trim (T.underL_at hu i x hx),h7⟩
   |gr z e rows n pub=>exact⟨(hlim k _ ho).trans this.1,this.2⟩
   |x X n=>exact⟨(hlim k _ ho).trans this.1,this.2⟩
   |dead=>trivial
   |new=>exact(hlim k _ ho).trans this
  ·trivial
 ·obtain⟨_,h1⟩:=hk k o ho
  obtain⟨_,h2⟩:=hk k' o' ho'
  rcases h1 with h1|rfl
  ·rcases h2 with h2|rfl
   ·have e1:g.at k o b:=by cases o<;>exact hb
    have:=I.dis k k' o o' b hne h1 h2 e1
    cases o'<;>exact this
   ·simp[Gh.at]
  ·simp[Gh.at] at hb
 ·by_cases h:k<ob'.length
  ·simpa [Gh.trim,h] using I.ext k hk
  ·exact .inl (by simp[Gh.trim,h])
end
theorem Fin.pub {ob ob':List Ob}{tt t:T}(k:Nat){z:Nat}{e:TypeId}{rows:List (List D)}{n:Nat}(hk:ob[k]? =some (.gr z e rows n false))
 (h:Fin (ob.set k (.gr z e rows n true)) tt ob' t):Fin ob tt ob' t:=fun w0 σ0 w g v I hv=>by
 obtain⟨g',hle,_,I'⟩:=I.pub hk
 exact h w0 σ0 w g' v I' (hv.mono hle)
theorem Fin.norm {ob ob':List Ob}{tt t:T}(h:Fin ob (norm ob tt) ob' t):Fin ob tt ob' t:=fun w0 σ0 w g v I hv=>
 h w0 σ0 w g v I (I.norm hv)
theorem Fin.drop {ob ob':List Ob}{t:T}(h:obsLe ob'.length ob' ob)(hu:t.under ob'.length=true):Fin ob t ob' t:=fun w0 σ0 w g v I hv=>
 ⟨_,I.trim h,hv.trim hu⟩
theorem Fin.data {ob:List Ob}{x:D}:Fin ob (.d x) [] (.d x):=Fin.drop trivial rfl
section
variable {P:Program}{N:Nm}{Q:Exit→St→Prop}{S:St}{ops l:List Oper}{op:Op}{ty:TypeId}{pos:String}{after:Array Edge}{gd:Option (Nat×Bool)}
theorem WL.val {d:Nat}{t:T}(hw:S.want ops ⟨some d,op,ty,pos,after,gd⟩=some true)(hd:Nat.blt d N.n=true)
 (h: ∀w0 σ0 a w g,Rel N w0 σ0 S a w g→ ∃v,(execOp a.eval ⟨some d,op,ty,pos,after,gd⟩).run P w=.ok (.value v) w∧RT g t v)
 (k:WL P N ops l Q (S.set d t)):WL P N ops (⟨some d,op,ty,pos,after,gd⟩::l) Q S:=
 WL.oper hw fun w0 σ0 a w g r=>by
  obtain⟨v,hv,ht⟩:=h w0 σ0 a w g r
  unfold Oper.wp Oper.upon
  rw[hv]
  exact k w0 σ0 _ w g (r.set (by simpa using hd) ht)
theorem WL.eff {d:Nat}{t:T}{ob':List Ob}(hlen:S.ob.length≤ob'.length)(hw:S.want ops ⟨some d,op,ty,pos,after,gd⟩=some true)(hd:Nat.blt d N.n=true)
 (h: ∀w0 σ0 a w g,Rel N w0 σ0 S a w g→ ∃v w' g',(execOp a.eval ⟨some d,op,ty,pos,after,gd⟩).run P w=.ok (.value v) w'∧g.le g'∧Inv w0 σ0 ob' w' g'∧RT g' t v)
 (k:WL P N ops l Q ⟨(S.set d t).tm,ob'⟩):WL P N ops (⟨some d,op,ty,pos,after,gd⟩::l) Q S:=
 WL.oper hw fun w0 σ0 a w g r=>by
  obtain⟨v,w',g',hv,hle,I,ht⟩:=h w0 σ0 a w g r
  unfold Oper.wp Oper.upon
  rw[hv]
  have r':Rel N w0 σ0 ⟨S.tm,ob'⟩ a w' g':=⟨I,r.defers,r.size,r.hm,Nat.le_trans r.hl hlen,fun i=>(r.tm i).mono hle⟩
  exact k w0 σ0 _ w' g' (r'.set (by simpa using hd) ht)
theorem WL.effskip {ob':List Ob}(hlen:S.ob.length≤ob'.length)(hw:S.want ops ⟨none,op,ty,pos,after,gd⟩=some true)
 (h: ∀w0 σ0 a w g,Rel N w0 σ0 S a w g→ ∃w' g',(execOp a.eval ⟨none,op,ty,pos,after,gd⟩).run P w=.ok .skip w'∧g.le g'∧Inv w0 σ0 ob' w' g')
 (k:WL P N ops l Q ⟨S.tm,ob'⟩):WL P N ops (⟨none,op,ty,pos,after,gd⟩::l) Q S:=
 WL.oper hw fun w0 σ0 a w g r=>by
  obtain⟨w',g',hv,hle,I⟩:=h w0 σ0 a w g r
  unfold Oper.wp Oper.upon
  rw[hv]
  exact k w0 σ0 _ w' g' ⟨I,r.defers,r.size,r.hm,Nat.le_trans r.hl hlen,fun i=>(r.tm i).mono hle⟩
end
def TyI.known (i:TyI):Bool:=match i.kind with|.no=>false|_=>true
theorem zeroIs_ok {d:D}{v:Value}(h:zeroIs d v=true)(σ:Sto):RD σ d v:=by
 unfold zeroIs at h
 split at h
 ·simp only[Bool.and_eq_true,decide_eq_true_eq] at h
  obtain⟨rfl,rfl⟩:=h;exact .v _
 ·have:=eq_of_beq h;subst this;exact .v _
 ·rename_i s s'
  have h':s.data=s'.data:=of_decide_eq_true h
  have:s=s':=by cases s;cases s';simp at h';rw[h']
  subst this;exact .v _
 ·exact .v _
 ·exact .v _
 ·exact .v _
 ·exact .v _
 ·exact .nl _
 ·cases h
theorem zerosAre_ok : ∀ {ds:List D} {vs:List Value},zerosAre ds vs=true→
 ds.length=vs.length∧(∀u∈vs,u.oneCell'=true)∧ ∀(σ:Sto) (i:Nat) (x:D) (u:Value),ds[i]? =some x→vs[i]? =some u→RD σ x u
 |[],[],_=>⟨rfl,fun u hu=>by simp at hu,fun σ i x u hx=>by simp at hx⟩
 |d::r,v::s,h=>by
  simp only[zerosAre,Bool.and_eq_true] at h
  obtain⟨h1,h2,h3⟩:=zerosAre_ok h.2
  refine⟨by simp[h1],fun u hu=>?_,fun σ i x u hx hu=>?_⟩
  ·rcases List.mem_cons.1 hu with rfl|hu
   ·exact h.1.2
   ·exact h2 u hu
  ·cases i with
   |zero=>simp at hx hu;subst hx;subst hu;exact zeroIs_ok h.1.1 σ
   |succ i=>exact h3 σ i x u (by simpa using hx) (by simpa using hu)
 |[],_::_,h=>by cases h
 |_::_,[],h=>by cases h
section
variable (E:Env){t:TypeId}
theorem Env.check (h:(E.ty t).known=true):tyCheck E.P t (E.ty t)=true:=E.ok t h
theorem Env.info (h:(E.ty t).known=true): ∃f z,E.P.info? t=some f∧f.size=(E.ty t).size∧f.bytes=(E.ty t).bytes∧f.zero=some z∧
 zerosAre (E.ty t).zero z.cells.toList=true∧z.cells.size=(E.ty t).size:=by
 have:=E.check h
 unfold tyCheck at this
 simp only[Bool.and_eq_true] at this
 have h1:=this.1
 split at h1
 ·rename_i f hf
  simp only[Bool.and_eq_true,decide_eq_true_eq] at h1
  obtain⟨⟨h1,h2⟩,h3⟩:=h1
  split at h3
  ·rename_i z hz
   simp only[Bool.and_eq_true,decide_eq_true_eq] at h3
   exact⟨f,z,hf,h1,h2,hz,h3.1,h3.2⟩
  ·cases h3
 ·cases h1
theorem Env.int {k:IntKind}(h:(E.ty t).kind=.int k):E.P.underlying t=some (.int k):=by
 have hk:(E.ty t).known=true:=by simp[TyI.known,h]
 have:=E.check hk
 unfold tyCheck at this
 simp only[Bool.and_eq_true] at this
 have h2:=this.2
 rw[h] at h2
 split at h2<;>simp_all
theorem Env.string (h:(E.ty t).kind=.string):E.P.underlying t=some .string:=by
 have hk:(E.ty t).known=true:=by simp[TyI.known,h]
 have:=E.check hk
 unfold tyCheck at this
 simp only[Bool.and_eq_true] at this
 have h2:=this.2
 rw[h] at h2
 split at h2<;>simp_all
theorem Env.slice {e:TypeId}(h:(E.ty t).kind=.slice e):E.P.underlying t=some (.slice e):=by
 have hk:(E.ty t).known=true:=by simp[TyI.known,h]
 have:=E.check hk
 unfold tyCheck at this
 simp only[Bool.and_eq_true] at this
 have h2:=this.2
 rw[h] at h2
 split at h2<;>simp_all
theorem Env.bool (h:(E.ty t).kind=.bool):E.P.underlying t=some .bool:=by
 have hk:(E.ty t).known=true:=by simp[TyI.known,h]
 have:=E.check hk
 unfold tyCheck at this
 simp only[Bool.and_eq_true] at this
 have h2:=this.2
 rw[h] at h2
 split at h2<;>simp_all
theorem Env.struct (h:(E.ty t).agg=true):(E.ty t).known=true∧ ∃fs,E.P.underlying t=some (.struct fs)∧offsAre E.P (E.ty t).offs fs.toList=true:=by
 have hs:(E.ty t).kind=.struct:=by
  unfold TyI.agg at h
  split at h
  ·assumption
  ·cases h
 have hk:(E.ty t).known=true:=by simp[TyI.known,hs]
 refine⟨hk,?_⟩
 have:=E.check hk
 unfold tyCheck at this
 simp only[Bool.and_eq_true] at this
 have h2:=this.2
 rw[hs] at h2
 split at h2<;>simp_all
theorem Env.single (hk:(E.ty t).known=true)(h:(E.ty t).agg=false): ∃d,E.P.underlying t=some d∧(∀fs,d≠ .struct fs)∧ ∀n e,d≠ .array n e:=by
 have:=E.check hk
 unfold tyCheck at this
 simp only[Bool.and_eq_true] at this
 have h2:=this.2
 have hs:(E.ty t).kind≠ .struct:=fun e=>by simp[TyI.agg,e] at h
 split at h2<;>simp_all
theorem offsAre_at {P:Program}: ∀ {os:List (Nat×Nat×Bool)} {fs:List Field},offsAre P os fs=true→ ∀(i o n:Nat) (b:Bool),os[i]? =some (o,n,b)→
 ∃f inf,fs[i]? =some f∧f.offset=o∧P.info? f.type=some inf∧inf.size=n∧n≠0∧
  (match P.underlying f.type with|some (.struct _)=>b=true|some (.array ..)=>b=true|some _=>b=false|none=>False)
 |[],[],_,i,o,n,b,hi=>by simp at hi
 |(o',n',b')::r,f::s,h,i,o,n,b,hi=>by
  simp only[offsAre,Bool.and_eq_true,decide_eq_true_eq] at h
  obtain⟨⟨⟨⟨⟨h1,h2⟩,h3⟩,h4⟩,h5⟩,h6⟩:=h
  cases i with
  |zero=>
   simp only[List.getElem?_cons_zero,Option.some.injEq,Prod.mk.injEq] at hi
   obtain⟨rfl,rfl,rfl⟩:=hi
   obtain⟨inf,hinf⟩:=Option.isSome_iff_exists.1 h4
   refine⟨f,inf,rfl,h1,hinf,by simpa [Program.cellsOf,hinf] using h2,h3,?_⟩
   revert h5
   split<;>simp_all
  |succ i=>exact offsAre_at h6 i o n b (by simpa using hi)
 |[],_::_,h,_,_,_,_,_=>by cases h
 |_::_,[],h,_,_,_,_,_=>by cases h
end
def inRange (k:IntKind)(n:Int):Prop:=match k with
 |.i8=> -128≤n∧n≤127
 |.i16=> -32768≤n∧n≤32767
 |.i32=> -2147483648≤n∧n≤2147483647
 |.i64=> -9223372036854775808≤n∧n≤9223372036854775807
 |.u8=>0≤n∧n≤255
 |.u16=>0≤n∧n≤65535
 |.u32=>0≤n∧n≤4294967295
 |.u64=>0≤n∧n≤18446744073709551615
theorem wrap_range {k:IntKind}{n:Int}(h:inRange k n):k.wrap n=n:=by
 cases k
 ·exact IntWalk.i8_in n h
 ·exact IntWalk.i16_in n h
 ·exact IntWalk.i32_in n h
 ·exact IntWalk.i64_in n h
 ·exact IntWalk.u8_in n h
 ·exact IntWalk.u16_in n h
 ·exact IntWalk.u32_in n h
 ·exact IntWalk.u64_in n h
abbrev vI (k:IntKind)(n:Int):T:=.d (.v (.int k n))
abbrev vB (b:Bool):T:=.d (.v (.bool b))
abbrev vS (s:ByteArray):T:=.d (.v (.string s))
def ikb :IntKind→IntKind→Bool
 |.i8,.i8=>true|.i16,.i16=>true|.i32,.i32=>true|.i64,.i64=>true
 |.u8,.u8=>true|.u16,.u16=>true|.u32,.u32=>true|.u64,.u64=>true
 |_,_=>false
theorem ikb_eq {k k':IntKind}(h:ikb k k'=true):k=k':=by cases k<;>cases k'<;>first|rfl|cases h
def evInt (op:BinOp)(k:IntKind)(a b:Int):Option (Prop×Value):=
 match op with
 |.add=>some (inRange k (a+b),.int k (a+b))
 |.sub=>some (inRange k (a - b),.int k (a - b))
 |.mul=>some (inRange k (a*b),.int k (a*b))
 |.quo=>some (b≠0∧inRange k (a.tdiv b),.int k (a.tdiv b))
 |.rem=>some (b≠0,.int k (a.tmod b))
 |.eql=>some (True,.bool (decide (a=b)))
 |.neq=>some (True,.bool (!decide (a=b)))
 |.lss=>some (True,.bool (decide (a<b)))
 |.leq=>some (True,.bool (decide (a≤b)))
 |.gtr=>some (True,.bool (decide (b<a)))
 |.geq=>some (True,.bool (decide (b≤a)))
 |_=>none
def evStr (op:BinOp)(a b:ByteArray):Option (Prop×Value):=
 match op with
 |.add=>some (a.size+b.size≤9223372036854775807,.string (a++b))
 |.eql=>some (True,.bool (decide (a=b)))
 |.neq=>some (True,.bool (!decide (a=b)))
 |.lss=>some (True,.bool (Op.bytesLess a.data.toList b.data.toList))
 |.leq=>some (True,.bool (!Op.bytesLess b.data.toList a.data.toList))
 |.gtr=>some (True,.bool (Op.bytesLess b.data.toList a.data.toList))
 |.geq=>some (True,.bool (!Op.bytesLess a.data.toList b.data.toList))
 |_=>none
def evBin (op:BinOp)(x y:T):Option (Prop×Value):=
 match x,y with
 |.d (.v (.int k a)),.d (.v (.int k' b))=>bif ikb k k' then evInt op k a b else none
 |.d (.v (.string a)),.d (.v (.string b))=>evStr op a b
 |_,_=>none
theorem bytesLess_total : ∀(a b:List UInt8),(Op.bytesLess a b||a==b)= !Op.bytesLess b a
 |[],[]=>rfl
 |[],_::_=>rfl
 |_::_,[]=>rfl
 |x::a,y::b=>by
  have ih:=bytesLess_total a b
  simp only[Op.bytesLess,List.cons_beq_cons]
  by_cases h1:x<y
  ·have h2:¬y<x:=fun h=>by simp[UInt8.lt_iff_toNat_lt] at h h1;omega
   have h3:¬y=x:=fun h=>by subst h;simp[UInt8.lt_iff_toNat_lt] at h1
   simp[h1,h2,h3]
  ·by_cases h2:y<x
   ·have h3:¬x=y:=fun h=>by subst h;simp[UInt8.lt_iff_toNat_lt] at h2
    simp[h1,h2,h3]
   ·have h3:x=y:=by
     simp[UInt8.lt_iff_toNat_lt] at h1 h2
     exact UInt8.toNat_inj.1 (by omega)
    subst h3
    simpa [h1] using ih
theorem toList_eq_iff (a b:ByteArray):(a.data.toList==b.data.toList)=decide (a=b):=by
 by_cases h:a=b
 ·subst h;simp
 ·have:¬a.data=b.data:=fun e=>h (by cases a;cases b;simp at e;rw[e])
  simp[h,this]
theorem run_evInt {P:Program}{w:World}{op:BinOp}{k:IntKind}{a b:Int}{c:Prop}{v:Value}{t:TypeId}(h:evInt op k a b=some (c,v))(hc:c):
 (binOp op t (.int k a) (.int k b)).run P w=.ok v w:=by
 cases op<;>simp only[evInt,Option.some.injEq,Prod.mk.injEq,reduceCtorEq] at h
 all_goals
  obtain⟨rfl,rfl⟩:=h
  first
  |(simp only[binOp_add,binOp_sub,binOp_mul,Op.intArith,wrap_range hc];rfl)
  |(simp only[binOp_quo,Op.intDiv,if_neg hc.1,wrap_range hc.2];rfl)
  |(simp only[binOp_rem,Op.intDiv,if_neg hc];rfl)
  |(simp only[binOp_eql,binOp_neq,binOp_lss,binOp_leq,binOp_gtr,binOp_geq];rfl)
theorem run_evStr {P:Program}{w:World}{op:BinOp}{a b:ByteArray}{c:Prop}{v:Value}{t:TypeId}(h:evStr op a b=some (c,v))(hc:c):
 (binOp op t (.string a) (.string b)).run P w=.ok v w:=by
 have hb: ∀op,binOp op t (.string a) (.string b)=Op.stringOp op a b:=fun op=>by cases op<;>simp[binOp]
 rw[hb]
 have e1: ∀x:ByteArray,x.toList=x.data.toList:=ByteArray.toList_eq
 have ht:=bytesLess_total a.data.toList b.data.toList
 cases op<;>simp only[evStr,Option.some.injEq,Prod.mk.injEq,reduceCtorEq] at h
 all_goals
  obtain⟨rfl,rfl⟩:=h
  simp only[Op.stringOp,e1]
 ·have:¬(((a.size+b.size:Nat):Int)>IntKind.i64.max):=by rw[IntKind.max_i64];omega
  rw[if_neg this];rfl
 all_goals first
  |(rw[toList_eq_iff];rfl)
  |(rw[ht,Bool.not_not];rfl)
  |(rw[ht];rfl)
  |rfl
theorem run_evBin {P:Program}{w:World}{g:Gh}{op:BinOp}{x y:T}{u u':Value}{c:Prop}{v:Value}{t:TypeId}{ox oy:Operand}(h:evBin op x y=some (c,v))(hc:c)(hx:RT g x u)(hy:RT g y u'):
 (do eqGuard op t ox oy u u';binOp op t u u':Sem Value).run P w=.ok v w:=by
 unfold evBin at h
 split at h
 ·rename_i k a k' b
  have:=hx.inv_v;subst this
  have:=hy.inv_v;subst this
  cases hk:ikb k k' with
  |false=>rw[hk] at h;cases h
  |true=>
   rw[hk] at h
   have:=ikb_eq hk;subst this
   simp only[eqGuard_at_int,Sem.run_bind,Sem.run_pure,Result.andThen_ok]
   exact run_evInt h hc
 ·have:=hx.inv_v;subst this
  have:=hy.inv_v;subst this
  simp only[eqGuard_at_string,Sem.run_bind,Sem.run_pure,Result.andThen_ok]
  exact run_evStr h hc
 ·cases h
def byteAt (s:ByteArray)(i:Nat):Int:=((s.data.toList.getD i 0).toNat:Int)
theorem byteAt_range (s:ByteArray)(i:Nat):0≤byteAt s i∧byteAt s i≤255:=by
 unfold byteAt
 have:=(s.data.toList.getD i 0).toNat_lt
 omega
def fixNil (E:Env)(t:TypeId):T→T
 |.d (.v (.slice none 0 0))=>match (E.ty t).kind with|.slice e=>.d (.nl (E.ty e).size)|_=>.d (.v (.slice none 0 0))
 |x=>x
theorem RT.fixNil {g:Gh}{x:T}{u:Value}(E:Env)(t:TypeId)(h:RT g x u):RT g (fixNil E t x) u:=by
 unfold Go.Proofs.YtmmjbpgdkokjgaaGreatDoor.fixNil
 split
 ·split
  ·have:=h.inv_v;subst this;exact .d _ _ (.nl _)
  ·exact h
 ·exact h
def evPick (c a b:T):Option (Prop×T):=
 match c with
 |.d (.v (.bool true))=>some (True,a)
 |.d (.v (.bool false))=>some (True,b)
 |_=>none
def evUn (op:UnOp)(x:T):Option (Prop×T):=
 match op,x with
 |.not,.d (.v (.bool b))=>some (True,vB !b)
 |.neg,.d (.v (.int k a))=>some (inRange k (-a),vI k (-a))
 |_,_=>none
def evConv (E:Env)(src dst:TypeId)(x:T):Option (Prop×T):=
 match x with
 |.d (.v (.int k a))=>bif (E.ty src).known then(match (E.ty dst).kind with|.int k'=>some (inRange k' a,vI k' a)|_=>none) else none
 |.d (.v (.string s))=>bif (E.ty src).known then(match (E.ty dst).kind with|.string=>some (True,vS s)|_=>none) else none
 |_=>none
def evFieldAddr (E:Env)(s:TypeId)(x:T)(f:Nat):Option (Prop×T):=
 bif (E.ty s).agg then
  match (E.ty s).offs[f]? with
  |some (o,_,_)=>match x with
   |.lp l off=>some (True,.lp l (off+o))
   |.ea r off=>some (True,.ea r (off+o))
   |.eg k n z i off=>some (True,.eg k n z i (off+o))
   |_=>none
  |none=>none
 else none
def evField (E:Env)(s:TypeId)(x:T)(f:Nat):Option (Prop×T):=
 bif (E.ty s).agg then
  match (E.ty s).offs[f]? with
  |some (o,n,b)=>match x with
   |.d (.agg cs)=>bif b then some (True,.d (.agg ((cs.drop o).take n))) else(match cs[o]? with|some c=>some (True,.d c)|none=>none)
   |.agg cs=>bif b then some (True,mkAgg ((cs.drop o).take n)) else(match cs[o]? with|some c=>some (True,c)|none=>none)
   |_=>none
  |none=>none
 else none
def evLoad (E:Env)(S:St)(t:TypeId)(x:T):Option (Prop×T):=
 bif (E.ty t).known then
  match x with
  |.lp l off=>match S.ob[l]? with
   |some (.pv cs)=>
    bif (E.ty t).agg then(bif Nat.ble (off+(E.ty t).size) cs.length then some (True,mkAgg ((cs.drop off).take (E.ty t).size)) else none)
    else(match cs[off]? with|some c=>some (True,c)|none=>none)
   |_=>none
  |.ea r off=>
   bif (E.ty t).agg then(bif Nat.ble (off+(E.ty t).size) r.length then some (True,.d (.agg ((r.drop off).take (E.ty t).size))) else none)
   else(match r[off]? with|some c=>some (True,.d c)|none=>none)
  |_=>none
 else none
def evExtract (x:T)(i:Nat):Option (Prop×T):=
 match x with
 |.tup cs=>match cs[i]? with|some c=>some (True,c)|none=>none
 |_=>none
def evLen (E:Env)(S:St)(t:TypeId)(x:T):Option (Prop×T):=
 match (E.ty t).kind with
 |.string=>match x with|.d (.v (.string s))=>some (True,vI .i64 s.size)|_=>none
 |.slice _=>match x with
  |.d (.sl _ rows)=>some (True,vI .i64 rows.length)
  |.d (.nl _)=>some (True,vI .i64 0)
  |.d (.v (.slice none 0 0))=>some (True,vI .i64 0)
  |.og k n=>match S.ob[k]? with
   |some (.gr _ _ rows m _)=>bif Nat.beq m n then some (True,vI .i64 rows.length) else none
   |_=>none
  |_=>none
 |_=>none
def evIndex (E:Env)(t:TypeId)(x i:T):Option (Prop×T):=
 match (E.ty t).kind with
 |.string=>match x,i with
  |.d (.v (.string s)),.d (.v (.int _ j))=>some (0≤j∧j<s.size,vI .u8 (byteAt s j.toNat))
  |_,_=>none
 |_=>none
def evEq (E:Env)(op:BinOp)(t:TypeId)(x y:T):Option Bool:=
 match (E.ty t).kind,x,y with
 |.bool,.d (.v (.bool a)),.d (.v (.bool b))=>match op with
  |.eql=>some (a==b)
  |.neq=>some (!(a==b))
  |_=>none
 |_,_,_=>none
def ev1 (E:Env)(S:St)(op:Op)(ty:TypeId):Option (Prop×T):=
 match op with
 |.move x=>some (True,fixNil E ty (S.ev x))
 |.assign x=>some (True,fixNil E ty (S.ev x))
 |.pick c a b=>evPick (S.ev c) (S.ev a) (S.ev b)
 |.binOp op t x y _=>match evBin op (S.ev x) (S.ev y) with
  |some (c,v)=>some (c,.d (.v v))
  |none=>match evEq E op t (S.ev x) (S.ev y) with|some b=>some (True,.d (.v (.bool b)))|none=>none
 |.unOp op _ x=>evUn op (S.ev x)
 |.convert s d x=>evConv E s d (S.ev x)
 |.fieldAddr s x f=>evFieldAddr E s (S.ev x) f
 |.field s x f=>evField E s (S.ev x) f
 |.load t x=>evLoad E S t (S.ev x)
 |.extract x i=>evExtract (S.ev x) i
 |.index t x i=>evIndex E t (S.ev x) (S.ev i)
 |.makeFunc fn first cap=>match fn,first.toList with
  |.func f,[]=>some (True,.clo f (cap.toList.map S.ev))
  |_,_=>none
 |.nilCheck x=>match S.ev x with
  |.lp l off=>some (True,.lp l off)
  |.ea r off=>some (True,.ea r off)
  |.clo f cs=>some (True,.clo f cs)
  |_=>none
 |.call ⟨.builtin .len,args,ts⟩=>match args.toList,ts.toList with
  |[x],[t]=>evLen E S t (S.ev x)
  |_,_=>none
 |.call ⟨.builtin .max,args,_⟩=>match args.toList with
  |[x,y]=>match S.ev x,S.ev y with
   |.d (.v (.int k a)),.d (.v (.int _ b))=>some (True,.d (.v (.int k (max a b))))
   |_,_=>none
  |_=>none
 |.call ⟨.builtin .min,args,_⟩=>match args.toList with
  |[x,y]=>match S.ev x,S.ev y with
   |.d (.v (.int k a)),.d (.v (.int _ b))=>some (True,.d (.v (.int k (min a b))))
   |_,_=>none
  |_=>none
 |_=>none
section
variable {E:Env}{N:Nm}{S:St}{w0:World}{σ0:Bs}{a:Act}{w:World}{g:Gh}
theorem evPick_ok {c x y:T}{u u1 u2:Value}{p:Prop}{t:T}(h:evPick c x y=some (p,t))(hc:RT g c u)(hx:RT g x u1)(hy:RT g y u2):
 (do pure (Next.value (if ←asBool u then u1 else u2)):Sem Next).run E.P w=.ok (.value (if u matches .bool true then u1 else u2)) w∧RT g t (if u matches .bool true then u1 else u2):=by
 unfold evPick at h
 split at h
 ·have:=hc.inv_v;subst this
  simp only[Option.some.injEq,Prod.mk.injEq] at h
  obtain⟨_,rfl⟩:=h
  exact⟨by simp[asBool],by simpa using hx⟩
 ·have:=hc.inv_v;subst this
  simp only[Option.some.injEq,Prod.mk.injEq] at h
  obtain⟨_,rfl⟩:=h
  exact⟨by simp[asBool],by simpa using hy⟩
 ·cases h
theorem heap_lt {w:World}{b:Nat}{o:Obj}(h:w.heap[b]? =some o):b<w.heap.size:=(Array.getElem?_eq_some_iff.1 h).1
theorem cell_lt {w:World}{b o:Nat}{v:Value}(h:w.cell? ⟨b,o,none⟩=some v):b<w.heap.size:=by
 unfold World.cell? at h
 split at h
 ·rename_i h';exact heap_lt h'
 ·cases h
theorem evUn_ok {op:UnOp}{x:T}{u:Value}{p:Prop}{t:T}(h:evUn op x=some (p,t))(hp:p)(hx:RT g x u):
 ∃v,(∀w':World,Below w.heap.size w w'→(Op.unary op u).run E.P w'=.ok v w')∧RT g t v:=by
 unfold evUn at h
 split at h
 ·have:=hx.inv_v;subst this
  simp only[Option.some.injEq,Prod.mk.injEq] at h
  obtain⟨_,rfl⟩:=h
  exact⟨_,fun w' hw'=>by simp[Op.unary],.d _ _ (.v _)⟩
 ·have:=hx.inv_v;subst this
  simp only[Option.some.injEq,Prod.mk.injEq] at h
  obtain⟨rfl,rfl⟩:=h
  rename_i k n
  have hz:(0:Int) - n= -n:=by omega
  exact⟨_,fun w' hw'=>by simp[Op.unary,Op.intArith,hz,wrap_range hp],.d _ _ (.v _)⟩
 ·cases h
theorem evConv_ok {src dst:TypeId}{x:T}{u:Value}{p:Prop}{t:T}(h:evConv E src dst x=some (p,t))(hp:p)(hx:RT g x u):
 ∃v,(∀w':World,Below w.heap.size w w'→(convert src dst u).run E.P w'=.ok v w')∧RT g t v:=by
 unfold evConv at h
 split at h
 ·have:=hx.inv_v;subst this
  rename_i k n
  cases hk:(E.ty src).known with
  |false=>rw[hk] at h;cases h
  |true=>
   rw[hk,cond_true] at h
   split at h
   ·rename_i k' hd
    simp only[Option.some.injEq,Prod.mk.injEq] at h
    obtain⟨rfl,rfl⟩:=h
    have hs: ∃d,E.P.underlying src=some d:=by
     by_cases ha:(E.ty src).agg=true
     ·obtain⟨_,fs,h,_⟩:=E.struct ha;exact⟨_,h⟩
     ·obtain⟨d,h,_⟩:=E.single hk (by simpa using ha);exact⟨_,h⟩
    obtain⟨d,hs⟩:=hs
    exact⟨_,fun w' hw'=>by simp[convert,run_underlying hs,run_underlying (E.int hd),Conv.intToInt,wrap_range hp],.d _ _ (.v _)⟩
   ·cases h
 ·have:=hx.inv_v;subst this
  rename_i s
  cases hk:(E.ty src).known with
  |false=>rw[hk] at h;cases h
  |true=>
   rw[hk,cond_true] at h
   split at h
   ·rename_i hd
    simp only[Option.some.injEq,Prod.mk.injEq] at h
    obtain⟨rfl,rfl⟩:=h
    have hs: ∃d,E.P.underlying src=some d:=by
     by_cases ha:(E.ty src).agg=true
     ·obtain⟨_,fs,h,_⟩:=E.struct ha;exact⟨_,h⟩
     ·obtain⟨d,h,_⟩:=E.single hk (by simpa using ha);exact⟨_,h⟩
    obtain⟨d,hs⟩:=hs
    exact⟨_,fun w' hw'=>by simp[convert,run_underlying hs,run_underlying (E.string hd)],.d _ _ (.v _)⟩
   ·cases h
 ·cases h
theorem RT.inv_ea {r:List D}{off:Nat}{u:Value}(h:RT g (.ea r off) u): ∃(b o:Nat) (U:Nat→Value),u=.pointer (some ⟨b,o+off,none⟩)∧
 (∀j,j<r.length→g.σ b (o+j)=some (U j)∧(U j).oneCell'=true)∧ ∀(j:Nat) (x:D),r[j]? =some x→RD g.σ x (U j):=by
 cases h with
 |ea _ _ b o U hc hr=>exact⟨b,o,U,rfl,hc,hr⟩
theorem RT.inv_eg {k n z i off:Nat}{u:Value}(h:RT g (.eg k n z i off) u): ∃(b len cap:Nat),n<g.lim k∧g.γ k n=.slice (some ⟨b,0,none⟩) len cap∧u=.pointer (some ⟨b,i*z+off,none⟩):=by
 cases h with
 |eg _ _ _ _ _ b len cap h hg=>exact⟨b,len,cap,h,hg,rfl⟩
theorem evFieldAddr_ok {s:TypeId}{x:T}{f:Nat}{u:Value}{p:Prop}{t:T}(h:evFieldAddr E s x f=some (p,t))(hx:RT g x u):
 ∃v,(∀w':World,Below w.heap.size w w'→(Instr.fieldAt s u f).run E.P w'=.ok v w')∧RT g t v:=by
 unfold evFieldAddr at h
 cases ha:(E.ty s).agg with
 |false=>rw[ha] at h;cases h
 |true=>
  rw[ha,cond_true] at h
  split at h
  ·rename_i o n b ho
   obtain⟨_,fs,hu,hoffs⟩:=E.struct ha
   obtain⟨fd,inf,hfd,hoff,hinf,hsz,hn0,_⟩:=offsAre_at hoffs f o n b ho
   have hfd':fs[f]? =some fd:=by simpa using hfd
   have run: ∀(w':World) (a:Addr),(Instr.fieldAt s (.pointer (some a)) f).run E.P w'=.ok (.pointer (some (a.add o))) w':=fun w' a=>by
    simp[Instr.fieldAt,run_underlying hu,hfd',Instr.sureAddr,fieldPlace,sizeOf,typeInfo,hinf,hsz,hn0,hoff]
   split at h
   ·rename_i l off
    obtain⟨b',h0,hγ,rfl⟩:=hx.inv_lp
    simp only[Option.some.injEq,Prod.mk.injEq] at h
    obtain⟨_,rfl⟩:=h
    exact⟨_,fun w' _=>run w' _,by rw[Addr.add_lit];exact .lp l (off+o) b' h0 hγ⟩
   ·rename_i r off
    obtain⟨b',o',U,rfl,hc,hr⟩:=hx.inv_ea
    simp only[Option.some.injEq,Prod.mk.injEq] at h
    obtain⟨_,rfl⟩:=h
    exact⟨_,fun w' _=>run w' _,by rw[Addr.add_lit,Nat.add_assoc];exact .ea r (off+o) b' o' U hc hr⟩
   ·rename_i k m z i off
    obtain⟨b',len,cap,h0,hγ,rfl⟩:=hx.inv_eg
    simp only[Option.some.injEq,Prod.mk.injEq] at h
    obtain⟨_,rfl⟩:=h
    exact⟨_,fun w' _=>run w' _,by rw[Addr.add_lit,Nat.add_assoc];exact .eg k m z i (off+o) b' len cap h0 hγ⟩
   ·cases h
  ·cases h
theorem run_isAgg_struct {P:Program}{t:TypeId}{fs:Array Field}{w:World}(h:P.underlying t=some (.struct fs)):(isAgg t).run P w=.ok true w:=by
 simp[isAgg,run_underlying h]
theorem run_isAgg_single {P:Program}{t:TypeId}{d:TypeDesc}{w:World}(h:P.underlying t=some d)(h1: ∀fs,d≠ .struct fs)(h2: ∀n e,d≠ .array n e):(isAgg t).run P w=.ok false w:=by
 cases d with
 |struct fs=>exact(h1 fs rfl).elim
 |array n e=>exact(h2 n e rfl).elim
 |_=>simp[isAgg,run_underlying h]
theorem evField_ok {s:TypeId}{x:T}{f:Nat}{u:Value}{p:Prop}{t:T}(h:evField E s x f=some (p,t))(hx:RT g x u):
 ∃v,(∀w':World,Below w.heap.size w w'→(Instr.field s u f).run E.P w'=.ok v w')∧RT g t v:=by
 unfold evField at h
 cases ha:(E.ty s).agg with
 |false=>rw[ha] at h;cases h
 |true=>
  rw[ha,cond_true] at h
  split at h
  ·rename_i o n b ho
   obtain⟨_,fs,hu,hoffs⟩:=E.struct ha
   obtain⟨fd,inf,hfd,hoff,hinf,hsz,hn0,hagg⟩:=offsAre_at hoffs f o n b ho
   have hfd':fs[f]? =some fd:=by simpa using hfd
   have runA:b=true→ ∀(vs:List Value) (w:World),(Instr.field s (.agg vs.toArray) f).run E.P w=.ok (.agg ((vs.drop o).take n).toArray) w:=fun hb vs w=>by
    subst hb
    have hA:(isAgg fd.type).run E.P w=.ok true w:=by
     revert hagg
     split
     ·rename_i fs' h';intro _;exact run_isAgg_struct h'
     ·rename_i n' e' h';intro _;simp[isAgg,run_underlying h']
     ·intro h;cases h
     ·intro h;exact h.elim
    simp[Instr.field,run_underlying hu,hfd',asAgg,part,hA,sizeOf,typeInfo,hinf,hsz,hoff]
   have runS:b=false→ ∀(vs:List Value) (v:Value),vs[o]? =some v→ ∀w:World,(Instr.field s (.agg vs.toArray) f).run E.P w=.ok v w:=fun hb vs v hv w=>by
    subst hb
    have hA:(isAgg fd.type).run E.P w=.ok false w:=by
     revert hagg
     split
     ·intro h;cases h
     ·intro h;cases h
     ·rename_i d' h1 h2 h';intro _;exact run_isAgg_single h' (fun fs e=>h1 fs e) (fun n e e'=>h2 n e e')
     ·intro h;exact h.elim
    simp[Instr.field,run_underlying hu,hfd',asAgg,part,hA,hoff,hv]
   split at h
   ·rename_i cs
    obtain⟨vs,rfl,hl,hr⟩:=hx.inv_d.inv_agg
    cases b with
    |true=>
     simp only[cond_true,Option.some.injEq,Prod.mk.injEq] at h
     obtain⟨_,rfl⟩:=h
     refine⟨_,fun w' _=>runA rfl vs w',.d _ _ (.agg _ _ (by simp[hl]) fun i x u hx hu=>?_)⟩
     simp only[List.getElem?_take,List.getElem?_drop] at hx hu
     split at hx
     ·rw[if_pos (by assumption)] at hu;exact hr _ x u hx hu
     ·cases hx
    |false=>
     rw[cond_false] at h
     split at h
     ·rename_i c hc
      simp only[Option.some.injEq,Prod.mk.injEq] at h
      obtain⟨_,rfl⟩:=h
      have hlt:o<vs.length:=by rw[←hl];exact(List.getElem?_eq_some_iff.1 hc).1
      exact⟨_,fun w' _=>runS rfl vs vs[o] (List.getElem?_eq_getElem hlt) w',.d _ _ (hr o c _ hc (List.getElem?_eq_getElem hlt))⟩
     ·cases h
   ·rename_i cs
    obtain⟨vs,rfl,hl,hr⟩:=hx.inv_agg
    cases b with
    |true=>
     simp only[cond_true,Option.some.injEq,Prod.mk.injEq] at h
     obtain⟨_,rfl⟩:=h
     refine⟨_,fun w' _=>runA rfl vs w',RT.mkAgg (by simp[hl]) fun i x u hx hu=>?_⟩
     simp only[List.getElem?_take,List.getElem?_drop] at hx hu
     split at hx
     ·rw[if_pos (by assumption)] at hu;exact hr _ x u hx hu
     ·cases hx
    |false=>
     rw[cond_false] at h
     split at h
     ·rename_i c hc
      simp only[Option.some.injEq,Prod.mk.injEq] at h
      obtain⟨_,rfl⟩:=h
      have hlt:o<vs.length:=by rw[←hl];exact(List.getElem?_eq_some_iff.1 hc).1
      exact⟨_,fun w' _=>runS rfl vs vs[o] (List.getElem?_eq_getElem hlt) w',hr o c _ hc (List.getElem?_eq_getElem hlt)⟩
     ·cases h
   ·cases h
  ·cases h
theorem run_loadVar_single {P:Program}{t:TypeId}{d:TypeDesc}{w:World}(h:P.underlying t=some d)(h1: ∀fs,d≠ .struct fs)(h2: ∀n e,d≠ .array n e)
 {a:Addr} {v:Value} (hc:w.cell? a=some v):(loadVar t a).run P w=.ok v w:=by
 simp[loadVar,run_isAgg_single h h1 h2,hc]
theorem evLoad_ok {ty:TypeId}{x:T}{u:Value}{p:Prop}{t:T}(I:Inv w0 σ0 S.ob w g)(h:evLoad E S ty x=some (p,t))(hx:RT g x u):
 ∃v,(∀w':World,Below w.heap.size w w'→(Instr.loadAt ty u).run E.P w'=.ok v w')∧RT g t v:=by
 unfold evLoad at h
 cases hk:(E.ty ty).known with
 |false=>rw[hk] at h;cases h
 |true=>
  rw[hk,cond_true] at h
  obtain⟨inf,z,hinf,hsz,_⟩:=E.info hk
  split at h
  ·rename_i l off
   obtain⟨b,h0,hγ,rfl⟩:=hx.inv_lp
   split at h
   ·rename_i cs hcs
    obtain⟨_,b',vs,e,hγ',hb,hh,hlen,hr,h1,hσ⟩:=I.obs l _ hcs
    rw[hγ] at hγ'
    injection hγ' with e1;injection e1 with e1;injection e1 with e1 _ _
    subst e1
    cases ha:(E.ty ty).agg with
    |true=>
     obtain⟨_,fs,hu,_⟩:=E.struct ha
     rw[ha,cond_true] at h
     cases hbl:Nat.ble (off+(E.ty ty).size) cs.length with
     |false=>rw[hbl] at h;cases h
     |true=>
      rw[hbl,cond_true] at h
      simp only[Option.some.injEq,Prod.mk.injEq] at h
      obtain⟨_,rfl⟩:=h
      have hle:=Nat.le_of_ble_eq_true hbl
      refine⟨.agg ((vs.drop off).take (E.ty ty).size).toArray,fun w' hw'=>?_,RT.mkAgg (by simp[hlen]) fun i x u hx hu=>?_⟩
      ·have hh:=(hw'.block b (heap_lt hh)).trans hh
       have:=run_loadVar_struct (w:=w') hu hinf ⟨b,off,none⟩ ((vs.drop off).take (E.ty ty).size) (by rw[hsz,List.length_take,List.length_drop];omega)
        (fun j v hj=>by
          rw[Addr.add_lit,cell_of_heap hh]
          simp only[List.getElem?_take,List.getElem?_drop] at hj
          split at hj
          ·exact hj
          ·cases hj)
       simpa [Instr.loadAt,Instr.sureAddr] using this
      ·simp only[List.getElem?_take,List.getElem?_drop] at hx hu
       split at hx
       ·rw[if_pos (by assumption)] at hu;exact hr _ x u hx hu
       ·cases hx
    |false=>
     obtain⟨d,hu,hd1,hd2⟩:=E.single hk ha
     rw[ha,cond_false] at h
     split at h
     ·rename_i c hc
      simp only[Option.some.injEq,Prod.mk.injEq] at h
      obtain⟨_,rfl⟩:=h
      have hlt:off<vs.length:=by rw[←hlen];exact(List.getElem?_eq_some_iff.1 hc).1
      have hv:=List.getElem?_eq_getElem hlt
      exact⟨_,fun w' hw'=>by simpa [Instr.loadAt,Instr.sureAddr] using run_loadVar_single (w:=w') hu hd1 hd2 ((cell_of_heap ((hw'.block b (heap_lt hh)).trans hh) off).trans hv),hr off c _ hc hv⟩
     ·cases h
   ·cases h
  ·rename_i r off
   obtain⟨b,o,U,rfl,hc,hr⟩:=hx.inv_ea
   have hcell: ∀(w':World),Below w.heap.size w w'→ ∀j,j<r.length→w'.cell? ⟨b,o+j,none⟩=some (U j):=fun w' hw' j hj=>by
    have h1:=I.con _ _ _ (hc j hj).1
    rw[World.cell?_of_block (w:=w) (w':=w') (hw'.block b (cell_lt h1))]
    exact h1
   cases ha:(E.ty ty).agg with
   |true=>
    obtain⟨_,fs,hu,_⟩:=E.struct ha
    rw[ha,cond_true] at h
    cases hbl:Nat.ble (off+(E.ty ty).size) r.length with
    |false=>rw[hbl] at h;cases h
    |true=>
     rw[hbl,cond_true] at h
     simp only[Option.some.injEq,Prod.mk.injEq] at h
     obtain⟨_,rfl⟩:=h
     have hle:=Nat.le_of_ble_eq_true hbl
     refine⟨.agg ((List.range (E.ty ty).size).map fun j=>U (off+j)).toArray,fun w' hw'=>?_,.d _ _ (.agg _ _ (by simp;omega) fun i x u hx hu=>?_)⟩
     ·have:=run_loadVar_struct (w:=w') hu hinf ⟨b,o+off,none⟩ ((List.range (E.ty ty).size).map fun j=>U (off+j)) (by simp[hsz])
       (fun j v hj=>by
         rw[Addr.add_lit]
         simp only[List.getElem?_map,Option.map_eq_some_iff] at hj
         obtain⟨j',hj',rfl⟩:=hj
         obtain⟨hlt,rfl⟩:=List.getElem?_eq_some_iff.1 hj'
         simp only[List.length_range] at hlt
         rw[Nat.add_assoc,List.getElem_range]
         exact hcell w' hw' _ (by omega))
      simpa [Instr.loadAt,Instr.sureAddr] using this
     ·simp only[List.getElem?_take,List.getElem?_drop] at hx
      simp only[List.getElem?_map,Option.map_eq_some_iff] at hu
      obtain⟨j',hj',rfl⟩:=hu
      obtain⟨hlt,rfl⟩:=List.getElem?_eq_some_iff.1 hj'
      rw[List.getElem_range]
      split at hx
      ·exact hr _ x hx
      ·cases hx
   |false=>
    obtain⟨d,hu,hd1,hd2⟩:=E.single hk ha
    rw[ha,cond_false] at h
    split at h
    ·rename_i c hcc
     simp only[Option.some.injEq,Prod.mk.injEq] at h
     obtain⟨_,rfl⟩:=h
     have hlt:off<r.length:=(List.getElem?_eq_some_iff.1 hcc).1
     exact⟨_,fun w' hw'=>by simpa [Instr.loadAt,Instr.sureAddr] using run_loadVar_single (w:=w') hu hd1 hd2 (hcell w' hw' off hlt),.d _ _ (hr off c hcc)⟩
    ·cases h
  ·cases h
theorem RD.inv_sl {σ:Sto}{z:Nat}{rows:List (List D)}{u:Value}(h:RD σ (.sl z rows) u): ∃A n cap,u=.slice A n cap∧n=rows.length:=by
 cases h with
 |nil=>exact⟨_,_,_,rfl,rfl⟩
 |sl=>exact⟨_,_,_,rfl,rfl⟩
theorem evLen_ok {ty rt:TypeId}{x:T}{u:Value}{p:Prop}{t:T}(I:Inv w0 σ0 S.ob w g)(h:evLen E S ty x=some (p,t))(hx:RT g x u):
 ∃v,(∀w':World,Below w.heap.size w w'→(Builtin.len_ #[ty] rt #[u]).run E.P w'=.ok v w')∧RT g t v:=by
 unfold evLen at h
 split at h
 ·rename_i hk
  split at h
  ·have:=hx.inv_v;subst this
   simp only[Option.some.injEq,Prod.mk.injEq] at h
   obtain⟨_,rfl⟩:=h
   exact⟨_,fun w' hw'=>by simp[Builtin.len_,run_underlying (E.string hk)];rfl,.d _ _ (.v _)⟩
  ·cases h
 ·rename_i e hk
  have run: ∀(w:World) A n c,(Builtin.len_ #[ty] rt #[.slice A n c]).run E.P w=.ok (.int .i64 n) w:=fun w A n c=>by
   simp[Builtin.len_,run_underlying (E.slice hk)];rfl
  split at h
  ·obtain⟨A,n,cap,rfl,rfl⟩:=hx.inv_d.inv_sl
   simp only[Option.some.injEq,Prod.mk.injEq] at h
   obtain⟨_,rfl⟩:=h
   exact⟨_,fun w' _=>run w' _ _ _,.d _ _ (.v _)⟩
  ·have:=hx.inv_d.inv_nl;subst this
   simp only[Option.some.injEq,Prod.mk.injEq] at h
   obtain⟨_,rfl⟩:=h
   exact⟨_,fun w' _=>run w' _ _ _,.d _ _ (.v _)⟩
  ·have:=hx.inv_v;subst this
   simp only[Option.some.injEq,Prod.mk.injEq] at h
   obtain⟨_,rfl⟩:=h
   exact⟨_,fun w' _=>run w' _ _ _,.d _ _ (.v _)⟩
  ·rename_i k n
   split at h
   ·rename_i z e' rows m pub hk'
    by_cases hm:m=n
    ·subst hm
     rw[show Nat.beq m m=true by simp,cond_true] at h
     simp only[Option.some.injEq,Prod.mk.injEq] at h
     obtain⟨_,rfl⟩:=h
     obtain⟨_,rfl⟩:=hx.inv_og
     obtain⟨_,xs,⟨h2,_⟩,_⟩:=I.obs k _ hk'
     rcases h2.2 with⟨hv,hn⟩|⟨_,_,_,hv,_⟩
     ·rw[hv,hn];exact⟨_,fun w' _=>run w' _ _ _,.d _ _ (.v _)⟩
     ·rw[hv];exact⟨_,fun w' _=>run w' _ _ _,.d _ _ (.v _)⟩
    ·rw[nbeq hm] at h;cases h
   ·cases h
  ·cases h
 ·cases h
theorem evIndex_ok {ty:TypeId}{x i:T}{u u':Value}{p:Prop}{t:T}(h:evIndex E ty x i=some (p,t))(hp:p)(hx:RT g x u)(hi:RT g i u'):
 ∃v,(∀w':World,Below w.heap.size w w'→(Instr.index ty u u').run E.P w'=.ok v w')∧RT g t v:=by
 unfold evIndex at h
 split at h
 ·rename_i hk
  split at h
  ·have:=hx.inv_v;subst this
   have:=hi.inv_v;subst this
   rename_i s k j
   simp only[Option.some.injEq,Prod.mk.injEq] at h
   obtain⟨rfl,rfl⟩:=h
   refine⟨_,fun w' _=>by rw[run_index_string w' ty s _ j (E.string hk),dif_pos hp],?_⟩
   have:byteAt s j.toNat=((s[j.toNat]'(by omega)).toNat:Int):=by
    have hlt:j.toNat<s.data.toList.length:=by have:=hp.2;rw[Array.length_toList];show j.toNat<s.size;omega
    simp only[byteAt,List.getD_eq_getElem?_getD,List.getElem?_eq_getElem hlt,Option.getD_some]
    rfl
   rw[this]
   exact .d _ _ (.v _)
  ·cases h
 ·cases h
theorem ev1_all (r:Rel N w0 σ0 S a w g){d:Option Nat}{op:Op}{ty:TypeId}{pos:String}{after:Array Edge}{gd:Option (Nat×Bool)}{p:Prop}{t:T}
 (h:ev1 E S op ty=some (p,t)) (hp:p): ∃v,(∀w',Below w.heap.size w w'→(execOp a.eval ⟨d,op,ty,pos,after,gd⟩).run E.P w'=.ok (.value v) w')∧RT g t v:=by
 unfold ev1 at h
 split at h
 ·simp only[Option.some.injEq,Prod.mk.injEq] at h
  obtain⟨_,rfl⟩:=h
  exact⟨_,fun _ _=>rfl,(r.ev _).fixNil E ty⟩
 ·simp only[Option.some.injEq,Prod.mk.injEq] at h
  obtain⟨_,rfl⟩:=h
  exact⟨_,fun _ _=>rfl,(r.ev _).fixNil E ty⟩
 ·exact⟨_,fun w' _=>(evPick_ok (w:=w') h (r.ev _) (r.ev _) (r.ev _)).1,(evPick_ok (w:=w) (E:=E) h (r.ev _) (r.ev _) (r.ev _)).2⟩
 ·split at h
  ·rename_i c v hb
   simp only[Option.some.injEq,Prod.mk.injEq] at h
   obtain⟨rfl,rfl⟩:=h
   refine⟨v,fun w' _=>?_,.d _ _ (.v _)⟩
   simp only[execOp]
   rw[Sem.run_bind,run_evBin (w:=w') (P:=E.P) hb hp (r.ev _) (r.ev _)]
   rfl
  ·split at h
   ·rename_i b he
    simp only[Option.some.injEq,Prod.mk.injEq] at h
    obtain⟨_,rfl⟩:=h
    refine⟨.bool b,fun w' _=>?_,.d _ _ (.v _)⟩
    unfold evEq at he
    split at he
    ·rename_i hk hx hy
     have h1':=(hx▸r.ev _:RT g (.d (.v (.bool _))) _).inv_v
     have h2':=(hy▸r.ev _:RT g (.d (.v (.bool _))) _).inv_v
     simp only[execOp,h1',h2',eqGuard_at_bool]
     split at he
     ·simp only[Option.some.injEq] at he
      subst he
      simp[run_eql_bool (h:=E.bool hk)]
     ·simp only[Option.some.injEq] at he
      subst he
      simp[run_neq_bool (h:=E.bool hk)]
     ·cases he
    ·cases he
   ·cases h
 ·obtain⟨v,hv,ht⟩:=evUn_ok (E:=E) (w:=w) h hp (r.ev _)
  exact⟨v,fun w' hw'=>by simp[execOp,hv w' hw'],ht⟩
 ·obtain⟨v,hv,ht⟩:=evConv_ok (w:=w) h hp (r.ev _)
  exact⟨v,fun w' hw'=>by simp[execOp,hv w' hw'],ht⟩
 ·obtain⟨v,hv,ht⟩:=evFieldAddr_ok (w:=w) h (r.ev _)
  exact⟨v,fun w' hw'=>by simp[execOp,hv w' hw'],ht⟩
 ·obtain⟨v,hv,ht⟩:=evField_ok (w:=w) h (r.ev _)
  exact⟨v,fun w' hw'=>by simp[execOp,hv w' hw'],ht⟩
 ·obtain⟨v,hv,ht⟩:=evLoad_ok r.inv h (r.ev _)
  exact⟨v,fun w' hw'=>by simp[execOp,hv w' hw'],ht⟩
 ·rename_i x i
  unfold evExtract at h
  split at h
  ·rename_i cs hcs
   split at h
   ·rename_i c hc
    simp only[Option.some.injEq,Prod.mk.injEq] at h
    obtain⟨_,rfl⟩:=h
    have hx:=r.ev x
    rw[hcs] at hx
    obtain⟨vs,hv,hl,hr⟩:=hx.inv_tup
    have hlt:i<vs.length:=by rw[←hl];exact(List.getElem?_eq_some_iff.1 hc).1
    have hvi:=List.getElem?_eq_getElem hlt
    exact⟨vs[i],fun w' _=>by simp[execOp,hv,Instr.extract,hvi],hr i c _ hc hvi⟩
   ·cases h
  ·cases h
 ·obtain⟨v,hv,ht⟩:=evIndex_ok (w:=w) h hp (r.ev _) (r.ev _)
  exact⟨v,fun w' hw'=>by simp[execOp,hv w' hw'],ht⟩
 ·rename_i fn first cap
  split at h
  ·rename_i f' hfirst
   simp only[Option.some.injEq,Prod.mk.injEq] at h
   obtain⟨_,rfl⟩:=h
   have hf:first= #[]:=by rw[←Array.toArray_toList (xs:=first),hfirst]
   subst hf
   refine⟨.func (.func f') #[] (cap.toList.map a.eval).toArray,fun w' _=>?_,.clo f' _ _ (by simp) fun i x u hx hu=>?_⟩
   ·simp only[execOp,Instr.makeFunc]
    have:cap.map a.eval=(cap.toList.map a.eval).toArray:=by rw[←Array.toList_inj];simp
    rw[this]
    simp
   ·simp only[List.getElem?_map,Option.map_eq_some_iff] at hx hu
    obtain⟨y,hy,rfl⟩:=hx
    obtain⟨y',hy',rfl⟩:=hu
    rw[hy] at hy';cases hy'
    exact r.ev y
  ·cases h
 ·rename_i x
  have hx:=r.ev x
  split at h
  ·rename_i l off hl
   simp only[Option.some.injEq,Prod.mk.injEq] at h
   obtain⟨_,rfl⟩:=h
   rw[hl] at hx
   obtain⟨b,h0,hγ,hv⟩:=hx.inv_lp
   exact⟨_,fun w' _=>by simp only[execOp,hv];rfl,.lp l off b h0 hγ⟩
  ·rename_i r' off hl
   simp only[Option.some.injEq,Prod.mk.injEq] at h
   obtain⟨_,rfl⟩:=h
   rw[hl] at hx
   obtain⟨b,o,U,hv,h1,h2⟩:=hx.inv_ea
   exact⟨_,fun w' _=>by simp only[execOp,hv];rfl,.ea r' off b o U h1 h2⟩
  ·rename_i f cs hl
   simp only[Option.some.injEq,Prod.mk.injEq] at h
   obtain⟨_,rfl⟩:=h
   rw[hl] at hx
   obtain⟨vs,hv,h1,h2⟩:=hx.inv_clo
   exact⟨_,fun w' _=>by simp only[execOp,hv];rfl,.clo f cs vs h1 h2⟩
  ·cases h
 ·rename_i args ts
  split at h
  ·rename_i x t' hargs hts
   obtain⟨v,hv,ht⟩:=evLen_ok (rt:=ty) r.inv h (r.ev _)
   have ha:args= #[x]:=by rw[←Array.toArray_toList (xs:=args),hargs]
   have hb:ts= #[t']:=by rw[←Array.toArray_toList (xs:=ts),hts]
   subst ha;subst hb
   exact⟨v,fun w' hw'=>by simp[execOp,resolve,invoke,builtin,hv w' hw'],ht⟩
  ·cases h
 ·rename_i args ts
  split at h
  ·rename_i x y hargs
   split at h
   ·rename_i k a' k' b' hx hy
    simp only[Option.some.injEq,Prod.mk.injEq] at h
    obtain⟨_,rfl⟩:=h
    have h1:=(hx▸r.ev x:RT g (.d (.v (.int k a'))) _).inv_v
    have h2:=(hy▸r.ev y:RT g (.d (.v (.int k' b'))) _).inv_v
    have ha:args= #[x,y]:=by rw[←Array.toArray_toList (xs:=args),hargs]
    subst ha
    refine⟨.int k (max a' b'),fun w' hw'=>?_,.d _ _ (.v _)⟩
    have e:max a' b'=if b'>a' then b' else a':=by split<;>omega
    simp[execOp,resolve,invoke,builtin,h1,h2,run_max_int2,e]
   ·cases h
  ·cases h
 ·rename_i args ts
  split at h
  ·rename_i x y hargs
   split at h
   ·rename_i k a' k' b' hx hy
    simp only[Option.some.injEq,Prod.mk.injEq] at h
    obtain⟨_,rfl⟩:=h
    have h1:=(hx▸r.ev x:RT g (.d (.v (.int k a'))) _).inv_v
    have h2:=(hy▸r.ev y:RT g (.d (.v (.int k' b'))) _).inv_v
    have ha:args= #[x,y]:=by rw[←Array.toArray_toList (xs:=args),hargs]
    subst ha
    refine⟨.int k (min a' b'),fun w' hw'=>?_,.d _ _ (.v _)⟩
    have e:min a' b'=if b'<a' then b' else a':=by split<;>omega
    simp[execOp,resolve,invoke,builtin,h1,h2,run_min_int2,e]
   ·cases h
  ·cases h
 ·cases h
theorem ev1_ok (r:Rel N w0 σ0 S a w g){d:Option Nat}{op:Op}{ty:TypeId}{pos:String}{after:Array Edge}{gd:Option (Nat×Bool)}{p:Prop}{t:T}
 (h:ev1 E S op ty=some (p,t)) (hp:p): ∃v,(execOp a.eval ⟨d,op,ty,pos,after,gd⟩).run E.P w=.ok (.value v) w∧RT g t v:=
 let ⟨v,h1,h2⟩:=ev1_all r h hp
 ⟨v,h1 w (.refl _ _),h2⟩
end
theorem WL.simple {E:Env}{N:Nm}{Q:Exit→St→Prop}{S:St}{ops l:List Oper}{op:Op}{ty:TypeId}{pos:String}{after:Array Edge}{gd:Option (Nat×Bool)}{d:Nat}{p:Prop}{t:T}
 (hw:S.want ops ⟨some d,op,ty,pos,after,gd⟩=some true) (hd:Nat.blt d N.n=true) (h:ev1 E S op ty=some (p,t)) (hp:p)
 (k:WL E.P N ops l Q (S.set d t)):WL E.P N ops (⟨some d,op,ty,pos,after,gd⟩::l) Q S:=
 WL.val hw hd (fun w0 σ0 a w g r=>ev1_ok r h hp) k
end Go.Proofs.YtmmjbpgdkokjgaaGreatDoor
