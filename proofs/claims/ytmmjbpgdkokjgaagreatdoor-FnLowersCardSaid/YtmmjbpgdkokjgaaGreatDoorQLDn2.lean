/-
  A text of this claim. Conditions: none.
-/
import Derived.Test.YtmmjbpgdkokjgaaGreatDoorQLPgC
import Derived.WideLaws
set_option linter.unusedVariables false
set_option linter.unusedSimpArgs false
set_option maxRecDepth 100000
set_option maxHeartbeats 16000000
namespace Go.Proofs.YtmmjbpgdkokjgaaGreatDoor
open Go.RowKit
def gvX (b:Nat)(u:Value):ObX where
 ok σ h F v:=σ b 0=some u∧v.oneCell'=true
 mono hσ _ h:=⟨hσ _ _ _ h.1,h.2⟩
 one h:=h.2
theorem FunQ.ofRawG {P:Program}{f:FuncId}{args:List D}{t:T}{b:Nat}{x:Value}(he: ∀(vals:Array Value) (w:World),(callFunc f vals).run P w=.ok (.enter f vals) w)
 (h: ∀(w:World) (σ0:Sto) (vals:List Value),(∀b o u,σ0 b o=some u→w.cell? ⟨b,o,none⟩=some u)→w.cell? ⟨b,0,none⟩=some x→vals.length=args.length→(∀(i:Nat) (x:D) (u:Value),args[i]? =some x→vals[i]? =some u→RD σ0 x u)→
   Calls P f vals.toArray w fun e w'=> ∃v,e=.returned v∧Below w.heap.size w w'∧ ∀g,RT g t v):FunQ P f (args.map .d) [.x (gvX b x) 0] (just t [.x (gvX b x) 0]):=by
 refine⟨he,fun w g vals hI hl hr=>?_⟩
 have ho:=hI.obs 0 _ rfl
 obtain⟨ho1,⟨ho2,ho3⟩,ho4⟩:=ho
 refine(h w g.σ vals hI.con (hI.con _ _ _ ho2) (by simpa using hl) fun i x u hx hu=>(hr i (.d x) u (by simp[hx]) hu).inv_d).mono fun e w' ⟨v,h1,h2,h3⟩=>?_
 have hc: ∀b o u,g.σ b o=some u→w'.cell? ⟨b,o,none⟩=some u:=fun b o u hu=>by
  rw[World.cell?_of_block (w:=w) (w':=w') (h2.block b (World.block_lt_of_cell? w ⟨b,o,none⟩ (hI.con b o u hu)))]
  exact hI.con b o u hu
 refine⟨v,t,[.x (gvX b x) 0],g,h1,⟨rfl,rfl⟩,⟨hI.below.trans h2,hI.old,hc,fun k o hk=>?_,hI.lim,hI.dis,hI.ext⟩,h3 g⟩
 match k with
 |0=>
  simp at hk
  subst hk
  refine⟨ho1,⟨ho2,ho3⟩,fun b hb=>?_⟩
  obtain⟨q1,q2,q3⟩:=ho4 b hb
  exact⟨q1,Nat.lt_of_lt_of_le q2 h2.size,q3⟩
 |k+1=>simp at hk
theorem FunQ.rawG {P:Program}{f:FuncId}{args:List D}{t:T}{b:Nat}{x:Value}(h:FunQ P f (args.map .d) [.x (gvX b x) 0] (just t [.x (gvX b x) 0]))(w:World)(σ0:Sto)(vals:List Value)(hσ: ∀b o u,σ0 b o=some u→w.cell? ⟨b,o,none⟩=some u)(hx:σ0 b 0=some x)(hl:vals.length=args.length)
 (hr: ∀(i:Nat) (x:D) (u:Value),args[i]? =some x→vals[i]? =some u→RD σ0 x u):
 Calls P f vals.toArray w fun e w'=> ∃v g,e=.returned v∧Below w.heap.size w w'∧(∀b o u,g.σ b o=some u→w'.cell? ⟨b,o,none⟩=some u)∧RT g t v:=by
 have hI:Inv w (baseOf [.x (gvX b x) 0] ⟨σ0,fun _ _=>.bool true,fun k=>if k=0 then 1 else 0,fun _ _=>False⟩) [.x (gvX b x) 0] w ⟨σ0,fun _ _=>.bool true,fun k=>if k=0 then 1 else 0,fun _ _=>False⟩:=by
  refine⟨.refl _ _,fun _ _ _ _=>rfl,hσ,fun k o h=>?_,fun k hk=>?_,fun k k' o o' b _ h _ hb=>?_,fun k _=>.inr rfl⟩
  ·match k with
   |0=>
    simp at h
    subst h
    exact⟨rfl,⟨hx,rfl⟩,fun b hb=>hb.elim⟩
   |k+1=>simp at h
  ·simp only[List.length_singleton] at hk
   show(if k=0 then 1 else 0)=0
   rw[if_neg (by omega)]
  ·match k with
   |0=>
    simp at h
    subst h
    exact hb.elim
   |k+1=>simp at h
 refine(h.calls w _ vals hI (by simpa using hl) fun i x u hx hu=>?_).mono fun e w' ⟨v,t',ob',g',he,⟨h1,h2⟩,J,hv⟩=>?_
 ·simp only[List.getElem?_map,Option.map_eq_some_iff] at hx
  obtain⟨y,hy,rfl⟩:=hx
  exact .d _ _ (hr i y u hy hu)
 ·subst h1
  refine⟨v,g',he,⟨J.below.os,J.below.tape,J.below.output,J.below.size,fun b hb=>J.below.block b hb fun⟨k,o,h,h'⟩=>?_⟩,J.con,hv⟩
  match k with
  |0=>
   simp at h
   subst h
   exact h'
  |k+1=>simp at h
section
variable {E:Env}{N:Nm}{Q:Exit→St→Prop}{ops l:List Oper}{ty:TypeId}{pos:String}{after:Array Edge}{gd:Option (Nat×Bool)}{d:Nat}{tm:Nat→T}{ob:List Ob}{G:List Nat}
end
end Go.Proofs.YtmmjbpgdkokjgaaGreatDoor
