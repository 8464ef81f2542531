/-
  A text of this claim. Conditions: none.
-/
import Derived.RangeFuncNested
import Derived.RangeFuncBound
import Derived.RangeFuncCalls
import Derived.RangeFuncLeaves
import Derived.Shelf.Abstract
import Derived.Shelf.RegionOpen
import Derived.WalkKit
import Derived.OwnWalkIn
import Derived.TacticsInMore
import Derived.LoopNIn
import Derived.LoopIn
import Derived.Test.YtmmjbpgdkokjgaaGreatDoorQLOr1
import Derived.Test.YtmmjbpgdkokjgaaGreatDoorQLPgF
set_option linter.unusedVariables false
set_option linter.unusedSimpArgs false
set_option maxRecDepth 100000
set_option maxHeartbeats 16000000
namespace Go.Proofs.YtmmjbpgdkokjgaaGreatDoor
open Go.RowKit
open Go.RowKit Go.Shelf
attribute [local go_sem] Oper.semAt_some
def KpB (lo hi:Nat)(W W':World):Prop:= ∀k,lo≤k→k<hi→W'.heap[k]? =W.heap[k]?
theorem KpB.refl (lo hi:Nat)(W:World):KpB lo hi W W:=fun _ _ _=>rfl
theorem KpB.trans {lo hi:Nat}{A B C:World}(h:KpB lo hi A B)(k:KpB lo hi B C):KpB lo hi A C:=fun i h1 h2=>(k i h1 h2).trans (h i h1 h2)
theorem KpB.cell {lo hi:Nat}{W W':World}(h:KpB lo hi W W'){b o:Nat}(hb:lo≤b∧b<hi):W'.cell? ⟨b,o,none⟩=W.cell? ⟨b,o,none⟩:=World.cell?_of_block (w:=W) (h b hb.1 hb.2)
theorem KpB.put {lo hi:Nat}{w:World}(hw:hi≤w.heap.size)(W:World)(l:Nat)(o o':Obj)(hl:w.heap.size≤l)(_:W.heap[l]? =some o)(_:o.isCells=false)(_:o.isWalk=false):KpB lo hi W (W.putObj l o'):=fun k _ hk=>
 World.putObj_heap_other (by omega)
theorem KpB.below {lo hi:Nat}{W W':World}(h:Below W.heap.size W W')(hi':hi≤W.heap.size):KpB lo hi W W':=fun k _ hk=>h.block k (by omega)
theorem KpB.set {lo hi:Nat}(W:World)(p:Addr)(v:Value)(h:p.block<lo):KpB lo hi W (W.setCell p v):=fun k h1 _=>Below.heap_setCell W p v k (by omega)
set_option maxRecDepth 100000 in
theorem back1_in (F:Fence)(n:Nat)(hf:F.fn 126)(hro:F.round=none)(hn:1≤n)(l Bs lo hi b off len cap:Nat)(zs:List Int)(hreach:len*8≤140737488351232)(hb:lo≤b∧b<hi)(hBn:lo≤Bs∧Bs<hi)(J Jx:List Nat→World→Prop)
 (hY: ∀pre (x:Nat) W,J pre W→pre.length<len→YieldAt F (n - 1) Tryz.prog l #[.int .i64 ((len - 1 - x:Nat):Int),.int .i64 (zs[len - 1 - x]?.getD 0)] W fun e W'=>
   (e=.returned (.bool true)∧J (pre++[x]) W'∧KpB lo hi W W')∨(e=.returned (.bool false)∧Jx (pre++[x]) W'))
 (W:World) (hBs:W.cell? ⟨Bs,0,none⟩=some (.slice (some ⟨b,off,none⟩) len cap)) (hc: ∀j,j<len→W.cell? ⟨b,off+j,none⟩=some (.int .i64 (zs[j]?.getD 0))) (h0:J [] W):
 CallsIn F n Tryz.prog 126 #[.func (.yield l) #[] #[],.pointer (some ⟨Bs,0,none⟩)] W fun e W'=>(∃v,e=.returned v)∧
  ((∃ys,ys=List.range len∧J ys W')∨(∃pre,(∃k,k≤len∧pre=List.range k)∧Jx pre W')):=by
 refine callsIn_of_wp Tryz.func126 rfl hf ?_ hro
 simp only[Tryz.ntmps126,List.size_toArray,List.length_cons,List.length_nil,Nat.reduceAdd,Nat.reduceSub,Array.replicate_succ,Array.replicate_zero,List.push_toArray,List.append_toArray,List.nil_append,List.cons_append]
 gi_wp2
 gi_loopw [3] (fun i wr=> ∃k r:Nat,(k+r≤len∧len≤k+r)∧i=.int .i64 ((r:Int) - 1)∧J (List.range k) wr∧KpB lo hi W wr)
  (fun i _=>(intOf i+1).toNat)
 case atStart=>exact⟨0,len,⟨by omega,by omega⟩,rfl,h0,KpB.refl _ _ _⟩
 case round=>
  obtain⟨k,r,hk,rfl,hJs,hnx⟩:=hrel
  have hBx:=(hnx.cell (o:=0) hBn).trans hBs
  cases r with
  |zero=>
   obtain rfl:k=len:=by omega
   gi_wp2
   go_end0
   exact⟨⟨_,rfl⟩,.inl ⟨_,rfl,hJs⟩⟩
  |succ j=>
   have ej:(((j+1:Nat):Int) - 1)=(j:Int):=by omega
   rw[ej]
   obtain⟨fn,tmps,assign,body,hy,hR⟩:=hY _ k wr hJs (by rw[List.length_range];omega)
   have e1:len - 1 - k=j:=by omega
   rw[e1] at hy
   have hcx:wr.cell? ⟨b,off+j,none⟩=some (.int .i64 (zs[j]?.getD 0)):=(hnx.cell (o:=off+j) hb).trans (hc j (by omega))
   gi_wp2
   refine hR.mono ?_
   rintro e W3 (⟨rfl,hJ3,hk3⟩|⟨rfl,hJx3⟩)
   ·gi_wp2
    go_roundw
    case rel=>exact⟨k+1,j,⟨by omega,by omega⟩,rfl,by rw[List.range_succ];exact hJ3,hnx.trans hk3⟩
    case measure=>simp[intOf]
   ·gi_wp2
    refine bodyPost_ret (results_none rfl _ _ _) rfl ?_
    exact⟨⟨_,rfl⟩,.inr ⟨_,⟨k+1,by omega,List.range_succ.symm⟩,hJx3⟩⟩
set_option maxRecDepth 100000 in
theorem back0_in (F:Fence)(n:Nat)(hf:F.fn 126)(hro:F.round=none)(l Bs cap:Nat)(A:Option Addr)(J:List Nat→World→Prop)(W:World)(hBs:W.cell? ⟨Bs,0,none⟩=some (.slice A 0 cap))(h0:J [] W):
 CallsIn F n Tryz.prog 126 #[.func (.yield l) #[] #[],.pointer (some ⟨Bs,0,none⟩)] W fun e W'=>(∃v,e=.returned v)∧J [] W':=by
 refine callsIn_of_wp Tryz.func126 rfl hf ?_ hro
 simp only[Tryz.ntmps126,List.size_toArray,List.length_cons,List.length_nil,Nat.reduceAdd,Nat.reduceSub,Array.replicate_succ,Array.replicate_zero,List.push_toArray,List.append_toArray,List.nil_append,List.cons_append]
 gi_wp2
 gi_loopw [3] (fun i wr=>i=.int .i64 (-1)∧J [] wr) (fun _ _=>0)
 case atStart=>exact⟨rfl,h0⟩
 case round=>
  obtain⟨rfl,hJs⟩:=hrel
  gi_wp2
  go_end0
  exact⟨⟨_,rfl⟩,hJs⟩
theorem back_in (F:Fence)(n:Nat)(hf:F.fn 72)(hro:F.round=none)(a:Option Addr)(len cap:Nat)(w:World):
 CallsIn F n Tryz.prog 72 #[.slice a len cap] w fun e w'=>e=.returned (.func (.func 126) #[] #[.pointer (some ⟨w.heap.size,0,none⟩)])∧w'=w.alloc (.cells #[.slice a len cap] 78):=by
 refine callsIn_of_wp Tryz.func72 rfl hf ?_ hro
 simp only[Tryz.ntmps72,List.size_toArray,List.length_cons,List.length_nil,Nat.reduceAdd,Nat.reduceSub,Array.replicate_succ,Array.replicate_zero,List.push_toArray,List.append_toArray,List.nil_append,List.cons_append]
 gi_wp2
 go_ret
 exact⟨rfl,rfl⟩
def IntsAt (lo hi:Nat)(W:World)(sv:Value)(zs:List Int):Prop:=
 (∃A cap,sv=.slice A 0 cap∧zs=[])∨ ∃b off cap,sv=.slice (some ⟨b,off,none⟩) zs.length cap∧(lo≤b∧b<hi)∧ ∀j,j<zs.length→W.cell? ⟨b,off+j,none⟩=some (.int .i64 (zs[j]?.getD 0))
theorem IntsAt.kept {lo hi:Nat}{A B:World}(h:KpB lo hi A B){sv:Value}{zs:List Int}:IntsAt lo hi A sv zs→IntsAt lo hi B sv zs
 |.inl e=>.inl e
 |.inr ⟨b,off,cap,e,hb,hc⟩=>.inr ⟨b,off,cap,e,hb,fun j hj=>(h.cell (o:=off+j) hb).trans (hc j hj)⟩
theorem IntsAt.up {lo hi hi':Nat}(h:hi≤hi'){W:World}{sv:Value}{zs:List Int}:IntsAt lo hi W sv zs→IntsAt lo hi' W sv zs
 |.inl e=>.inl e
 |.inr ⟨b,off,cap,e,hb,hc⟩=>.inr ⟨b,off,cap,e,⟨hb.1,by omega⟩,hc⟩
theorem IntsAt.slice {lo hi:Nat}{W:World}{sv:Value}{zs:List Int}(h:IntsAt lo hi W sv zs): ∃a cap,sv=.slice a zs.length cap:=by
 rcases h with⟨A,cap,rfl,rfl⟩|⟨b,off,cap,rfl,_⟩
 ·exact⟨_,_,rfl⟩
 ·exact⟨_,_,rfl⟩
theorem IntsAt.ofRD {σ:Sto}{lo:Nat}{w:World}{zs:List Int}{sv:Value}(hσ: ∀b o u,σ b o=some u→w.cell? ⟨b,o,none⟩=some u)(hlo: ∀b o u,σ b o=some u→lo≤b)(h:RD σ (.sl 1 (zs.map fun z=>[D.v (.int .i64 z)])) sv):IntsAt lo w.heap.size w sv zs:=by
 generalize hr:zs.map (fun z=>[D.v (.int .i64 z)])=rows at h
 cases h with
 |nil _ A=>
  have:zs=[]:=by simpa using hr
  subst this
  exact .inl ⟨A,0,rfl,rfl⟩
 |sl _ _ b off cap U hcap hm hz hc hrd=>
  have hlen:rows.length=zs.length:=by rw[←hr];simp
  by_cases h0:zs=[]
  ·subst h0
   rw[hlen]
   exact .inl ⟨_,_,rfl,rfl⟩
  ·have hcell: ∀j,j<zs.length→lo≤b∧w.cell? ⟨b,off+j,none⟩=some (.int .i64 (zs[j]?.getD 0)):=fun j hj=>by
    have h1:=(hc j 0 (by omega) (by omega)).1
    have h2:=hrd j 0 _ _ (show rows[j]? =some [D.v (.int .i64 (zs[j]?.getD 0))] by rw[←hr];simp[hj]) rfl
    have h3:U j 0=.int .i64 (zs[j]?.getD 0):=by
     revert h2
     generalize U j 0=q
     intro h2
     cases h2
     rfl
    rw[Nat.mul_one,Nat.add_zero,h3] at h1
    exact⟨hlo _ _ _ h1,hσ _ _ _ h1⟩
   have hpos:0<zs.length:=List.length_pos_iff.2 h0
   rw[hlen]
   exact .inr ⟨b,off,cap,rfl,⟨(hcell 0 hpos).1,World.block_lt_of_cell? w ⟨b,off+0,none⟩ (hcell 0 hpos).2⟩,fun j hj=>(hcell j hj).2⟩
theorem back_stops (F:Fence)(n:Nat)(hf:F.fn 126)(hro:F.round=none)(hn:1≤n)(Bs lo hi:Nat)(sv:Value)(zs:List Int)(hreach:zs.length*8≤140737488351232)(w:World)(hBs:lo≤Bs∧Bs<hi)(hn₀:hi≤w.heap.size)
 (hc:w.cell? ⟨Bs,0,none⟩=some sv) (hI:IntsAt lo hi w sv zs):
 SeqStopsK F n Tryz.prog 126 #[.pointer (some ⟨Bs,0,none⟩)] (fun x:Nat=> #[Value.int .i64 ((zs.length - 1 - x:Nat):Int),Value.int .i64 (zs[zs.length - 1 - x]?.getD 0)]) (KpB lo hi) (fun ys=>ys=List.range zs.length) (fun pre=> ∃k,k≤zs.length∧pre=List.range k) zs.length w:=fun l J Jx W hW _ _ hY h0=>by
 have hK:=KpB.below (lo:=lo) hW hn₀
 have hc':=(hK.cell (o:=0) hBs).trans hc
 rcases hI.kept hK with⟨A,cap,rfl,rfl⟩|⟨b,off,cap,rfl,hb,hcs⟩
 ·exact(back0_in F n hf hro l Bs cap A J W hc' h0).mono fun e W' ⟨he,hj⟩=>⟨he,.inl ⟨_,rfl,hj⟩⟩
 ·refine(back1_in F n hf hro hn l Bs lo hi b off zs.length cap zs hreach hb hBs J Jx hY W hc' hcs h0).mono ?_
  rintro e W' ⟨he,⟨ys,rfl,hj⟩|⟨pre,⟨k,hk,rfl⟩,hj⟩⟩
  ·exact⟨he,.inl ⟨_,rfl,hj⟩⟩
  ·exact⟨he,.inr ⟨_,⟨k,hk,rfl⟩,hj⟩⟩
theorem Fun.raw0 {P:Program}{f:FuncId}{args:List D}{t:T}{ob:List Ob}(h:Fun P f args t ob)(w:World)(vals:List Value)(hl:vals.length=args.length)
 (hr: ∀(i:Nat) (x:D) (u:Value),args[i]? =some x→vals[i]? =some u→RD (fun _ _=>none) x u):
 Calls P f vals.toArray w fun e w'=> ∃v g,e=.returned v∧Below w.heap.size w w'∧(∀b o u,g.σ b o=some u→w'.cell? ⟨b,o,none⟩=some u)∧(∀b o u,g.σ b o=some u→w.heap.size≤b)∧RT g t v:=by
 have hI:Inv w (baseOf [] ⟨fun _ _=>none,fun _ _=>undef,fun _=>0,fun _ _=>False⟩) [] w ⟨fun _ _=>none,fun _ _=>undef,fun _=>0,fun _ _=>False⟩:=
  ⟨.refl _ _,fun _ _ _ _=>rfl,(fun b o u h=>by cases h),fun k o h=>by simp at h,fun _ _=>rfl,fun k k' o o' b _ h=>by simp at h,fun k h=>by simp[baseOf] at h⟩
 refine(h.calls w ⟨fun _ _=>none,fun _ _=>undef,fun _=>0,fun _ _=>False⟩ vals hI (by simpa using hl) fun i x u hx hu=>?_).mono fun e w' ⟨v,t',ob',g',he,⟨h1,h2⟩,J,hv⟩=>?_
 ·simp only[List.getElem?_map,Option.map_eq_some_iff] at hx
  obtain⟨y,hy,rfl⟩:=hx
  exact .d _ _ (hr i y u hy hu)
 ·subst h1
  refine⟨v,g',he,⟨J.below.os,J.below.tape,J.below.output,J.below.size,fun b hb=>J.below.block b hb fun⟨k,o,h,_⟩=>by simp at h⟩,J.con,fun b o u hu=>?_,hv⟩
  by_cases hb:b<w.heap.size
  ·rw[J.old b o hb (fun⟨k,o,h,_⟩=>by simp at h)] at hu
   cases hu
  ·omega
theorem box_new (W:World)(v:Value)(t:TypeId):(W.alloc (.cells #[v] t)).cell? ⟨W.heap.size,0,none⟩=some v∧(W.alloc (.cells #[v] t)).frozen? ⟨W.heap.size,0,none⟩=false:=by
 have h:=World.alloc_heap_new W (.cells #[v] t)
 constructor
 ·unfold World.cell?;rw[h];rfl
 ·unfold World.frozen?;rw[h];rfl
theorem cell_grown {W:World}{a:Addr}{v:Value}(o:Obj)(h:W.cell? a=some v):(W.alloc o).cell? a=some v:=cell_kept h (World.grownBy_alloc W o none) (fun r e=>by cases e)
theorem frozen_grown {W:World}{a:Addr}{v:Value}(o:Obj)(h:W.cell? a=some v)(hf:W.frozen? a=false):(W.alloc o).frozen? a=false:=(frozen_kept h (World.grownBy_alloc W o none) (fun r e=>by cases e)).trans hf
theorem KeepsOthers.of_below {W W':World}(h:Below W.heap.size W W'):KeepsOthers W W':=⟨h.size,fun k o hk _=>(h.block k (Array.getElem?_eq_some_iff.1 hk).1).trans hk⟩
theorem cell_other {W:World}{a p:Addr}{v u:Value}(h:W.cell? a=some v)(hne:a.block≠p.block):(W.setCell p u).cell? a=some v:=(World.cell?_of_block (Below.heap_setCell W p u a.block hne)).trans h
theorem frozen_other {W:World}{a p:Addr}{u:Value}(h:W.frozen? a=false)(hne:a.block≠p.block):(W.setCell p u).frozen? a=false:=(World.frozen?_of_block (Below.heap_setCell W p u a.block hne)).trans h
theorem cell_below {W W':World}{a:Addr}{v:Value}(hB:Below W.heap.size W W')(h:W.cell? a=some v):W'.cell? a=some v:=(hB.cell (World.block_lt_of_cell? W a h)).trans h
theorem frozen_below {W W':World}{a:Addr}{v:Value}(hB:Below W.heap.size W W')(h:W.cell? a=some v)(hf:W.frozen? a=false):W'.frozen? a=false:=(hB.frozen (World.block_lt_of_cell? W a h)).trans hf
theorem intsN_length (l:List Nat):(intsN l).length=l.length:=by simp[intsN]
theorem intsN_at (l:List Nat)(i:Nat)(h:i<l.length):(intsN l).getD i default=((l.getD i default:Nat):Int):=by simp[intsN,h]
theorem rd_rows {σ:Sto}{z:Nat}{rows:List (List D)}{tv:Value}(h:RD σ (.sl z rows) tv)(h0:0<rows.length):
 ∃b off cap U,tv=.slice (some ⟨b,off,none⟩) rows.length cap∧(∀(i j:Nat),i<rows.length→j<z→σ b (off+i*z+j)=some ((U:Nat→Nat→Value) i j))∧(∀(i j:Nat) (r:List D) (x:D),rows[i]? =some r→r[j]? =some x→RD σ x (U i j)):=by
 cases h with
 |nil _ A=>simp at h0
 |sl _ _ b off cap U hcap hm hz hc hr=>exact⟨b,off,cap,U,rfl,fun i j hi hj=>(hc i j hi hj).1,hr⟩
theorem RD.val_v {σ:Sto}{x u:Value}(h:RD σ (.v x) u):u=x:=by cases h;rfl
theorem entersF {P:Program}{f:FuncId}{fn:Func}{c:Code}(hf:P.funcs[f]? =some fn)(hb:fn.body=some c)(hname:(fn.name== "runtime.NumGoroutine")=false)(vals:Array Value)(w:World):
 (callFunc f vals).run P w=.ok (.enter f vals) w:=by
 unfold callFunc
 simp only[Sem.run_bind,run_program,Result.andThen_ok,hf,hname,hb,Bool.false_eq_true,if_false,Option.isNone_some,Sem.run_pure]
end Go.Proofs.YtmmjbpgdkokjgaaGreatDoor
