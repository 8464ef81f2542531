/-
  A text of this claim. Conditions: none.
-/
import Derived.Test.YtmmjbpgdkokjgaaGreatDoorQLTr4
import Derived.Test.YtmmjbpgdkokjgaaGreatDoorQLPgE
import Derived.Test.YtmmjbpgdkokjgaaGreatDoorQLPgG
set_option linter.unusedVariables false
set_option linter.unusedSimpArgs false
set_option maxRecDepth 100000
set_option maxHeartbeats 16000000
namespace Go.Proofs.YtmmjbpgdkokjgaaGreatDoor
open Go.RowKit
abbrev natRows (l:List Nat):List (List D):=(intsN l).map intRow
theorem named_length (n:Nd):n.named.length=arN n.op:=by
 have:=arN_le n.op
 simp[Nd.named];omega
theorem kids_arN {ns:List Nd}{k:Nat}(h: ∀m∈nmT ns k,0≤m∧m<k):(kidsOf (nmT ns) k).length=arN (ns.getD k default).op:=by
 rw[kidsOf_length h];exact named_length _
theorem kids_at {ns:List Nd}{k:Nat}(h: ∀m∈nmT ns k,0≤m∧m<k){i:Nat}(hi:i<(kidsOf (nmT ns) k).length):kidI (ns.getD k default) i=(((kidsOf (nmT ns) k).getD i default:Nat):Int):=by
 have e:=kidsOf_eq h
 have h1:(nmT ns k).getD i default=((kidsOf (nmT ns) k).getD i default:Nat):=by
  rw[e];exact intsN_at _ i hi
 have hi2:i<arN (ns.getD k default).op:=by rw[←kids_arN h];exact hi
 have hle:=arN_le (ns.getD k default).op
 rw[←h1]
 have:i=0∨i=1∨i=2:=by omega
 have hg:(nmT ns k).getD i default=kidI (ns.getD k default) i:=by
  unfold nmT Nd.named
  rw[List.getD_eq_getElem?_getD,List.getElem?_take,if_pos hi2]
  rcases this with rfl|rfl|rfl<;>rfl
 exact hg.symm
theorem l5Order_fn (ns:List Nd)(hl:ns.length≤1048)(hok:NmOK ns): ∀k,k<ns.length→ ∀out:List Nat,out.length≤4096+ns.length→
 FunQ env.P 110 [.d (nodesD ns),.d (dI k),.og 0 0] [.gr 1 2 (natRows out) 0 false] (just (.og 1 0) [.dead,.gr 1 2 (natRows (ordM (nmT ns) ns.length k out)) 0 false]):=fun k=>by
 induction k using Nat.strongRecOn with
 |_ k ih=>
  intro hk out hout
  have hka:=kids_arN (hok k hk)
  have hkat:=fun i hi=>kids_at (hok k hk) (i:=i) hi
  have hlt: ∀j∈kidsOf (nmT ns) k,j<k:=fun j hj=>kidsOf_lt hj
  have hord:=ordM_p (nmT ns) ns.length
  rw[ordM_eq]
  generalize kidsOf (nmT ns) k=ks at hka hkat hlt
  have hkl:=arN_le (ns.getD k default).op
  refine FunQ.intro Tryz.func110 rfl (by kernel_rfl) rfl ?_
  refine W.imp ((St.imp.mov 0 0 rfl rfl).trans (St.imp.of_le (S':=⟨ofL [(0,.d (nodesD ns)),(1,vI .i64 k),(2,.og 1 0)],[.dead,.gr 1 2 (natRows out) 0 false]⟩) lE)) ?_
  repeat(first|refine Z1 ?_)
  have hat:ns.getD (Int.toNat k) default=ns.getD k default:=by simp
  rw[hat]
  generalize ns.getD k default=n at hka hkat hkl
  clear hat
  have hks:=l5Kids_fn n.op
  rw[←hka] at hks
  refine W.loopI (fun m S=> ∃(i:Nat) (o:List Nat),m=ks.length - i∧(i≤ks.length∧o.length≤6000∧ordL (nmT ns) ns.length ks out=ordL (nmT ns) ns.length (ks.drop i) o)∧
   S=⟨ofL [(0,.d (nodesD ns)),(1,vI .i64 k),(2,.og 1 0),(7,.lp 2 0),(8,vI .i64 i)],[.dead,.gr 1 2 (natRows o) 0 false,.pv (n.row.map .d)]⟩) _ _ ⟨0,out,rfl,⟨by omega,by omega,rfl⟩,rfl⟩ (St.imp.of_le lE) ?_
  rintro m S ⟨i,o,rfl,⟨hi,ho,he⟩,rfl⟩
  have hlo:(natRows o).length=o.length:=by simp[intsN]
  refine W.seq ?_
  refine W.seq ?_
  refine W.jb 24 (decide (i<ks.length∧o.length≤ns.length)) ?_ ?_
  ·repeat'(first|refine WG.nil ?_|refine WG.run' (E:=env) ?_|refine WG.ixm' (E:=env) ?_|refine WG.c (E:=env) rfl rfl (hks) rfl rfl ?_|(refine WG.sp' (fun h=>?_) fun h=>?_<;>(try simp only[atS,List.length_map,beq_self_eq_true] at h)<;>(try(exfalso;first|contradiction|omega))))
   all_goals refine ⟨rfl,rfl,_,rfl,?_,by(repeat refine leU.step rfl ?_)<;>first|exact leU.forget (leU.refl _)|exact leU.refl _|(repeat(first|exact leU.forget (leU.refl _)|exact leU.refl _|refine leU.step rfl ?_))⟩
   all_goals (simp only[List.length_map,intsN] at *;simp[*];try omega)
  refine W.cond rfl (fun e1=>?_) (fun e1=>?_)
  ·simp only[decide_eq_true_eq] at e1
   have hkd:=l5Kid_fn n i (by omega)
   have hm:=getD_mem' e1.1
   have hj:=hlt _ hm
   have ih':=ih _ hj (by omega) o (by omega)
   rw[←hkat i e1.1] at ih'
   obtain⟨_,_,_,hb⟩:=hord (ks.getD i default) o
   rw[drop_step e1.1,ordL_cons e1.2] at he
   repeat'(first|refine WG.cq (E:=env) (t':=.og 3 0) (ob2:=[.dead,.dead,.pv (n.row.map .d),.gr 1 2 (natRows (ordM (nmT ns) ns.length (ks.getD i default) o)) 0 false]) [1] [0] false rfl rfl ih' rfl rfl rfl rfl rfl rfl rfl ⟨rfl,trivial⟩ (.inl rfl) rfl (fun h=>nomatch h) rfl rfl ?_|refine Z1 ?_|refine WG.c (E:=env) rfl rfl (hkd) rfl rfl ?_)
   exact⟨_,_,by omega,⟨i+1,_,rfl,⟨by omega,by omega,he⟩,rfl⟩,(St.imp.movD 3 0 1 rfl rfl).trans (St.imp.of_le lE)⟩
  ·rw[decide_eq_false_iff_not] at e1
   have hfin:ordL (nmT ns) ns.length ks out=o:=by
    rw[he]
    by_cases hik:i<ks.length
    ·exact ordL_over (by omega)
    ·rw[List.drop_eq_nil_of_le (by omega)];rfl
   rw[hfin]
   have hrow:natRows (o++[k])=natRows o++[[dI k]]:=by simp[natRows,intsN]
   rw[hrow]
   repeat'(first|refine WG.ap (E:=env) rfl rfl rfl rfl rfl rfl rfl rfl rfl rfl rfl (by rw[hlo];show(o.length+1)*8≤_;omega) ?_|refine Z1 ?_|fail)
   refine W.imp (S':=⟨ofL [(6,.og 1 0)],[.dead,.gr 1 2 (natRows o++[[dI k]]) 0 false]⟩) ((St.imp.rev 1 1 rfl).trans (St.imp.of_le lE)) ?_
   refine W.ret ?_
   refine RetQ.r (t:=.og 1 0) (ob:=[.dead,.gr 1 2 (natRows o++[[dI k]]) 0 false]) ⟨rfl,rfl⟩ (RetQ.mk (.inl rfl) rfl rO rfl rfl ?_ rfl)
   exact⟨rfl,.inl rfl,rfl,.inl rfl,trivial⟩
theorem l1Max_fn (a b:Int):Fun env.P 94 [dI a,dI b] (.d (dI (max a b))) []:=by
 refine Fun.intro Tryz.func94 rfl (by kernel_rfl) rfl ?_
 repeat'(first|refine Z1 ?_|((refine SP (fun h=>?_) fun h=>?_)<;>(try(exfalso;first|contradiction|omega))))
 all_goals (refine W.ret ?_;(first|refine RetQ.i' ?_))
 all_goals omega
def dsX (f:Nat→Nat)(n i:Nat)(x:Int):List Int:=(List.range n).map fun j=>if j<i then((f j:Nat):Int) else if j=i then x else 0
theorem dsX_length (f:Nat→Nat)(n i:Nat)(x:Int):(dsX f n i x).length=n:=by simp[dsX]
theorem dsX_at (f:Nat→Nat)(n i:Nat)(x:Int){j:Nat}(h:j<n):(dsX f n i x).getD j default=if j<i then((f j:Nat):Int) else if j=i then x else 0:=by simp[dsX,h]
theorem dsX_set (f:Nat→Nat)(n i:Nat)(x y:Int):(dsX f n i x).set i y=dsX f n i y:=by
 apply List.ext_getElem
 ·simp[dsX]
 ·intro j h1 h2
  simp only[dsX,List.length_map,List.length_range] at h2
  rw[List.getElem_set]
  simp only[dsX,List.getElem_map,List.getElem_range]
  by_cases h:i=j
  ·subst h;simp
  ·rw[if_neg h]
   by_cases hj:j<i
   ·rw[if_pos hj,if_pos hj]
   ·rw[if_neg hj,if_neg hj,if_neg (fun e=>h e.symm),if_neg (fun e=>h e.symm)]
theorem dsX_next (f:Nat→Nat)(n i:Nat):dsX f n i (f i)=dsX f n (i+1) 0:=by
 unfold dsX
 refine List.map_congr_left fun j _=>?_
 by_cases h:j<i
 ·rw[if_pos h,if_pos (by omega)]
 ·rw[if_neg h]
  by_cases e:j=i
  ·subst e;simp
  ·rw[if_neg e,if_neg (by omega)]
   split<;>rfl
theorem dsX_zero (f:Nat→Nat)(n:Nat):dsX f n 0 0=List.replicate n 0:=by
 unfold dsX
 apply List.ext_getElem
 ·simp
 ·intro j h1 h2
  simp
theorem l5Deep_fn (ns:List Nd)(hl:ns.length≤1048)(hok:NmOK ns):Fun env.P 111 [nodesD ns] (.d (dI (maxL (nestM (nmT ns)) (List.range ns.length):Nat))) []:=by
 have hnest:=nestM_le (nmT ns)
 refine Fun.intro Tryz.func111 rfl (by kernel_rfl) rfl ?_
 repeat'(first|refine Z1 ?_|((refine SP (fun h=>?_) fun h=>?_)<;>(try(exfalso;first|contradiction|omega))))
 refine WG.mk (E:=env) (z:=1) (zs:=[dI 0]) rfl rfl rfl rfl rfl rfl rfl rfl rfl rfl rfl ?_ ?_
 ·refine⟨by simp,by simp,?_⟩
  show((8:Nat):Int)*_≤_
  simp;omega
 rw[show List.replicate (((ns.map Nd.row).length:Int)).toNat [dI 0]=(dsX (nestM (nmT ns)) ns.length 0 0).map intRow by rw[dsX_zero];simp]
 repeat'(first|refine Z1 ?_|((refine SP (fun h=>?_) fun h=>?_)<;>(try(exfalso;first|contradiction|omega))))
 refine W.loopI (fun m S=> ∃(i:Nat) (x:Int),m=ns.length - i∧(i≤ns.length∧x=(maxL (nestM (nmT ns)) (List.range i):Nat))∧
  S=⟨ofL [(0,.d (nodesD ns)),(3,.og 0 0),(4,vI .i64 x),(5,vI .i64 i)],[.gr 1 2 ((dsX (nestM (nmT ns)) ns.length i 0).map intRow) 0 false]⟩) _ _ ⟨0,0,rfl,⟨by omega,by simp[maxL]⟩,rfl⟩ (St.imp.of_le lE) ?_
 rintro m S ⟨i,x,rfl,⟨hi,hx⟩,rfl⟩
 by_cases hin:i<ns.length
 ·have hka:=kids_arN (hok i hin)
  have hkat:=fun q hq=>kids_at (hok i hin) (i:=q) hq
  have hlt: ∀j∈kidsOf (nmT ns) i,j<i:=fun j hj=>kidsOf_lt hj
  have heq:=nestM_eq (nmT ns) i
  generalize kidsOf (nmT ns) i=ks at hka hkat hlt heq
  have hkl:=arN_le (ns.getD i default).op
  repeat(first|refine Z1 ?_)
  refine W.cond rfl (fun e1=>?_) (fun e1=>?_)
  rotate_left
  ·exfalso;simp at e1;omega
  repeat(first|refine Z1 ?_)
  have hat:ns.getD (Int.toNat (i:Int)) default=ns.getD i default:=by simp
  have hks:Fun env.P 60 [dI (ns.getD (Int.toNat (i:Int)) default).op] (.d (dI ks.length)) []:=by rw[hat,hka];exact l5Kids_fn _
  refine W.loopI (fun m S=> ∃(q:Nat) (y:Int),m=ks.length - q∧(q≤ks.length∧y=(maxL (nestM (nmT ns)) (ks.take q):Nat))∧
   S=⟨ofL [(0,.d (nodesD ns)),(3,.og 0 0),(4,vI .i64 x),(5,vI .i64 i),(6,vI .i64 q)],[.gr 1 2 ((dsX (nestM (nmT ns)) ns.length i y).map intRow) 0 false]⟩) _ _ ⟨0,0,rfl,⟨by omega,by simp[maxL]⟩,rfl⟩ (St.imp.of_le lE) ?_
  rintro m S ⟨q,y,rfl,⟨hq,hy⟩,rfl⟩
  have hdl:=dsX_length (nestM (nmT ns)) ns.length i y
  have hmy:maxL (nestM (nmT ns)) (ks.take q)≤2096:=maxL_le (by omega) fun j hj=>by
   have:=hlt j (List.mem_of_mem_take hj)
   have:=hnest j
   omega
  by_cases hqk:q<ks.length
  ·have hkd:Fun env.P 112 [.agg (ns.getD (Int.toNat (i:Int)) default).row,dI q] (.d (dI ((ks.getD q default:Nat):Int))) []:=by rw[hat,←hkat q hqk];exact l5Kid_fn _ _ (by omega)
   have hjl:=hlt _ (getD_mem' hqk)
   generalize hkj:ks.getD q default=j at hkd hjl
   have hnj:=hnest j
   have ei:(dsX (nestM (nmT ns)) ns.length i y).getD (Int.toNat (i:Int)) default=y:=by
    rw[Int.toNat_natCast,dsX_at _ _ _ _ hin,if_neg (by omega),if_pos rfl]
   have ej:(dsX (nestM (nmT ns)) ns.length i y).getD (Int.toNat (j:Int)) default=((nestM (nmT ns) j:Nat):Int):=by
    rw[Int.toNat_natCast,dsX_at _ _ _ _ (by omega),if_pos hjl]
   have ri:((dsX (nestM (nmT ns)) ns.length i y).map intRow)[Int.toNat (i:Int)]? =some [dI y]:=by rw[map_row intRow _ _ ⟨by omega,by omega⟩,ei]
   have rj:((dsX (nestM (nmT ns)) ns.length i y).map intRow)[Int.toNat (j:Int)]? =some [dI (nestM (nmT ns) j:Nat)]:=by rw[map_row intRow _ _ ⟨by omega,by omega⟩,ej]
   have hset:((dsX (nestM (nmT ns)) ns.length i y).map intRow).set (Int.toNat (i:Int)) [dI (max y ((nestM (nmT ns) j:Nat):Int))]=(dsX (nestM (nmT ns)) ns.length i (max y ((nestM (nmT ns) j:Nat):Int))).map intRow:=by
    rw[Int.toNat_natCast]
    exact(List.map_set ..).symm.trans (congrArg (List.map intRow) (dsX_set _ _ _ _ _))
   have hbi:0≤(i:Int)∧(i:Int)<((dsX (nestM (nmT ns)) ns.length i y).map intRow).length:=by simp[hdl];omega
   have hbj:0≤(j:Int)∧(j:Int)<((dsX (nestM (nmT ns)) ns.length i y).map intRow).length:=by simp[hdl];omega
   have hmx:=l1Max_fn y ((nestM (nmT ns) j:Nat):Int)
   repeat'(first|(refine W.dre' (id:=9) [17] (fun f=>[.gr 1 2 (bif bt f 1 then((dsX (nestM (nmT ns)) ns.length i y).map intRow).set (Int.toNat (i:Int)) [dI (max y ((nestM (nmT ns) j:Nat):Int))] else(dsX (nestM (nmT ns)) ns.length i y).map intRow) 0 false]) [(0,[0]),(0,[0]),(0,[0]),(0,[0]),(0,[0]),(0,[0]),(0,[0]),(0,[0]),(0,[0]),(0,[0]),(0,[0]),(0,[0]),(0,[0]),(0,[0]),(0,[0]),(0,[0]),(0,[0]),(1,[0])] [.gr 1 2 (((dsX (nestM (nmT ns)) ns.length i y).map intRow).set (Int.toNat (i:Int)) [dI (max y ((nestM (nmT ns) j:Nat):Int))]) 0 false] ?_)|refine WE.c' (E:=env) hkd ?_|refine WE.c' (E:=env) hmx ?_|refine WE.seg' (E:=env) ?_ (.c (OpS1.seg rfl rfl rfl rfl ri rfl rfl rfl rfl rfl) .n)|refine WE.ixo' (E:=env) ?_ (.c (OpS1.ixo rfl rfl rfl rfl rfl rfl rfl rfl hbi) .n)|refine WE.ixo' (E:=env) ?_ (.c (OpS1.ixo rfl rfl rfl rfl rfl rfl rfl rfl hbj) .n)|refine WE.leg' (E:=env) ?_ (.c (OpS1.leg rfl rfl rfl rfl rfl ri rfl) .n)|refine WE.leg' (E:=env) ?_ (.c (OpS1.leg rfl rfl rfl rfl rfl rj rfl) .n)|refine Z2 ?_|refine Z1 ?_|refine WG.c (E:=env) rfl rfl (hks) rfl rfl ?_|((refine SP (fun h=>?_) fun h=>?_)<;>(try(exfalso;first|contradiction|omega))))
   refine⟨_,_,by omega,⟨q+1,max y ((nestM (nmT ns) j:Nat):Int),rfl,⟨by omega,by rw[hy,take_step hqk,maxL_snoc,hkj];omega⟩,rfl⟩,St.imp.of_le (leOb (ob':=[.gr 1 2 ((dsX (nestM (nmT ns)) ns.length i (max y ((nestM (nmT ns) j:Nat):Int))).map intRow) 0 false]) ?_ lE)⟩
   rw[←hset]
  ·have hqe:q=ks.length:=by omega
   have ri:((dsX (nestM (nmT ns)) ns.length i y).map intRow)[Int.toNat (i:Int)]? =some [dI y]:=by rw[map_row intRow _ _ ⟨by omega,by omega⟩,Int.toNat_natCast,dsX_at _ _ _ _ hin,if_neg (by omega),if_pos rfl]
   have hbi:0≤(i:Int)∧(i:Int)<((dsX (nestM (nmT ns)) ns.length i y).map intRow).length:=by simp[hdl];omega
   have hset:((dsX (nestM (nmT ns)) ns.length i y).map intRow).set (Int.toNat (i:Int)) [dI (y+1)]=(dsX (nestM (nmT ns)) ns.length (i+1) 0).map intRow:=by
    rw[Int.toNat_natCast,←dsX_next,heq]
    have e:y+1=((maxL (nestM (nmT ns)) ks+1:Nat):Int):=by rw[hy,hqe,List.take_length];omega
    rw[e]
    exact(List.map_set ..).symm.trans (congrArg (List.map intRow) (dsX_set _ _ _ _ _))
   have hdl2:=dsX_length (nestM (nmT ns)) ns.length (i+1) 0
   have ri2:((dsX (nestM (nmT ns)) ns.length (i+1) 0).map intRow)[Int.toNat (i:Int)]? =some [dI (nestM (nmT ns) i:Nat)]:=by rw[map_row intRow _ _ ⟨by omega,by omega⟩,Int.toNat_natCast,dsX_at _ _ _ _ hin,if_pos (by omega)]
   have hbi2:0≤(i:Int)∧(i:Int)<((dsX (nestM (nmT ns)) ns.length (i+1) 0).map intRow).length:=by simp[hdl2];omega
   repeat'(first|refine WG.ixo (E:=env) rfl rfl rfl rfl rfl rfl rfl rfl hbi ?_|refine WG.leg (E:=env) rfl rfl rfl rfl rfl ri rfl ?_|refine Z1 ?_|refine WG.c (E:=env) rfl rfl (hks) rfl rfl ?_|((refine SP (fun h=>?_) fun h=>?_)<;>(try(exfalso;first|contradiction|omega))))
   refine WG.stE (E:=env) rfl rfl rfl rfl ri rfl rfl rfl rfl ?_
   refine WG.obEq (ob':=[.gr 1 2 ((dsX (nestM (nmT ns)) ns.length (i+1) 0).map intRow) 0 false]) (congrArg (fun r=>[Ob.gr 1 2 r 0 false]) hset) ?_
   repeat'(first|refine WG.ixo (E:=env) rfl rfl rfl rfl rfl rfl rfl rfl hbi2 ?_|refine WG.leg (E:=env) rfl rfl rfl rfl rfl ri2 rfl ?_|refine Z1 ?_|refine WG.c (E:=env) rfl rfl (l1Max_fn x ((nestM (nmT ns) i:Nat):Int)) rfl rfl ?_|((refine SP (fun h=>?_) fun h=>?_)<;>(try(exfalso;first|contradiction|omega))))
   exact⟨_,_,by omega,⟨i+1,max x ((nestM (nmT ns) i:Nat):Int),rfl,⟨by omega,by rw[hx,List.range_succ,maxL_snoc];omega⟩,rfl⟩,(St.imp.of_le lE)⟩
 ·repeat'(first|refine Z1 ?_|((refine SP (fun h=>?_) fun h=>?_)<;>(try(exfalso;first|contradiction|omega))))
  (refine W.ret ?_;(first|refine RetQ.i' ?_))
  rw[hx,show i=ns.length by omega]
def codeFrom (f:Nat→Int):Nat→Nat→Int
 |0,_=>0
 |m+1,k=>if f k≠0 then f k else codeFrom f m (k+1)
theorem codeFrom_zero {f:Nat→Int}: ∀ {m k:Nat},codeFrom f m k=0→ ∀j,k≤j→j<k+m→f j=0
 |0,k,_,j,h1,h2=>by omega
 |m+1,k,h,j,h1,h2=>by
  unfold codeFrom at h
  split at h
  ·contradiction
  ·rename_i hk
   by_cases e:j=k
   ·rw[e];simpa using hk
   ·exact codeFrom_zero h j (by omega) (by omega)
noncomputable def treeM (ns:List Nd):Int:=
 if ¬(1≤ns.length∧ns.length≤200) then 2
 else if codeFrom (nodeCode ns) ns.length 0≠0 then codeFrom (nodeCode ns) ns.length 0
 else if begM (nmT ns) (ns.length - 1)≠0 then 1
 else if 30<nestM (nmT ns) (ns.length - 1) then 7 else 0
theorem nmOK_of {ns:List Nd}(h:codeFrom (nodeCode ns) ns.length 0=0):NmOK ns:=fun k hk=>nodeCode_named (codeFrom_zero h k (by omega) (by omega))
theorem sizeN_fn (ns:List Nd):Fun env.P 17 [nodesD ns] (.d (dI (ns.map Nd.row).length)) []:=by
 refine Fun.intro Tryz.func17 rfl (by kernel_rfl) rfl ?_
 repeat'(first|refine Z1 ?_)
 (refine W.ret ?_;(first|refine RetQ.i' ?_))
 rfl
theorem TreeFault_fn (ns:List Nd)(hl:ns.length≤1048576)(ht: ∀n∈ns,n.text.size≤1048576):Fun env.P 25 [nodesD ns] (.d (dI (treeM ns))) []:=by
 have hsz:=sizeN_fn ns
 have hin:=within_fn ((ns.map Nd.row).length:Int) 1 200
 by_cases hlen:1≤ns.length∧ns.length≤200
 ·have e0:treeM ns=if codeFrom (nodeCode ns) ns.length 0≠0 then codeFrom (nodeCode ns) ns.length 0 else if begM (nmT ns) (ns.length - 1)≠0 then 1 else if 30<nestM (nmT ns) (ns.length - 1) then 7 else 0:=by
   unfold treeM;rw[if_neg (fun h=>h hlen)]
  refine Fun.intro Tryz.func25 rfl (by kernel_rfl) rfl ?_
  repeat'(first|refine Z1 ?_|refine WG.c (E:=env) rfl rfl (hsz) rfl rfl ?_|refine WG.c (E:=env) rfl rfl (hin) rfl rfl ?_|((refine SP (fun h=>?_) fun h=>?_)<;>(try(exfalso;first|contradiction|omega))))
  all_goals first|(exfalso;omega)|skip
  refine W.loop (fun m S=> ∃i:Nat,m=ns.length - i∧(i≤ns.length∧codeFrom (nodeCode ns) ns.length 0=codeFrom (nodeCode ns) (ns.length - i) i)∧S=⟨ofL [(0,.d (nodesD ns)),(11,vI .i64 (ns.map Nd.row).length),(12,vI .i64 i)],[]⟩) _ _ ⟨0,rfl,⟨by omega,rfl⟩,rfl⟩ lE ?_
  rintro m S ⟨i,rfl,⟨hi,he⟩,rfl⟩
  by_cases hin':i<ns.length
  ·have hnf:=nodeFault_fn ns i hin' hl ht
   rw[show ns.length - i=(ns.length - (i+1))+1 by omega,codeFrom] at he
   repeat'(first|refine Z1 ?_|refine WG.c (E:=env) rfl rfl (hnf) rfl rfl ?_|((refine SP (fun h=>?_) fun h=>?_)<;>(try(exfalso;first|contradiction|omega))))
   ·(refine W.ret ?_;(first|refine RetQ.i' ?_))
    rw[if_pos (by assumption)] at he
    rw[e0,he,if_pos (by assumption)]
   ·exact⟨_,_,by omega,⟨i+1,rfl,⟨by omega,by rw[he,if_neg (by simp only[*];simp)]⟩,rfl⟩,lE⟩
  ·rw[show ns.length - i=0 by omega,codeFrom] at he
   have hok:=nmOK_of he
   have hb:=beginOf_fn ns hl hok (ns.length - 1) (by omega)
   have hn:=nest_fn ns hl hok (ns.length - 1) (by omega)
   rw[show((ns.length - 1:Nat):Int)=((ns.map Nd.row).length:Int) - 1 by simp;omega] at hb hn
   rw[e0,if_neg (fun h=>h he)]
   repeat'(first|refine Z1 ?_|refine WG.c (E:=env) rfl rfl (hsz) rfl rfl ?_|refine WG.c (E:=env) rfl rfl (hb) rfl rfl ?_|refine WG.c (E:=env) rfl rfl (hn) rfl rfl ?_|((refine SP (fun h=>?_) fun h=>?_)<;>(try(exfalso;first|contradiction|omega))))
   all_goals first|(exfalso;simp at *;omega)|skip
   all_goals (refine W.ret ?_;(first|refine RetQ.i' ?_))
   ·rw[if_pos (by assumption)]
   ·rw[if_neg (fun h=>h (by assumption)),if_pos (by omega)]
   ·rw[if_neg (fun h=>h (by assumption)),if_neg (by omega)]
 ·have e0:treeM ns=2:=by unfold treeM;rw[if_pos hlen]
  rw[e0]
  refine Fun.intro Tryz.func25 rfl (by kernel_rfl) rfl ?_
  repeat'(first|refine Z1 ?_|refine WG.c (E:=env) rfl rfl (hsz) rfl rfl ?_|refine WG.c (E:=env) rfl rfl (hin) rfl rfl ?_|((refine SP (fun h=>?_) fun h=>?_)<;>(try(exfalso;first|contradiction|omega))))
  all_goals first|(exfalso;omega)|skip
  all_goals (refine W.ret ?_;(first|refine RetQ.i' ?_))
  all_goals rfl
theorem begM_ord {ns:List Nd}(h:1≤ns.length):begM (nmT ns) (ns.length - 1)=0↔ordM (nmT ns) ns.length (ns.length - 1) []=List.range ns.length:=by
 rw[begM_zero]
 have:=ordM_range (nm:=nmT ns) (k:=ns.length - 1)
 rw[show ns.length - 1+1=ns.length by omega] at this ⊢
 exact this.symm
theorem range_of {l:List Nat}(h: ∀j,j<l.length→l.getD j default=j):l=List.range l.length:=by
 apply List.ext_getElem
 ·simp
 ·intro j h1 h2
  have:=h j h1
  simpa [h1] using this
theorem TreeFaultS_fn (ns:List Nd)(hl:ns.length≤1048576)(ht: ∀n∈ns,n.text.size≤1048576):Fun env.P 58 [nodesD ns] (.d (dI (treeM ns))) []:=by
 by_cases hlen:1≤ns.length∧ns.length≤200
 ·have e0:treeM ns=if codeFrom (nodeCode ns) ns.length 0≠0 then codeFrom (nodeCode ns) ns.length 0 else if begM (nmT ns) (ns.length - 1)≠0 then 1 else if 30<nestM (nmT ns) (ns.length - 1) then 7 else 0:=by
   unfold treeM;rw[if_neg (fun h=>h hlen)]
  refine Fun.intro Tryz.func58 rfl (by kernel_rfl) rfl ?_
  repeat'(first|refine Z1 ?_|((refine SP (fun h=>?_) fun h=>?_)<;>(try(exfalso;first|contradiction|omega))))
  all_goals first|(exfalso;omega)|skip
  refine W.loop (fun m S=> ∃i:Nat,m=ns.length - i∧(i≤ns.length∧codeFrom (nodeCode ns) ns.length 0=codeFrom (nodeCode ns) (ns.length - i) i)∧S=⟨ofL [(0,.d (nodesD ns)),(3,vI .i64 i)],[]⟩) _ _ ⟨0,rfl,⟨by omega,rfl⟩,rfl⟩ lE ?_
  rintro m S ⟨i,rfl,⟨hi,he⟩,rfl⟩
  by_cases hin':i<ns.length
  ·have hnf:=l5Node_fn ns i hin' hl ht
   rw[show ns.length - i=(ns.length - (i+1))+1 by omega,codeFrom] at he
   repeat'(first|refine Z1 ?_|refine WG.c (E:=env) rfl rfl (hnf) rfl rfl ?_|((refine SP (fun h=>?_) fun h=>?_)<;>(try(exfalso;first|contradiction|omega))))
   ·(refine W.ret ?_;(first|refine RetQ.i' ?_))
    rw[if_pos (by assumption)] at he
    rw[e0,he,if_pos (by assumption)]
   ·exact⟨_,_,by omega,⟨i+1,rfl,⟨by omega,by rw[he,if_neg (by simp only[*];simp)]⟩,rfl⟩,lE⟩
  ·rw[show ns.length - i=0 by omega,codeFrom] at he
   have hok:=nmOK_of he
   have ho:=l5Order_fn ns (by omega) hok (ns.length - 1) (by omega) [] (by simp)
   have hd:=l5Deep_fn ns (by omega) hok
   have hbo:=begM_ord (ns:=ns) hlen.1
   have hbz:=begM_zero (nm:=nmT ns) (k:=ns.length - 1)
   have hol:=(ordM_p (nmT ns) ns.length (ns.length - 1) []).2.2.2
   rw[show((ns.length - 1:Nat):Int)=((ns.map Nd.row).length:Int) - 1 by simp;omega] at ho
   rw[e0,if_neg (fun h=>h he)]
   generalize ordM (nmT ns) ns.length (ns.length - 1) []=o at ho hbo hol
   have hil:=intsN_length o
   repeat'(first|refine WG.cqN (E:=env) (t':=.og 1 0) (ob2:=[.dead,.gr 1 2 (natRows o) 0 false]) 2 2 1 [0] [0] rfl rfl ho rfl rfl rfl rfl rfl rfl rfl rfl ⟨rfl,trivial⟩ rfl rfl rfl ?_|refine Z1 ?_|fail|((refine SP (fun h=>?_) fun h=>?_)<;>(try(exfalso;first|contradiction|omega))))
   ·(refine W.ret ?_;(first|refine RetQ.i' ?_))
    have hne:¬begM (nmT ns) (ns.length - 1)=0:=fun hb=>by
     have e2:o.length=ns.length:=by rw[hbo.1 hb];simp
     omega
    rw[if_pos hne]
   have hll:o.length=ns.length:=by omega
   refine W.loop (fun m S=> ∃j:Nat,m=ns.length - j∧(j≤ns.length∧ ∀p,p<j→o.getD p default=p)∧S=⟨ofL [(0,.d (nodesD ns)),(5,.og 1 0),(6,vI .i64 j)],[.dead,.gr 1 2 (natRows o) 0 false]⟩) _ _ ⟨0,rfl,⟨by omega,fun p hp=>by omega⟩,rfl⟩ lE ?_
   rintro m S ⟨j,rfl,⟨hj,hjj⟩,rfl⟩
   by_cases hjl:j<ns.length
   ·have hat:=intsN_at o j (by omega)
    repeat'(first|refine Z1 ?_|((refine SP (fun h=>?_) fun h=>?_)<;>(try(exfalso;first|contradiction|omega))))
    all_goals (try simp only[Int.toNat_natCast] at *)
    ·(refine W.ret ?_;(first|refine RetQ.i' ?_))
     have hne:¬begM (nmT ns) (ns.length - 1)=0:=fun hb=>by
      have e2:o.getD j default=j:=by rw[hbo.1 hb];simp[hjl]
      rw[e2] at hat
      contradiction
     rw[if_pos hne]
    ·refine⟨_,_,by omega,⟨j+1,rfl,⟨by omega,fun p hp=>?_⟩,rfl⟩,lE⟩
     by_cases e:p=j
     ·subst e
      omega
     ·exact hjj p (by omega)
   ·have hor:o=List.range ns.length:=by
     rw[←hll]
     exact range_of fun p hp=>hjj p (by omega)
    have hbz0:=hbo.2 hor
    have hmost:=nest_most (hbz.1 hbz0)
    rw[show ns.length - 1+1=ns.length by omega] at hmost
    rw[hmost] at hd
    rw[if_neg (fun h=>h hbz0)]
    repeat'(first|refine Z1 ?_|refine WG.c (E:=env) rfl rfl (hd) rfl rfl ?_|((refine SP (fun h=>?_) fun h=>?_)<;>(try(exfalso;first|contradiction|omega))))
    all_goals first|(exfalso;omega)|skip
    all_goals (refine W.ret ?_;(first|refine RetQ.i' ?_))
    ·rw[if_pos (by omega)]
    ·rw[if_neg (by omega)]
 ·have e0:treeM ns=2:=by unfold treeM;rw[if_pos hlen]
  rw[e0]
  refine Fun.intro Tryz.func58 rfl (by kernel_rfl) rfl ?_
  repeat'(first|refine Z1 ?_|((refine SP (fun h=>?_) fun h=>?_)<;>(try(exfalso;first|contradiction|omega))))
  all_goals first|(exfalso;omega)|skip
  all_goals (refine W.ret ?_;(first|refine RetQ.i' ?_))
  all_goals rfl
abbrev intP (c v:Int):D:=.agg [dI c,dI v]
def fitsT (ns:List Nd):Prop:=(∀n∈ns,n.text.size≤1048576)∧ns.length≤1048576
def inT (n:Nd)(i:Nat)(names:List ByteArray):List ByteArray:=if(n.op=20∧i=1)∨(n.op=19∧i=2) then names++[n.text] else names
def callsL :List ByteArray:=[⟨#[108,101,110,103,116,104]⟩,⟨#[107,101,121,115]⟩,⟨#[110,111,116]⟩,⟨#[101,109,112,116,121]⟩,⟨#[101,114,114,111,114]⟩,⟨#[116,121,112,101]⟩,⟨#[115,111,114,116]⟩,⟨#[97,100,100]⟩]
def onesL :List ByteArray:=[⟨#[109,97,112]⟩,⟨#[115,101,108,101,99,116]⟩,⟨#[114,97,110,103,101]⟩]
def knownB (n:Nd)(names:List ByteArray):Bool:=
 if n.op=21 then among names n.text else if n.op=22 then among callsL n.text else if n.op=23 then among onesL n.text else true
def flatI (f:Nat→Nat→List Nat):List Nat→Nat→List Nat
 |[],_=>[]
 |j::r,i=>f i j++flatI f r (i+1)
theorem flatI_snoc (f:Nat→Nat→List Nat): ∀(l:List Nat) (j i:Nat),flatI f (l++[j]) i=flatI f l i++f (i+l.length) j
 |[],j,i=>by simp[flatI]
 |x::r,j,i=>by
  rw[List.cons_append]
  simp only[flatI,List.length_cons]
  rw[flatI_snoc f r j (i+1),List.append_assoc,show i+1+r.length=i+(r.length+1) by omega]
theorem flatI_take (f:Nat→Nat→List Nat)(l:List Nat){i:Nat}(h:i<l.length):flatI f (l.take (i+1)) 0=flatI f (l.take i) 0++f i (l.getD i default):=by
 rw[take_step h,flatI_snoc,List.length_take,Nat.zero_add,Nat.min_eq_left (by omega)]
theorem flatI_pre (f:Nat→Nat→List Nat): ∀(l:List Nat) (i q:Nat),∃r,flatI f l q=flatI f (l.take i) q++r
 |[],i,q=>⟨[],by simp[flatI]⟩
 |x::l,0,q=>⟨flatI f (x::l) q,by simp[flatI]⟩
 |x::l,i+1,q=>by
  obtain⟨r,h⟩:=flatI_pre f l i (q+1)
  exact⟨r,by simp only[List.take_succ_cons,flatI];rw[h,List.append_assoc]⟩
theorem flatI_len {f:Nat→Nat→List Nat}{g:Nat→List Nat}: ∀ {l:List Nat} {i:Nat},(∀i,∀j∈l,(f i j).length≤(g j).length)→(flatI f l i).length≤(l.flatMap g).length
 |[],_,_=>by simp[flatI]
 |x::r,i,h=>by
  simp only[flatI,List.flatMap_cons,List.length_append]
  have:=h i x (List.mem_cons_self ..)
  have:=flatI_len (f:=f) (g:=g) (l:=r) (i:=i+1) (fun i j hj=>h i j (List.mem_cons_of_mem _ hj))
  omega
def badM (ns:List Nd):Nat→Nat→List ByteArray→List Nat
 |0,_,_=>[]
 |f+1,k,names=>flatI (fun i j=>badM ns f j (inT (ns.getD k default) i names)) (kidsOf (nmT ns) k) 0++(if knownB (ns.getD k default) names=true then [] else [k])
theorem badM_len (ns:List Nd): ∀f k names,(badM ns f k names).length≤(full (nmT ns) k).length
 |0,k,names=>by simp[badM]
 |f+1,k,names=>by
  rw[badM,full_eq,List.length_append,List.length_append]
  have:=flatI_len (f:=fun i j=>badM ns f j (inT (ns.getD k default) i names)) (g:=full (nmT ns)) (l:=kidsOf (nmT ns) k) (i:=0) (fun i j _=>badM_len ns f j _)
  by_cases h:knownB (ns.getD k default) names=true
  ·rw[if_pos h,List.length_nil];omega
  ·rw[if_neg h,List.length_singleton];omega
def headI :List Nat→Int
 |[]=> -1
 |x::_=>x
theorem headI_app {l r:List Nat}(h:0≤headI l):headI (l++r)=headI l:=by
 cases l with
 |nil=>simp[headI] at h
 |cons x l=>rfl
theorem headI_nil {l:List Nat}(h:¬0≤headI l):l=[]:=by
 cases l with
 |nil=>rfl
 |cons x l=>simp[headI] at h
theorem flatI_head {f:Nat→Nat→List Nat}{l:List Nat}{i:Nat}(h:i<l.length)(h0:flatI f (l.take i) 0=[])(h1:0≤headI (f i (l.getD i default))):headI (flatI f l 0)=headI (f i (l.getD i default)):=by
 obtain⟨r,hr⟩:=flatI_pre f l (i+1) 0
 rw[hr,flatI_take f l h,h0,List.nil_append,headI_app h1]
theorem callsS_fn :Fun env.P 114 [] (.d (namesD callsL)) []:=by
 refine Fun.intro Tryz.func114 rfl (by kernel_rfl) rfl ?_
 repeat'(first|refine Z1 ?_)
 refine W.pub 0 rfl ?_
 (refine W.ret ?_;(first|refine RetQ.d' ?_))
 rfl
theorem onesS_fn :Fun env.P 115 [] (.d (namesD onesL)) []:=by
 refine Fun.intro Tryz.func115 rfl (by kernel_rfl) rfl ?_
 repeat'(first|refine Z1 ?_)
 refine W.pub 0 rfl ?_
 (refine W.ret ?_;(first|refine RetQ.d' ?_))
 rfl
theorem isKnown_fn (n:Nd)(names:List ByteArray)(hl:names.length≤1048576):Fun env.P 82 [.agg n.row,namesD names] (.d (dB (knownB n names))) []:=by
 have h1:=containsS_fn names n.text hl
 have h2:=containsS_fn callsL n.text (by decide)
 refine Fun.intro Tryz.func82 rfl (by kernel_rfl) rfl ?_
 repeat'(first|refine WG.bsD (E:=env) ?_|refine Z1 ?_|refine WG.c (E:=env) rfl rfl (h1) rfl rfl ?_|refine WG.c (E:=env) rfl rfl (h2) rfl rfl ?_|((refine SP (fun h=>?_) fun h=>?_)<;>(try(exfalso;first|contradiction|omega))))
 all_goals (refine W.ret ?_;(first|refine RetQ.b' ?_))
 all_goals simp [knownB,onesL,among, *]
theorem unknown_fn (ns:List Nd)(hl:ns.length≤1048)(hok:NmOK ns): ∀(f k:Nat) (sl:List ByteArray),k<f→k<ns.length→sl.length+k≤4096→
 Fun env.P 26 [nodesD ns,dI k,namesD sl] (.d (dI (headI (badM ns f k sl)))) []
 |0,k,sl,h,_,_=>by omega
 |f+1,k,sl,hkf,hk,hs=>by
  have ih:=unknown_fn ns hl hok f
  have hnm:=namedK_fn ns k (hok k hk)
  have hka:=kids_arN (hok k hk)
  have hlt: ∀j∈kidsOf (nmT ns) k,j<k:=fun j hj=>kidsOf_lt hj
  rw[badM]
  generalize kidsOf (nmT ns) k=ks at hnm hlt hka
  have hil:=intsN_length ks
  refine Fun.intro Tryz.func26 rfl (by kernel_rfl) rfl ?_
  repeat(first|refine Z1 ?_)
  have hat:ns.getD (Int.toNat k) default=ns.getD k default:=by simp
  rw[hat]
  generalize hn:ns.getD k default=n at hnm hka
  clear hat
  have hkl:=arN_le n.op
  have hknown:=isKnown_fn n sl (by omega)
  obtain⟨F,hF⟩: ∃F:Nat→Nat→List Nat,∀i j,badM ns f j (inT n i sl)=F i j:=⟨_,fun _ _=>rfl⟩
  rw[show(fun i j=>badM ns f j (inT n i sl))=F from funext fun i=>funext fun j=>hF i j]
  repeat'(first|refine Z1 ?_|refine WG.c (E:=env) rfl rfl (hnm) rfl rfl ?_|((refine SP (fun h=>?_) fun h=>?_)<;>(try(exfalso;first|contradiction|omega))))
  refine W.loopI (fun m S=> ∃(i:Nat),m=ks.length - i∧(i≤ks.length∧flatI F (ks.take i) 0=[])∧
   S=⟨ofL [(0,.d (nodesD ns)),(1,vI .i64 k),(2,.d (namesD sl)),(7,.lp 0 0),(17,.d (.sl 1 ((intsN ks).map intRow))),(18,vI .i64 ((intsN ks).map intRow).length),(19,vI .i64 i)],[.pv (n.row.map .d)]⟩) _ _
   ⟨0,rfl,⟨by omega,by simp[flatI]⟩,rfl⟩ (St.imp.of_le lE) ?_
  rintro m S ⟨i,rfl,⟨hi,he⟩,rfl⟩
  by_cases hik:i<ks.length
  ·have hkm:=hlt _ (getD_mem' hik)
   have hia:=intsN_at ks i hik
   have hia2:(intsN ks).getD (Int.toNat i) default=((ks.getD i default:Nat):Int):=by simpa using hia
   have hcl:=cloneNs_fn sl (by omega)
   have htk:=flatI_take F ks hik
   have hhd:=flatI_head (f:=F) hik he
   by_cases hc:(n.op=20∧i=1)∨(n.op=19∧i=2)
   ·have hinc:inT n i sl=sl++[n.text]:=by rw[inT,if_pos hc]
    have ih':=ih (ks.getD i default) (sl++[n.text]) (by omega) (by omega) (by rw[List.length_append,List.length_singleton];omega)
    rw[←hinc,hF,hinc] at ih'
    generalize F i (ks.getD i default)=bl at ih' htk hhd
    rw[←hia2] at ih'
    have ih2:=ih'.cast (args':=[nodesD ns,dI ((intsN ks).getD (Int.toNat i) default),.sl 1 (sl.map txtRow++[[dS n.text]])]) (by simp[namesD]) rfl rfl
    generalize hbl:headI bl=h at ih2 hhd
    repeat'(first|(refine W.dre' (id:=7) [1,5] (fun f=>bif bt f 2 then [.pv (n.row.map .d),.gr 1 9 (sl.map txtRow++[[dS n.text]]) 1 false] else bif bt f 1 then [.pv (n.row.map .d),.gr 1 9 (sl.map txtRow) 0 false] else [.pv (n.row.map .d)]) [(0,[0]),(1,[0]),(0,[0,1]),(0,[0,1]),(0,[0,1]),(2,[1]),(0,[3])] [.pv (n.row.map .d),.gr 1 9 (sl.map txtRow++[[dS n.text]]) 1 false] ?_)|refine W.pubD 1 rfl ?_|refine WE.mkd (.og 1 0) ?_ (.c (OpS1.coG rfl rfl hcl rfl rfl rfl) .n)|refine Z2 ?_|refine Z1 ?_|refine WG.c (E:=env) rfl rfl (ih2) rfl rfl ?_|((refine SP (fun h=>?_) fun h=>?_)<;>(try(exfalso;first|contradiction|omega))))
    all_goals first
     |((refine W.ret ?_;(first|refine RetQ.i' ?_));rw[headI_app (by rw[hhd (by omega)];omega),hhd (by omega)];done)
     |exact⟨_,_,by omega,⟨i+1,rfl,⟨by omega,by rw[htk,he,headI_nil (l:=bl) (by omega)];rfl⟩,rfl⟩,(St.imp.of_le lE)⟩
   ·have hinc:inT n i sl=sl:=by rw[inT,if_neg hc]
    have ih':=ih (ks.getD i default) sl (by omega) (by omega) (by omega)
    rw[←hinc,hF,hinc] at ih'
    generalize F i (ks.getD i default)=bl at ih' htk hhd
    rw[←hia2] at ih'
    generalize hbl:headI bl=h at ih' hhd
    repeat'(first|refine Z1 ?_|refine WG.c (E:=env) rfl rfl (ih') rfl rfl ?_|((refine SP (fun h=>?_) fun h=>?_)<;>(try(exfalso;first|contradiction|omega))))
    all_goals first
     |((refine W.ret ?_;(first|refine RetQ.i' ?_));rw[headI_app (by rw[hhd (by omega)];omega),hhd (by omega)];done)
     |exact⟨_,_,by omega,⟨i+1,rfl,⟨by omega,by rw[htk,he,headI_nil (l:=bl) (by omega)];rfl⟩,rfl⟩,(St.imp.of_le lE)⟩
  ·rw[show i=ks.length by omega,List.take_length] at he
   rw[he,List.nil_append]
   generalize knownB n sl=b at hknown
   repeat'(first|refine Z1 ?_|refine WG.c (E:=env) rfl rfl (hknown) rfl rfl ?_|((refine SP (fun h=>?_) fun h=>?_)<;>(try(exfalso;first|contradiction|omega))))
   all_goals (refine W.ret ?_;(first|refine RetQ.i' ?_))
   all_goals (simp_all [headI];try rfl)
theorem flat_bound {nm:Nat→List Int}{F:Nat→Nat→List Nat}{ks:List Nat}(hF: ∀i j,(F i j).length≤(full nm j).length){i:Nat}(h:i<ks.length):
 (flatI F (ks.take i) 0).length+(full nm (ks.getD i default)).length≤(ks.flatMap (full nm)).length:=by
 have h1:=flatI_len (f:=F) (g:=full nm) (l:=ks.take i) (i:=0) fun i j _=>hF i j
 have h2:(ks.flatMap (full nm)).length=((ks.take (i+1)).flatMap (full nm)).length+((ks.drop (i+1)).flatMap (full nm)).length:=by
  rw[←List.length_append,←List.flatMap_append,List.take_append_drop]
 rw[take_step h,List.flatMap_append,List.length_append,List.flatMap_singleton] at h2
 omega
theorem flatI_all {F:Nat→Nat→List Nat}{nm:Nat→List Int}(hF: ∀i j,(F i j).length≤(full nm j).length)(ks:List Nat):(flatI F ks 0).length≤(ks.flatMap (full nm)).length:=
 flatI_len (f:=F) (g:=full nm) fun i j _=>hF i j
theorem l5Scope_fn (ns:List Nd)(hl:ns.length≤1048)(hok:NmOK ns): ∀(f k:Nat) (sl:List ByteArray) (out:List Nat),k<f→k<ns.length→sl.length+k≤4096→out.length+(full (nmT ns) k).length≤8192→
 FunQ env.P 59 [.d (nodesD ns),.d (dI k),.d (namesD sl),.og 0 0] [.gr 1 2 (natRows out) 0 false] (just (.og 1 0) [.dead,.gr 1 2 (natRows (out++badM ns f k sl)) 0 false])
 |0,k,sl,out,h,_,_,_=>by omega
 |f+1,k,sl,out,hkf,hk,hs,hout=>by
  have ih:=l5Scope_fn ns hl hok f
  have hka:=kids_arN (hok k hk)
  have hkat:=fun q hq=>kids_at (hok k hk) (i:=q) hq
  have hlt: ∀j∈kidsOf (nmT ns) k,j<k:=fun j hj=>kidsOf_lt hj
  rw[badM]
  rw[full_eq,List.length_append,List.length_singleton] at hout
  generalize kidsOf (nmT ns) k=ks at hlt hka hkat hout
  refine FunQ.intro Tryz.func59 rfl (by kernel_rfl) rfl ?_
  refine W.imp ((St.imp.mov 0 0 rfl rfl).trans (St.imp.of_le (S':=⟨ofL [(0,.d (nodesD ns)),(1,vI .i64 k),(2,.d (namesD sl)),(3,.og 1 0)],[.dead,.gr 1 2 (natRows out) 0 false]⟩) lE)) ?_
  repeat(first|refine Z1 ?_)
  have hat:ns.getD (Int.toNat k) default=ns.getD k default:=by simp
  rw[hat]
  generalize hn:ns.getD k default=n at hka hkat
  clear hat
  have hkl:=arN_le n.op
  have hks:=l5Kids_fn n.op
  rw[←hka] at hks
  obtain⟨F,hF⟩: ∃F:Nat→Nat→List Nat,∀i j,badM ns f j (inT n i sl)=F i j:=⟨_,fun _ _=>rfl⟩
  have hFl: ∀i j,(F i j).length≤(full (nmT ns) j).length:=fun i j=>by rw[←hF];exact badM_len ns f j _
  rw[show(fun i j=>badM ns f j (inT n i sl))=F from funext fun i=>funext fun j=>hF i j]
  refine W.loopI (fun m S=> ∃(i:Nat) (o:List Nat),m=ks.length - i∧(i≤ks.length∧o=out++flatI F (ks.take i) 0)∧
   S=⟨ofL [(0,.d (nodesD ns)),(1,vI .i64 k),(2,.d (namesD sl)),(3,.og 1 0),(9,.lp 2 0),(10,vI .i64 i)],[.dead,.gr 1 2 (natRows o) 0 false,.pv (n.row.map .d)]⟩) _ _ ⟨0,out,rfl,⟨by omega,by simp[flatI]⟩,rfl⟩ (St.imp.of_le lE) ?_
  rintro m S ⟨i,o,rfl,⟨hi,ho⟩,rfl⟩
  have hlo:(natRows o).length=o.length:=by simp[intsN]
  by_cases hik:i<ks.length
  ·have hkm:=hlt _ (getD_mem' hik)
   have hfb:=flat_bound hFl hik
   have hol:o.length=out.length+(flatI F (ks.take i) 0).length:=by rw[ho,List.length_append]
   have htk:=flatI_take F ks hik
   have hkd:=l5Kid_fn n i (by omega)
   by_cases hc:(n.op=20∧i=1)∨(n.op=19∧i=2)
   ·have hinc:inT n i sl=sl++[n.text]:=by rw[inT,if_pos hc]
    have ih':=ih (ks.getD i default) (sl++[n.text]) o (by omega) (by omega) (by rw[List.length_append,List.length_singleton];omega) (by omega)
    rw[←hinc,hF,hinc] at ih'
    generalize F i (ks.getD i default)=bl at ih' htk
    rw[←hkat i hik] at ih'
    have ih2:FunQ env.P 59 [.d (nodesD ns),.d (dI (kidI n i)),.d (.sl 1 (([]++sl.map txtRow)++[[dS n.text]])),.og 0 0] [.gr 1 2 (natRows o) 0 false] (just (.og 1 0) [.dead,.gr 1 2 (natRows (o++bl)) 0 false]):=by
     rw[show([]++sl.map txtRow)++[[dS n.text]]=(sl++[n.text]).map txtRow by simp]
     exact ih'
    clear ih'
    repeat'(first|(refine W.dre' (id:=7) [0,2,6] (fun f=>bif bt f 4 then [.dead,.gr 1 2 (natRows o) 0 false,.pv (n.row.map .d),.gr 1 9 (([]++sl.map txtRow)++[[dS n.text]]) 2 false] else bif bt f 2 then [.dead,.gr 1 2 (natRows o) 0 false,.pv (n.row.map .d),.gr 1 9 ([]++sl.map txtRow) 1 false] else bif bt f 1 then [.dead,.gr 1 2 (natRows o) 0 false,.pv (n.row.map .d),.gr 1 9 [] 0 false] else [.dead,.gr 1 2 (natRows o) 0 false,.pv (n.row.map .d)]) [(1,[0]),(0,[0,1]),(2,[1]),(0,[0,1,3]),(0,[0,1,3]),(0,[0,1,3]),(4,[3]),(0,[7])] [.dead,.gr 1 2 (natRows o) 0 false,.pv (n.row.map .d),.gr 1 9 (([]++sl.map txtRow)++[[dS n.text]]) 2 false] ?_)|refine W.pubD 3 rfl ?_|refine Z1 ?_|refine WE.mkd (.og 3 0) ?_ (.c (OpS1.bsO rfl rfl rfl rfl rfl rfl rfl rfl rfl rfl rfl rfl) .n)|refine Z2 ?_|refine WG.cq (E:=env) (t':=.og 4 0) (ob2:=[.dead,.dead,.pv (n.row.map .d),.gr 1 9 (([]++sl.map txtRow)++[[dS n.text]]) 2 true,.gr 1 2 (natRows (o++bl)) 0 false]) [1] [0] false rfl rfl ih2 rfl rfl rfl rfl rfl rfl rfl ⟨rfl,trivial⟩ (.inl rfl) rfl (fun h=>nomatch h) rfl rfl ?_|refine WG.c (E:=env) rfl rfl (hks) rfl rfl ?_|refine WD.c (E:=env) rfl rfl (hks) rfl rfl ?_|refine WG.c (E:=env) rfl rfl (hkd) rfl rfl ?_|refine WD.c (E:=env) rfl rfl (hkd) rfl rfl ?_|((refine SP (fun h=>?_) fun h=>?_)<;>(try(exfalso;first|contradiction|omega))))
    all_goals exact ⟨_,_,by omega,⟨i+1,o++bl,rfl,⟨by omega,by rw[htk,ho,List.append_assoc]⟩,rfl⟩,(St.imp.movD 4 0 1 rfl rfl).trans (St.imp.of_le lE)⟩
   ·have hinc:inT n i sl=sl:=by rw[inT,if_neg hc]
    have ih':=ih (ks.getD i default) sl o (by omega) (by omega) (by omega) (by omega)
    rw[←hinc,hF,hinc] at ih'
    generalize F i (ks.getD i default)=bl at ih' htk
    rw[←hkat i hik] at ih'
    repeat'(first|refine Z1 ?_|refine WG.cq (E:=env) (t':=.og 3 0) (ob2:=[.dead,.dead,.pv (n.row.map .d),.gr 1 2 (natRows (o++bl)) 0 false]) [1] [0] false rfl rfl ih' rfl rfl rfl rfl rfl rfl rfl ⟨rfl,trivial⟩ (.inl rfl) rfl (fun h=>nomatch h) rfl rfl ?_|refine WG.c (E:=env) rfl rfl (hks) rfl rfl ?_|refine WD.c (E:=env) rfl rfl (hks) rfl rfl ?_|refine WG.c (E:=env) rfl rfl (hkd) rfl rfl ?_|refine WD.c (E:=env) rfl rfl (hkd) rfl rfl ?_|((refine SP (fun h=>?_) fun h=>?_)<;>(try(exfalso;first|contradiction|omega))))
    all_goals exact ⟨_,_,by omega,⟨i+1,o++bl,rfl,⟨by omega,by rw[htk,ho,List.append_assoc]⟩,rfl⟩,(St.imp.movD 3 0 1 rfl rfl).trans (St.imp.of_le lE)⟩
  ·rw[show i=ks.length by omega,List.take_length] at ho
   have hfl:=flatI_all hFl ks
   have hol:o.length=out.length+(flatI F ks 0).length:=by rw[ho,List.length_append]
   rw[←List.append_assoc,←ho]
   have a1:=among_fn sl n.text (by omega)
   have a2:=among_fn callsL n.text (by decide)
   have a3:=among_fn onesL n.text (by decide)
   have c2:=callsS_fn
   have c3:=onesS_fn
   have hkb:knownB n sl=if n.op=21 then among sl n.text else if n.op=22 then among callsL n.text else if n.op=23 then among onesL n.text else true:=rfl
   generalize among sl n.text=b1 at a1 hkb
   generalize among callsL n.text=b2 at a2 hkb
   generalize among onesL n.text=b3 at a3 hkb
   repeat'(first|refine Z1 ?_|refine WG.ap (E:=env) rfl rfl rfl rfl rfl rfl rfl rfl rfl rfl rfl (by rw[hlo];show(o.length+1)*8≤_;omega) ?_|refine WG.c (E:=env) rfl rfl (hks) rfl rfl ?_|refine WD.c (E:=env) rfl rfl (hks) rfl rfl ?_|refine WG.c (E:=env) rfl rfl (a1) rfl rfl ?_|refine WD.c (E:=env) rfl rfl (a1) rfl rfl ?_|refine WG.c (E:=env) rfl rfl (a2) rfl rfl ?_|refine WD.c (E:=env) rfl rfl (a2) rfl rfl ?_|refine WG.c (E:=env) rfl rfl (a3) rfl rfl ?_|refine WD.c (E:=env) rfl rfl (a3) rfl rfl ?_|refine WG.c (E:=env) rfl rfl (c2) rfl rfl ?_|refine WD.c (E:=env) rfl rfl (c2) rfl rfl ?_|refine WG.c (E:=env) rfl rfl (c3) rfl rfl ?_|refine WD.c (E:=env) rfl rfl (c3) rfl rfl ?_|((refine SP (fun h=>?_) fun h=>?_)<;>(try(exfalso;first|contradiction|omega))))
   all_goals first|(exfalso;omega)|skip
   all_goals first
    |(refine W.imp (S':=⟨ofL [(8,.og 1 0)],[.dead,.gr 1 2 (natRows o++[[dI k]]) 0 false]⟩) ((St.imp.rev 1 1 rfl).trans (St.imp.of_le lE)) ?_
      refine W.ret ?_
      refine RetQ.r (t:=.og 1 0) (ob:=[.dead,.gr 1 2 (natRows o++[[dI k]]) 0 false]) ⟨rfl,by rw[hkb];simp[*,natRows,intsN]⟩ (RetQ.mk (.inl rfl) rfl rO rfl rfl ?_ rfl)
      exact⟨rfl,.inl rfl,rfl,.inl rfl,trivial⟩)
    |(refine W.imp (S':=⟨ofL [(8,.og 1 0)],[.dead,.gr 1 2 (natRows o) 0 false]⟩) (St.imp.of_le lE) ?_
      refine W.ret ?_
      refine RetQ.r (t:=.og 1 0) (ob:=[.dead,.gr 1 2 (natRows o) 0 false]) ⟨rfl,by rw[hkb];simp[*]⟩ (RetQ.mk (.inl rfl) rfl rO rfl rfl ?_ rfl)
      exact⟨rfl,.inl rfl,rfl,.inl rfl,trivial⟩)
theorem treeM_ok {ns:List Nd}(h:treeM ns=0):(1≤ns.length∧ns.length≤200)∧codeFrom (nodeCode ns) ns.length 0=0∧full (nmT ns) (ns.length - 1)=List.range ns.length∧nestM (nmT ns) (ns.length - 1)≤30:=by
 unfold treeM at h
 split at h
 ·cases h
 rename_i h1
 have h1:=Classical.not_not.1 h1
 split at h
 ·rename_i h2;exact absurd h h2
 rename_i h2
 split at h
 ·cases h
 rename_i h3
 split at h
 ·cases h
 rename_i h4
 refine⟨h1,Classical.not_not.1 h2,?_,by omega⟩
 have:=begM_zero.1 (Classical.not_not.1 h3)
 rw[this,show ns.length - 1+1=ns.length by omega]
noncomputable def scopeL (ns:List Nd):List Nat:=badM ns ns.length (ns.length - 1) []
noncomputable def scopeC (ns:List Nd):Int:=if treeM ns=0 then(if 0≤headI (scopeL ns) then 4 else 0) else treeM ns
noncomputable def scopeV (ns:List Nd):Int:=if treeM ns=0∧0≤headI (scopeL ns) then headI (scopeL ns) else 0
theorem ScopeFault_fn (ns:List Nd)(hf:fitsT ns):Fun env.P 9 [nodesD ns] (.d (intP (scopeC ns) (scopeV ns))) []:=by
 have ht:=TreeFault_fn ns hf.2 hf.1
 have hs:=sizeN_fn ns
 unfold scopeC scopeV
 by_cases h0:treeM ns=0
 ·obtain⟨⟨h1,h2⟩,h3,h4,h5⟩:=treeM_ok h0
  have hc:=unknown_fn ns (by omega) (nmOK_of h3) ns.length (ns.length - 1) [] (by omega) (by omega) (by simp;omega)
  rw[show((ns.length - 1:Nat):Int)=((ns.map Nd.row).length:Int) - 1 by simp;omega] at hc
  change Fun env.P _ [_,_,.sl 1 []] (.d (dI (headI (scopeL ns)))) [] at hc
  rw[if_pos h0]
  rw[h0] at ht ⊢
  simp only[true_and]
  generalize headI (scopeL ns)=c at hc ⊢
  refine Fun.intro Tryz.func9 rfl (by kernel_rfl) rfl ?_
  repeat'(first|refine Z1 ?_|refine WG.c (E:=env) rfl rfl (ht) rfl rfl ?_|refine WG.c (E:=env) rfl rfl (hs) rfl rfl ?_|refine WG.c (E:=env) rfl rfl (hc) rfl rfl ?_|((refine SP (fun h=>?_) fun h=>?_)<;>(try(exfalso;first|contradiction|omega))))
  all_goals (refine W.ret ?_;(first|refine RetQ.d' ?_))
  ·rw[if_pos (by omega),if_pos (by omega)];rfl
  ·rw[if_neg (by omega),if_neg (by omega)];rfl
 ·rw[if_neg h0,if_neg (fun h=>h0 h.1)]
  generalize treeM ns=c at ht h0 ⊢
  refine Fun.intro Tryz.func9 rfl (by kernel_rfl) rfl ?_
  repeat'(first|refine Z1 ?_|refine WG.c (E:=env) rfl rfl (ht) rfl rfl ?_|refine WG.c (E:=env) rfl rfl (hs) rfl rfl ?_|((refine SP (fun h=>?_) fun h=>?_)<;>(try(exfalso;first|contradiction|omega))))
  all_goals (refine W.ret ?_;(first|refine RetQ.d' ?_))
  all_goals rfl
theorem ScopeFaultS_fn (ns:List Nd)(hf:fitsT ns):Fun env.P 18 [nodesD ns] (.d (intP (scopeC ns) (scopeV ns))) []:=by
 have ht:=TreeFaultS_fn ns hf.2 hf.1
 unfold scopeC scopeV
 by_cases h0:treeM ns=0
 ·obtain⟨⟨h1,h2⟩,h3,h4,h5⟩:=treeM_ok h0
  have hc:=l5Scope_fn ns (by omega) (nmOK_of h3) ns.length (ns.length - 1) [] [] (by omega) (by omega) (by simp;omega) (by rw[h4];simp;omega)
  rw[show((ns.length - 1:Nat):Int)=((ns.map Nd.row).length:Int) - 1 by simp;omega,List.nil_append] at hc
  change FunQ env.P _ [_,_,.d (.sl 1 []),_] _ (just _ [_,.gr 1 _ (natRows (scopeL ns)) 0 false]) at hc
  rw[if_pos h0]
  rw[h0] at ht ⊢
  simp only[true_and]
  cases hsl:scopeL ns with
  |nil=>
   rw[hsl] at hc
   rw[if_neg (by simp[headI]),if_neg (by simp[headI])]
   refine Fun.intro Tryz.func18 rfl (by kernel_rfl) rfl ?_
   repeat'(first|refine Z1 ?_|refine WG.cqN (E:=env) (t':=.og 2 0) (ob2:=[.pv [.d (dI 0),.d (dI 0)],.dead,.gr 1 2 (natRows []) 0 false]) 3 2 1 [1] [0] rfl rfl hc rfl rfl rfl rfl rfl rfl rfl rfl ⟨rfl,trivial⟩ rfl rfl rfl ?_|refine WG.c (E:=env) rfl rfl (ht) rfl rfl ?_|((refine SP (fun h=>?_) fun h=>?_)<;>(try(exfalso;first|contradiction|omega))))
   all_goals first|(exfalso;simp[natRows,intsN] at *;omega)|skip
   all_goals (refine W.ret ?_;(first|refine RetQ.d' ?_))
   all_goals rfl
  |cons x r=>
   rw[hsl] at hc
   rw[if_pos (by simp[headI]),if_pos (by simp[headI])]
   refine Fun.intro Tryz.func18 rfl (by kernel_rfl) rfl ?_
   repeat'(first|refine Z1 ?_|refine WG.cqN (E:=env) (t':=.og 2 0) (ob2:=[.pv [.d (dI 0),.d (dI 0)],.dead,.gr 1 2 (natRows (x::r)) 0 false]) 3 2 1 [1] [0] rfl rfl hc rfl rfl rfl rfl rfl rfl rfl rfl ⟨rfl,trivial⟩ rfl rfl rfl ?_|refine WG.c (E:=env) rfl rfl (ht) rfl rfl ?_|((refine SP (fun h=>?_) fun h=>?_)<;>(try(exfalso;first|contradiction|omega))))
   all_goals first|(exfalso;simp[natRows,intsN] at *;omega)|skip
   all_goals (refine W.ret ?_;(first|refine RetQ.d' ?_))
   all_goals rfl
 ·rw[if_neg h0,if_neg (fun h=>h0 h.1)]
  generalize treeM ns=c at ht h0 ⊢
  refine Fun.intro Tryz.func18 rfl (by kernel_rfl) rfl ?_
  repeat'(first|refine Z1 ?_|refine WG.c (E:=env) rfl rfl (ht) rfl rfl ?_|((refine SP (fun h=>?_) fun h=>?_)<;>(try(exfalso;first|contradiction|omega))))
  all_goals (refine W.ret ?_;(first|refine RetQ.d' ?_))
  all_goals rfl
def Pt.cv (cs:List Cell):Pt:=.mk ⟨2,0,0,0,0,cs⟩ []
def Pt.lf (op num:Int):Pt:=.mk ⟨op,0,0,0,num,[]⟩ []
def Pt.n1 (op:Int)(a:Pt):Pt:=.mk ⟨op,0,0,0,0,[]⟩ [a]
def Pt.n2 (op num:Int)(val:List Cell)(a b:Pt):Pt:=.mk ⟨op,0,0,0,num,val⟩ [a,b]
def Pt.n3 (op num:Int)(a b c:Pt):Pt:=.mk ⟨op,0,0,0,num,[]⟩ [a,b,c]
abbrev cellK (kind:Int):List Cell:=[⟨kind,0,noS,noS,0⟩]
abbrev cellN (num:Int):List Cell:=[⟨3,num,noS,noS,0⟩]
abbrev cellT (text:ByteArray):List Cell:=[⟨4,0,text,noS,0⟩]
def slotL (t:ByteArray)(names:List ByteArray):Nat→Int
 |0=>0
 |i+1=>if names.getD i default=t then(i:Int) else slotL t names i
def slotM (names:List ByteArray)(t:ByteArray):Int:=slotL t names names.length
abbrev lenS :ByteArray:=⟨#[108,101,110,103,116,104]⟩
abbrev keysS :ByteArray:=⟨#[107,101,121,115]⟩
abbrev notS :ByteArray:=⟨#[110,111,116]⟩
abbrev emptyS :ByteArray:=⟨#[101,109,112,116,121]⟩
abbrev errorS :ByteArray:=⟨#[101,114,114,111,114]⟩
abbrev typeS :ByteArray:=⟨#[116,121,112,101]⟩
abbrev sortS :ByteArray:=⟨#[115,111,114,116]⟩
abbrev addS :ByteArray:=⟨#[97,100,100]⟩
abbrev mapS :ByteArray:=⟨#[109,97,112]⟩
abbrev selectS :ByteArray:=⟨#[115,101,108,101,99,116]⟩
def doM (t:ByteArray):Int:=if t=lenS then 1 else if t=keysS then 2 else if t=typeS then 3 else if t=sortS then 4 else if t=addS then 5 else 8
def truP (b:Bool):Pt:=.cv (cellK (if b then 2 else 1))
def callP (t:ByteArray):Pt:=if t=notS then .n3 12 0 (.lf 1 0) (truP false) (truP true) else if t=emptyS then .lf 17 0 else .lf 16 (doM t)
def oneP (t:ByteArray)(A:Pt):Pt:=if t=selectS then .n3 12 0 A (.lf 1 0) (.lf 17 0) else if t=mapS then .n1 10 (.n2 3 0 [] (.n1 8 (.lf 1 0)) A) else .n2 3 0 [] A (.n1 8 (.lf 16 6))
def plainM (op:Int):Int:=if op=1 then 1 else if op=5 then 3 else if op=6 then 4 else if op=7 then 5 else if op=10 then 6 else if op=11 then 7 else if op=12 then 8 else if op=13 then 9 else if op=14 then 10
 else if op=17 then 11 else if op=18 then 12 else if op=19 then 13 else if op=20 then 14 else if op=21 then 15 else 0
def plainN (n:Nd)(names:List ByteArray):Co:=⟨plainM n.op,0,0,0,if n.op=10 then n.num else if n.op=19∨n.op=20 then names.length else if n.op=21 then slotM names n.text else 0,if n.op=17 then cellT n.text else []⟩
def lowB (n:Nd)(names:List ByteArray)(A B C:Pt):Pt:=
 if 0<plainM n.op then .mk (plainN n names) ([A,B,C].take (arN n.op))
 else if n.op=2 then .cv (cellN n.num)
 else if n.op=3 then .cv (cellT n.text)
 else if n.op=4 then .cv (cellK n.num)
 else if n.op=15 then .cv (cellK 5)
 else if n.op=16 then .cv (cellK 6)
 else if n.op=24 then .n1 8 (.lf 16 7)
 else if n.op=8 then .n3 12 0 A (truP true) (.n3 12 0 B (truP true) (truP false))
 else if n.op=9 then .n3 12 0 A (.n3 12 0 B (truP true) (truP false)) (truP false)
 else if n.op=23 then oneP n.text A
 else callP n.text
def lowP (ns:List Nd):Nat→Nat→List ByteArray→Pt
 |0,_,_=>default
 |f+1,k,names=>lowB (ns.getD k default) names (lowP ns f (ns.getD k default).a.toNat (inT (ns.getD k default) 0 names)) (lowP ns f (ns.getD k default).b.toNat (inT (ns.getD k default) 1 names)) (lowP ns f (ns.getD k default).c.toNat (inT (ns.getD k default) 2 names))
theorem Pt.counts3 (A B C:Pt){r:Nat}(h:r≤3):Pt.counts ([A,B,C].take r)=(if 1≤r then A.count else 0)+(if 2≤r then B.count else 0)+(if 3≤r then C.count else 0):=by
 have:r=0∨r=1∨r=2∨r=3:=by omega
 rcases this with rfl|rfl|rfl|rfl<;>simp[Pt.counts]<;>omega
theorem lowB_count (n:Nd)(names:List ByteArray)(A B C:Pt)(h1:1≤n.op)(h2:n.op≤24):(lowB n names A B C).count≤(if 1≤arN n.op then A.count else 0)+(if 2≤arN n.op then B.count else 0)+(if 3≤arN n.op then C.count else 0)+5:=by
 have h3:=Pt.counts3 A B C (arN_le n.op)
 unfold lowB
 by_cases hp:0<plainM n.op
 ·rw[if_pos hp];simp only[Pt.count];omega
 rw[if_neg hp]
 by_cases e2:n.op=2
 ·rw[if_pos e2];simp only[Pt.cv,Pt.count,Pt.counts];omega
 rw[if_neg e2]
 by_cases e3:n.op=3
 ·rw[if_pos e3];simp only[Pt.cv,Pt.count,Pt.counts];omega
 rw[if_neg e3]
 by_cases e4:n.op=4
 ·rw[if_pos e4];simp only[Pt.cv,Pt.count,Pt.counts];omega
 rw[if_neg e4]
 by_cases e15:n.op=15
 ·rw[if_pos e15];simp only[Pt.cv,Pt.count,Pt.counts];omega
 rw[if_neg e15]
 by_cases e16:n.op=16
 ·rw[if_pos e16];simp only[Pt.cv,Pt.count,Pt.counts];omega
 rw[if_neg e16]
 by_cases e24:n.op=24
 ·rw[if_pos e24];simp only[Pt.n1,Pt.lf,Pt.count,Pt.counts];omega
 rw[if_neg e24]
 by_cases e8:n.op=8
 ·rw[if_pos e8,e8]
  have h:arN 8=2:=rfl
  rw[h];simp only[Pt.n3,truP,Pt.cv,Pt.count,Pt.counts];simp;omega
 rw[if_neg e8]
 by_cases e9:n.op=9
 ·rw[if_pos e9,e9]
  have h:arN 9=2:=rfl
  rw[h];simp only[Pt.n3,truP,Pt.cv,Pt.count,Pt.counts];simp;omega
 rw[if_neg e9]
 by_cases e23:n.op=23
 ·rw[if_pos e23,e23]
  have h:arN 23=1:=rfl
  rw[h]
  simp only[show(1:Nat)≤1 from Nat.le_refl _,if_true,show ¬(2:Nat)≤1 by decide,show ¬(3:Nat)≤1 by decide,if_false]
  unfold oneP
  split
  ·simp only[Pt.n3,Pt.lf,Pt.count,Pt.counts];omega
  split<;>simp only[Pt.n1,Pt.n2,Pt.lf,Pt.count,Pt.counts]<;>omega
 rw[if_neg e23]
 have hc:(callP n.text).count≤5:=by
  unfold callP
  split
  ·simp only[Pt.n3,Pt.lf,truP,Pt.cv,Pt.count,Pt.counts];omega
  split<;>simp only[Pt.lf,Pt.count,Pt.counts]<;>omega
 omega
structure TdK (ns:List Nd) (k:Nat):Prop where
 op:1≤(ns.getD k default).op∧(ns.getD k default).op≤24
 a:1≤arN (ns.getD k default).op→0≤(ns.getD k default).a∧(ns.getD k default).a<k
 b:2≤arN (ns.getD k default).op→0≤(ns.getD k default).b∧(ns.getD k default).b<k
 c:3≤arN (ns.getD k default).op→0≤(ns.getD k default).c∧(ns.getD k default).c<k
 tx:(ns.getD k default).op=3∨(ns.getD k default).op=17→okText (ns.getD k default).text=true
 num2:(ns.getD k default).op=2→0≤(ns.getD k default).num∧(ns.getD k default).num≤1000000000000000
 num4:(ns.getD k default).op=4→0≤(ns.getD k default).num∧(ns.getD k default).num≤2
 num10:(ns.getD k default).op=10→1≤(ns.getD k default).num∧(ns.getD k default).num≤11
theorem kidB_bnd {n:Nd}{k i:Nat}(h:kidB n k i=true)(hi:i<arN n.op):0≤kidI n i∧kidI n i<k:=by
 unfold kidB at h
 rw[if_pos hi] at h
 simp only[Bool.and_eq_true,decide_eq_true_eq] at h
 omega
theorem tdK_of {ns:List Nd}{k:Nat}(h:nodeCode ns k=0):TdK ns k:=by
 unfold nodeCode nodeC at h
 generalize hn:ns.getD k default=n at*
 split at h
 ·exact absurd h (by decide)
 rename_i h1
 have h1:=Classical.not_not.1 h1
 split at h
 ·exact absurd h (by decide)
 rename_i h2
 split at h
 ·exact absurd h (by decide)
 rename_i h3
 split at h
 ·exact absurd h (by decide)
 rename_i h4
 have h2:formB3 n k=true:=by simpa using h2
 have h3:txOk n=true:=by simpa using h3
 have h4:numOk n=true:=by simpa using h4
 unfold formB3 at h2
 simp only[Bool.and_eq_true] at h2
 obtain⟨⟨⟨⟨q0,q1⟩,q2⟩,_⟩,_⟩:=h2
 refine⟨by rw[hn];exact h1,fun h=>?_,fun h=>?_,fun h=>?_,fun h=>?_,fun h=>?_,fun h=>?_,fun h=>?_⟩
 ·rw[hn] at h ⊢;exact kidB_bnd q0 (by omega)
 ·rw[hn] at h ⊢;exact kidB_bnd q1 (by omega)
 ·rw[hn] at h ⊢;exact kidB_bnd q2 (by omega)
 ·rw[hn] at h ⊢
  unfold txOk at h3
  rwa [if_pos h] at h3
 ·rw[hn] at h ⊢
  unfold numOk at h4
  rw[h] at h4
  simpa [hasNm,numLo,numHi] using h4
 ·rw[hn] at h ⊢
  unfold numOk at h4
  rw[h] at h4
  simpa [hasNm,numLo,numHi] using h4
 ·rw[hn] at h ⊢
  unfold numOk at h4
  rw[h] at h4
  simpa [hasNm,numLo,numHi] using h4
theorem kidsT {ns:List Nd}{k:Nat}(h:TdK ns k):kidsOf (nmT ns) k=([(ns.getD k default).a.toNat,(ns.getD k default).b.toNat,(ns.getD k default).c.toNat]).take (arN (ns.getD k default).op):=by
 have ha:=h.a
 have hb:=h.b
 have hc:=h.c
 have hle:=arN_le (ns.getD k default).op
 have hk:kidsOf (nmT ns) k=(([(ns.getD k default).a,(ns.getD k default).b,(ns.getD k default).c].take (arN (ns.getD k default).op)).map Int.toNat).filter (· <k):=rfl
 rw[hk]
 generalize arN (ns.getD k default).op=r at*
 generalize ns.getD k default=n at*
 have:r=0∨r=1∨r=2∨r=3:=by omega
 rcases this with rfl|rfl|rfl|rfl
 ·simp
 ·have a1:=ha (by omega)
  have b1:n.a.toNat<k:=by omega
  simp[b1]
 ·have a1:=ha (by omega)
  have a2:=hb (by omega)
  have b1:n.a.toNat<k:=by omega
  have b2:n.b.toNat<k:=by omega
  simp[b1,b2]
 ·have a1:=ha (by omega)
  have a2:=hb (by omega)
  have a3:=hc (by omega)
  have b1:n.a.toNat<k:=by omega
  have b2:n.b.toNat<k:=by omega
  have b3:n.c.toNat<k:=by omega
  simp[b1,b2,b3]
def cntT (ns:List Nd)(k:Nat):Nat:=(full (nmT ns) k).length
theorem cntT_eq {ns:List Nd}{k:Nat}(h:TdK ns k):cntT ns k=(if 1≤arN (ns.getD k default).op then cntT ns (ns.getD k default).a.toNat else 0)+(if 2≤arN (ns.getD k default).op then cntT ns (ns.getD k default).b.toNat else 0)+(if 3≤arN (ns.getD k default).op then cntT ns (ns.getD k default).c.toNat else 0)+1:=by
 have hle:=arN_le (ns.getD k default).op
 unfold cntT
 rw[full_eq,List.length_append,List.length_singleton,kidsT h]
 generalize arN (ns.getD k default).op=r at*
 have:r=0∨r=1∨r=2∨r=3:=by omega
 rcases this with rfl|rfl|rfl|rfl
 ·simp
 ·simp
 ·simp
 ·simp
  omega
theorem lowP_count {ns:List Nd}(hok: ∀j,j<ns.length→TdK ns j): ∀(f k:Nat) (names:List ByteArray),k<f→k<ns.length→(lowP ns f k names).count≤5*cntT ns k
 |0,k,names,h,_=>by omega
 |f+1,k,names,h,hk=>by
  have hn:=hok k hk
  have h1:=lowB_count (ns.getD k default) names (lowP ns f (ns.getD k default).a.toNat (inT (ns.getD k default) 0 names)) (lowP ns f (ns.getD k default).b.toNat (inT (ns.getD k default) 1 names)) (lowP ns f (ns.getD k default).c.toNat (inT (ns.getD k default) 2 names)) hn.op.1 hn.op.2
  have h2:=cntT_eq hn
  have ha:=fun h1=>lowP_count hok f (ns.getD k default).a.toNat (inT (ns.getD k default) 0 names) (by have:=hn.a h1;omega) (by have:=hn.a h1;omega)
  have hb:=fun h1=>lowP_count hok f (ns.getD k default).b.toNat (inT (ns.getD k default) 1 names) (by have:=hn.b h1;omega) (by have:=hn.b h1;omega)
  have hc:=fun h1=>lowP_count hok f (ns.getD k default).c.toNat (inT (ns.getD k default) 2 names) (by have:=hn.c h1;omega) (by have:=hn.c h1;omega)
  have el:lowP ns (f+1) k names=lowB (ns.getD k default) names (lowP ns f (ns.getD k default).a.toNat (inT (ns.getD k default) 0 names)) (lowP ns f (ns.getD k default).b.toNat (inT (ns.getD k default) 1 names)) (lowP ns f (ns.getD k default).c.toNat (inT (ns.getD k default) 2 names)):=rfl
  rw[el]
  clear el
  generalize lowP ns f (ns.getD k default).a.toNat _=A at*
  generalize lowP ns f (ns.getD k default).b.toNat _=B at*
  generalize lowP ns f (ns.getD k default).c.toNat _=C at*
  have hle:=arN_le (ns.getD k default).op
  clear hn
  generalize arN (ns.getD k default).op=r at*
  generalize (lowB (ns.getD k default) names A B C).count=x at*
  generalize cntT ns k=ck at*
  generalize cntT ns (ns.getD k default).a.toNat=ca at*
  generalize cntT ns (ns.getD k default).b.toNat=cb at*
  generalize cntT ns (ns.getD k default).c.toNat=cc at*
  have:r=0∨r=1∨r=2∨r=3:=by omega
  rcases this with rfl|rfl|rfl|rfl
  ·simp at h1 h2;omega
  ·have:=ha (by omega);simp at h1 h2;omega
  ·have:=ha (by omega);have:=hb (by omega);simp at h1 h2;omega
  ·have:=ha (by omega);have:=hb (by omega);have:=hc (by omega);simp at h1 h2;omega
structure Ins where
 op:Int
 arg:Int
 val:List Cell
 deriving Inhabited
def Ins.row (x:Ins):List D:=[dI x.op,dI x.arg,cellsD x.val]
structure Cst where
 L:List Ins
 many:Int
def Cst.put (s:Cst)(op arg:Int):Cst:=⟨s.L++[⟨op,arg,[]⟩],s.many⟩
def Cst.val (s:Cst)(op:Int)(v:List Cell):Cst:=⟨s.L++[⟨op,0,v⟩],s.many⟩
def Cst.reg (s:Cst):Cst:=⟨s.L,s.many+1⟩
theorem Cst.put_len (s:Cst)(op arg:Int):(s.put op arg).L.length=s.L.length+1:=by simp[Cst.put]
theorem Cst.reg_many (s:Cst):s.reg.many=s.many+1:=rfl
section
variable (go:Int→List Int→Cst→Cst)(n:Co)(regs:List Int)(s:Cst)
end
def Cst.near (s s2:Cst)(c r:Nat):Prop:=s.L.length≤s2.L.length∧s2.L.length≤s.L.length+c∧s.many≤s2.many∧s2.many≤s.many+r
section
variable {s0 s:Cst}{c r:Nat}
theorem Cst.near.refl (s:Cst):s.near s 0 0:=⟨Nat.le_refl _,Nat.le_refl _,Int.le_refl _,by omega⟩
theorem Cst.near.mono {c' r':Nat}(h:s0.near s c r)(hc:c≤c')(hr:r≤r'):s0.near s c' r':=⟨h.1,by have:=h.2.1;omega,h.2.2.1,by have:=h.2.2.2;omega⟩
theorem Cst.near.put {op arg:Int}(h:s0.near s c r):s0.near (s.put op arg) (c+1) r:=by
 obtain⟨h1,h2,h3,h4⟩:=h
 refine⟨?_,?_,h3,h4⟩<;>rw[Cst.put_len]<;>omega
theorem Cst.near.reg (h:s0.near s c r):s0.near s.reg c (r+1):=by
 obtain⟨h1,h2,h3,h4⟩:=h
 refine⟨h1,h2,?_,?_⟩<;>rw[Cst.reg_many]<;>omega
theorem Cst.near.go {go:Int→List Int→Cst→Cst}{j:Int}{regs:List Int}{c' r':Nat}(hg: ∀(regs:List Int) (s:Cst),s.near (go j regs s) c' r')(h:s0.near s c r):s0.near (go j regs s) (c+c') (r+r'):=by
 obtain⟨h1,h2,h3,h4⟩:=h
 obtain⟨g1,g2,g3,g4⟩:=hg regs s
 exact⟨by omega,by omega,by omega,by omega⟩
end
structure CoK (cs:List Co) (k:Nat):Prop where
 op:1≤(cs.getD k default).op∧(cs.getD k default).op≤17
 a:1≤arC (cs.getD k default).op→0≤(cs.getD k default).a∧(cs.getD k default).a<k
 b:2≤arC (cs.getD k default).op→0≤(cs.getD k default).b∧(cs.getD k default).b<k
 c:3≤arC (cs.getD k default).op→0≤(cs.getD k default).c∧(cs.getD k default).c<k
 num:(cs.getD k default).op=13∨(cs.getD k default).op=14∨(cs.getD k default).op=15→0≤(cs.getD k default).num∧(cs.getD k default).num≤59
 fine:(cs.getD k default).fine
end Go.Proofs.YtmmjbpgdkokjgaaGreatDoor
