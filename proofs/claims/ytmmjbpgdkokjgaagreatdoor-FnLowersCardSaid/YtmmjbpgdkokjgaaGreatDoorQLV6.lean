/-
  A text of this claim. Conditions: none.
-/
import Derived.Test.YtmmjbpgdkokjgaaGreatDoorQLOr1
import Derived.Test.YtmmjbpgdkokjgaaGreatDoorQLV2
import Derived.Test.YtmmjbpgdkokjgaaGreatDoorQLPgD
set_option linter.unusedVariables false
set_option linter.unusedSimpArgs false
set_option maxRecDepth 100000
set_option maxHeartbeats 16000000
namespace Go.Proofs.YtmmjbpgdkokjgaaGreatDoor
open Go.RowKit
inductive V where
 |mk (kind num:Int) (text:ByteArray) (keys:List ByteArray) (kids:List V)
 deriving Inhabited
abbrev keyRow (k:ByteArray):List D:=[dS k]
mutual
def V.row :V→List D
 |.mk k n t ks kids=>[dI k,dI n,dS t,.sl 1 (ks.map keyRow),.sl 5 (V.rows kids)]
def V.rows :List V→List (List D)
 |[]=>[]
 |v::r=>V.row v::V.rows r
end
theorem V.rows_app (v:V): ∀l:List V,V.rows (l++[v])=V.rows l++[v.row]
 |[]=>rfl
 |x::r=>by rw[List.cons_append];simp only[V.rows];rw[V.rows_app v r];rfl
theorem V.rows_length : ∀l:List V,(V.rows l).length=l.length
 |[]=>rfl
 |x::r=>by simp[V.rows,V.rows_length r]
def V.zero :V:=.mk 0 0 noS [] []
def kidsM (rec:Nat→Option (V×Nat))(cs:List Cell)(c:Cell):Nat→Nat→List ByteArray→List V→Nat→Option (List ByteArray×List V×Nat)
 |0,_,keys,kids,next=>some (keys,kids,next)
 |r+1,i,keys,kids,next=>
  match rec next with
  |none=>none
  |some (kid,behind)=>
   if(c.kind=5∧(cs.getD next default).key≠noS)∨(c.kind=6∧0<i∧Op.bytesLess (keys.getD (i - 1) default).data.toList (cs.getD next default).key.data.toList=false) then none
   else kidsM rec cs c r (i+1) (if c.kind=6 then keys++[(cs.getD next default).key] else keys) (kids++[kid]) behind
def valAtM (cs:List Cell):Nat→Nat→Option (V×Nat)
 |0,_=>none
 |f+1,k=>
  if k<cs.length then
   match kidsM (valAtM cs f) cs (cs.getD k default) (cs.getD k default).n.toNat 0 [] [] (k+1) with
   |none=>none
   |some (keys,kids,next)=>some (.mk (cs.getD k default).kind (cs.getD k default).num (cs.getD k default).text keys kids,next)
  else none
def valRes :Option (V×Nat)→List T
 |some (v,b)=>[.d (.agg v.row),.d (dI b),.d (dB true)]
 |none=>[.d (.agg V.zero.row),.d (dI 0),.d (dB false)]
theorem kidsM_le {rec:Nat→Option (V×Nat)}{cs:List Cell}{c:Cell}{N:Nat}(hr: ∀k v b,rec k=some (v,b)→k<b∧b≤N): ∀(r i:Nat) (keys:List ByteArray) (kids:List V) (next:Nat) (x:List ByteArray×List V×Nat),
 kidsM rec cs c r i keys kids next=some x→next≤N→next≤x.2.2∧x.2.2≤N
 |0,i,keys,kids,next,x,h,hn=>by
  simp only[kidsM,Option.some.injEq] at h
  subst h;exact⟨Nat.le_refl _,hn⟩
 |r+1,i,keys,kids,next,x,h,hn=>by
  simp only[kidsM] at h
  split at h
  ·cases h
  ·rename_i kid b hk
   split at h
   ·cases h
   ·have h1:=hr next kid b hk
    have:=kidsM_le hr r _ _ _ b x h h1.2
    omega
theorem valAtM_le {cs:List Cell}: ∀(f k:Nat) (v:V) (b:Nat),valAtM cs f k=some (v,b)→k<b∧b≤cs.length
 |0,k,v,b,h=>by simp[valAtM] at h
 |f+1,k,v,b,h=>by
  simp only[valAtM] at h
  split at h
  ·rename_i hk
   split at h
   ·cases h
   ·rename_i keys kids next hx
    simp only[Option.some.injEq,Prod.mk.injEq] at h
    have:=kidsM_le (valAtM_le f) _ _ _ _ _ _ hx (by omega)
    simp only at this
    omega
  ·cases h
theorem valAt_fn (cs:List Cell)(hl:cs.length≤1048576): ∀(f k:Nat),cs.length<k+f→k≤1048577→Fun env.P 124 [cellsD cs,dI k] (.tup (valRes (valAtM cs f k))) []
 |0,k,h,hk=>by
  refine Fun.intro Tryz.func124 rfl (by kernel_rfl) rfl ?_
  repeat'(first|refine Z1 ?_|((refine SP (fun h=>?_) fun h=>?_)<;>(try(exfalso;first|contradiction|omega))))
  ·(refine W.ret ?_;(first|refine RetQ.t3' ?_ ?_ ?_))
   all_goals rfl
 |f+1,k,h,hk=>by
  have ih:=valAt_fn cs hl f
  refine Fun.intro Tryz.func124 rfl (by kernel_rfl) rfl ?_
  repeat'(first|refine Z1 ?_|((refine SP (fun h=>?_) fun h=>?_)<;>(try(exfalso;first|contradiction|omega))))
  ·have e:valAtM cs (f+1) k=none:=by rw[valAtM,if_neg (by omega)]
   rw[e]
   (refine W.ret ?_;(first|refine RetQ.t3' ?_ ?_ ?_))
   all_goals rfl
  rename_i hkl
  generalize hc:cs.getD (Int.toNat k) default=c
  have hc':cs.getD k default=c:=by rw[←hc];simp
  refine W.adoptPv 2 3 9 rfl rfl ?_
  refine W.adoptPv 2 4 92 rfl rfl ?_
  refine W.loopI (fun m S=> ∃(i:Nat) (keys:List ByteArray) (kids:List V) (next:Nat) (rk rv:List (List D)),m=c.n.toNat - i∧((i≤c.n.toNat∨i=0)∧k+1+i≤next∧next≤cs.length∧rv.length=i∧keys.length≤i∧(c.kind=6→keys.length=i)∧
   kidsM (valAtM cs f) cs c c.n.toNat 0 [] [] (k+1)=kidsM (valAtM cs f) cs c (c.n.toNat - i) i keys kids next∧rv=V.rows kids∧rk=keys.map keyRow)∧
   S=⟨ofL [(0,.d (cellsD cs)),(4,.lp 0 0),(7,.lp 1 0),(8,.lp 2 0),(9,vI .i64 next),(34,vI .i64 c.n),(35,vI .i64 i)],
    [.pv [.d (dI 0),.d (dI 0),.d (dS ByteArray.empty),.d (.nl 1),.d (.nl 5)],.pv (c.row.map .d),.pv [.d (dI c.kind),.d (dI c.num),.d (dS c.text),.og 3 0,.og 4 0],
     .gr 1 9 rk 0 false,.gr 5 92 rv 0 false]⟩) _ _ ⟨0,[],[],k+1,[],[],rfl,⟨.inr rfl,Nat.le_refl _,by omega,rfl,Nat.le_refl _,fun _=>rfl,rfl,rfl,rfl⟩,rfl⟩ (St.imp.of_le lE) ?_
  rintro m S ⟨i,keys,kids,next,rk,rv,rfl,⟨hi,hn1,hn2,hrl,hkl2,hk6,he,hrv,rfl⟩,rfl⟩
  repeat'(first|refine Z1 ?_|((refine SP (fun h=>?_) fun h=>?_)<;>(try(exfalso;first|contradiction|omega))))
  ·have hn:c.n.toNat - i=(c.n.toNat - (i+1))+1:=by omega
   rw[hn] at he
   cases hv:valAtM cs f next with
   |none=>
    have ih':=(ih next (by omega) (by omega)).cast rfl (congrArg (fun x=>T.tup (valRes x)) hv) rfl
    simp only[kidsM,hv] at he
    have e:valAtM cs (f+1) k=none:=by rw[valAtM,if_pos (by omega),hc',he]
    rw[e]
    repeat'(first|refine Z1 ?_|refine WG.c (E:=env) rfl rfl (ih') rfl rfl ?_|((refine SP (fun h=>?_) fun h=>?_)<;>(try(exfalso;first|contradiction|omega))))
    (refine W.ret ?_;(first|refine RetQ.t3' ?_ ?_ ?_))
    all_goals rfl
   |some p=>
    obtain⟨⟨vk,vn,vt,vks,vkd⟩,b⟩:=p
    have hb:=valAtM_le f next _ _ hv
    have ih':=(ih next (by omega) (by omega)).cast rfl (congrArg (fun x=>T.tup (valRes x)) hv) rfl
    simp only[kidsM,hv] at he
    by_cases hk:c.kind=6
    ·have hkl3:=hk6 hk
     simp only[hk,if_true,true_and,show ¬(6:Int)=5 by decide,false_and,false_or] at he
     by_cases hge:0<i∧Op.bytesLess (keys.getD (i - 1) default).data.toList (cs.getD next default).key.data.toList=false
     ·rw[if_pos hge] at he
      have e:valAtM cs (f+1) k=none:=by rw[valAtM,if_pos (by omega),hc',he]
      rw[e]
      repeat'(first|refine Z1 ?_|refine WG.c (E:=env) rfl rfl (ih') rfl rfl ?_|((refine SP (fun h=>?_) fun h=>?_)<;>(try(exfalso;first|contradiction|omega))))
      all_goals first|((refine W.ret ?_;(first|refine RetQ.t3' ?_ ?_ ?_));all_goals rfl;done)|(exfalso;(try simp only[Int.toNat_natCast,Int.toNat_zero,toNat_cc,toNat_c1,toNat_cm1,toNat_cm] at *);simp_all;done)
     ·rw[if_neg hge] at he
      repeat'(first|refine Z1 ?_|refine WG.c (E:=env) rfl rfl (ih') rfl rfl ?_|((refine SP (fun h=>?_) fun h=>?_)<;>(try(exfalso;first|contradiction|omega))))
      all_goals first
       |(exfalso;(try simp only[Int.toNat_natCast,Int.toNat_zero,toNat_cc,toNat_c1,toNat_cm1,toNat_cm] at *);exact hge ⟨by omega,by assumption⟩;done)
       |((try simp only[Int.toNat_natCast,Int.toNat_zero,toNat_cc,toNat_c1,toNat_cm1,toNat_cm] at *)
         refine⟨_,_,?_,⟨i+1,keys++[(cs.getD next default).key],kids++[V.mk vk vn vt vks vkd],b,_,_,rfl,⟨?_,?_,?_,?_,?_,?_,?_,?_,?_⟩,rfl⟩,(St.imp.rev 3 1 rfl).trans ((St.imp.rev 4 1 rfl).trans (St.imp.of_le lE))⟩
         ·omega
         ·omega
         ·omega
         ·omega
         ·simp;omega
         ·simp;omega
         ·intro _;simp;omega
         ·exact he
         ·rw[V.rows_app,←hrv];rfl
         ·rw[List.map_append];rfl)
    ·simp only[hk,if_false,false_and,or_false] at he
     by_cases hge:c.kind=5∧(cs.getD next default).key≠noS
     ·rw[if_pos hge] at he
      have e:valAtM cs (f+1) k=none:=by rw[valAtM,if_pos (by omega),hc',he]
      rw[e]
      repeat'(first|refine Z1 ?_|refine WG.c (E:=env) rfl rfl (ih') rfl rfl ?_|((refine SP (fun h=>?_) fun h=>?_)<;>(try(exfalso;first|contradiction|omega))))
      all_goals first|((refine W.ret ?_;(first|refine RetQ.t3' ?_ ?_ ?_));all_goals rfl;done)|(exfalso;(try simp only[Int.toNat_natCast,Int.toNat_zero,toNat_cc,toNat_c1,toNat_cm1,toNat_cm] at *);simp_all;done)
     ·rw[if_neg hge] at he
      repeat'(first|refine Z1 ?_|refine WG.c (E:=env) rfl rfl (ih') rfl rfl ?_|((refine SP (fun h=>?_) fun h=>?_)<;>(try(exfalso;first|contradiction|omega))))
      all_goals first
       |(exfalso;(try simp only[Int.toNat_natCast,Int.toNat_zero,toNat_cc,toNat_c1,toNat_cm1,toNat_cm] at *);exact hge ⟨by assumption,by assumption⟩;done)
       |((try simp only[Int.toNat_natCast,Int.toNat_zero,toNat_cc,toNat_c1,toNat_cm1,toNat_cm] at *)
         refine⟨_,_,?_,⟨i+1,keys,kids++[V.mk vk vn vt vks vkd],b,_,_,rfl,⟨?_,?_,?_,?_,?_,?_,?_,?_,?_⟩,rfl⟩,(St.imp.rev 4 1 rfl).trans (St.imp.of_le lE)⟩
         ·omega
         ·omega
         ·omega
         ·omega
         ·simp;omega
         ·omega
         ·intro h6;exact absurd h6 hk
         ·exact he
         ·rw[V.rows_app,←hrv];rfl
         ·rfl)
  ·have hn:c.n.toNat - i=0:=by omega
   rw[hn,kidsM] at he
   have e:valAtM cs (f+1) k=some (.mk c.kind c.num c.text keys kids,next):=by rw[valAtM,if_pos (by omega),hc',he]
   rw[e]
   refine W.pub 3 rfl ?_
   refine W.pub 4 rfl ?_
   (refine W.ret ?_;(first|refine RetQ.t3' ?_ ?_ ?_))
   ·rw[hrv];rfl
   ·rfl
   ·rfl
mutual
def V.depth :V→Int
 |.mk _ _ _ _ kids=>V.depths kids+1
def V.depths :List V→Int
 |[]=>0
 |v::r=>max (V.depth v) (V.depths r)
end
mutual
def V.count :V→Nat
 |.mk _ _ _ _ kids=>V.counts kids+1
def V.counts :List V→Nat
 |[]=>0
 |v::r=>V.count v+V.counts r
end
mutual
theorem V.depth_le : ∀v:V,1≤v.depth∧v.depth≤v.count
 |.mk _ _ _ _ kids=>by
  have:=V.depths_le kids
  simp only[V.depth,V.count]
  omega
theorem V.depths_le : ∀l:List V,0≤V.depths l∧V.depths l≤V.counts l
 |[]=>by simp[V.depths,V.counts]
 |v::r=>by
  have:=V.depth_le v
  have:=V.depths_le r
  simp only[V.depths,V.counts]
  omega
end
theorem V.depths_app (v:V): ∀l:List V,V.depths (l++[v])=max (V.depths l) v.depth
 |[]=>by have:=V.depth_le v;simp[V.depths];omega
 |x::r=>by
  rw[List.cons_append]
  simp only[V.depths]
  rw[V.depths_app v r]
  omega
theorem V.counts_ge {l:List V}: ∀v∈l,v.count≤V.counts l:=by
 induction l with
 |nil=>intro v h;cases h
 |cons x r ih=>
  intro v h
  simp only[V.counts]
  rcases List.mem_cons.1 h with rfl|h
  ·omega
  ·have:=ih v h;omega
theorem V.rows_map : ∀l:List V,V.rows l=l.map V.row
 |[]=>rfl
 |x::r=>by simp[V.rows,V.rows_map r]
theorem V.length_counts : ∀l:List V,l.length≤V.counts l
 |[]=>Nat.le_refl _
 |x::r=>by
  have:=V.length_counts r
  have:=V.depth_le x
  simp only[V.counts,List.length_cons]
  omega
def V.kind :V→Int|.mk k _ _ _ _=>k
def V.num :V→Int|.mk _ n _ _ _=>n
def V.text :V→ByteArray|.mk _ _ t _ _=>t
def V.keys :V→List ByteArray|.mk _ _ _ ks _=>ks
def V.kids :V→List V|.mk _ _ _ _ kids=>kids
def V.rowP (v:V):List D:=[dI v.kind,dI v.num,dS v.text,.sl 1 (v.keys.map keyRow),.sl 5 (v.kids.map V.row)]
theorem V.row_eq : ∀v:V,v.row=v.rowP
 |.mk k n t ks kids=>by simp only[V.row,V.rows_map];rfl
theorem depthP_fn : ∀(n:Nat) (v:V),v.count≤n→n≤1048576→Fun env.P 125 [.agg v.rowP] (.d (dI v.depth)) []
 |0,v,h,_=>by
  have:=V.depth_le v
  omega
 |n+1,v,h,hn=>by
  have ih:=depthP_fn n
  obtain⟨k,nm,t,ks,kids⟩:=v
  simp only[V.count] at h
  have hlc:=V.length_counts kids
  have hdep: ∀j,j<kids.length→(kids.getD j default).count≤n:=fun j hj=>by
   have:=V.counts_ge (kids.getD j default) (getD_mem' hj)
   omega
  have hmax: ∀j,V.depths (kids.take j)≤V.counts kids:=fun j=>by
   have h1:=V.depths_le (kids.take j)
   have h2:V.counts (kids.take j)≤V.counts kids:=by
    have: ∀(l:List V) (j:Nat),V.counts (l.take j)≤V.counts l:=by
     intro l
     induction l with
     |nil=>intro j;simp
     |cons x r ih=>intro j;cases j<;>simp[V.counts,List.take];have:=ih ‹_›;omega
    exact this kids j
   omega
  refine Fun.intro Tryz.func125 rfl (by kernel_rfl) rfl ?_
  repeat'(first|refine Z1 ?_|((refine SP (fun h=>?_) fun h=>?_)<;>(try(exfalso;first|contradiction|omega))))
  refine W.loop (fun m S=> ∃(i:Nat),m=kids.length - i∧i≤kids.length∧S=⟨ofL [(3,vI .i64 (V.depths (kids.take i))),(7,.d (.sl 5 (kids.map V.row))),(8,vI .i64 (kids.map V.row).length),(9,vI .i64 i)],[]⟩) _ _ ⟨0,rfl,by omega,rfl⟩ lE ?_
  rintro m S ⟨i,rfl,hi,rfl⟩
  have hm1:=hmax i
  have hm2:=(V.depths_le (kids.take i)).1
  repeat'(first|refine WG.ixm (E:=env) (f':=V.rowP) rfl rfl rfl rfl rfl rfl rfl (fun x=>V.row_eq x) (by(first|exact trivial|(simp only[inRange,List.length_map];omega)|omega|assumption)) ?_|refine Z1 ?_|refine WG.c (E:=env) rfl rfl (ih _ (hdep _ (by omega)) (by omega)) rfl rfl ?_|((refine SP (fun h=>?_) fun h=>?_)<;>(try(exfalso;first|contradiction|omega))))
  ·(try simp only[Int.toNat_natCast,Int.toNat_zero,toNat_cc,toNat_c1,toNat_cm1,toNat_cm] at *)
   exact⟨_,_,by omega,⟨i+1,rfl,by omega,by rw[take_step (by omega),V.depths_app]⟩,lE⟩
  ·(refine W.ret ?_;(first|refine RetQ.i' ?_))
   rw[show i=kids.length by omega,List.take_length]
   rfl
theorem size_fn (cs:List Cell):Fun env.P 122 [cellsD cs] (.d (dI (cs.map Cell.row).length)) []:=by
 refine Fun.intro Tryz.func122 rfl (by kernel_rfl) rfl ?_
 repeat'(first|refine Z1 ?_)
 (refine W.ret ?_;(first|refine RetQ.i' ?_))
 rfl
def cellsCode :List Cell→Int
 |[]=>0
 |c::r=>if cellCode c≠0 then cellCode c else cellsCode r
def valOfM (cs:List Cell):V×Int:=
 if ¬(1≤cs.length∧cs.length≤200) then(V.zero,2)
 else if cellsCode cs≠0 then(V.zero,cellsCode cs)
 else match valAtM cs (cs.length+1) 0 with
  |none=>(V.zero,1)
  |some (v,b)=>if b≠cs.length∨(cs.getD 0 default).key≠noS then(V.zero,1) else if 20<v.depth then(V.zero,7) else(v,0)
theorem kids_count {rec:Nat→Option (V×Nat)}{cs:List Cell}{c:Cell}(hr: ∀k v b,rec k=some (v,b)→k+v.count≤b): ∀(r i:Nat) (keys:List ByteArray) (kids:List V) (next:Nat) (x:List ByteArray×List V×Nat),
 kidsM rec cs c r i keys kids next=some x→V.counts x.2.1+next≤V.counts kids+x.2.2
 |0,i,keys,kids,next,x,h=>by
  simp only[kidsM,Option.some.injEq] at h
  subst h;simp
 |r+1,i,keys,kids,next,x,h=>by
  simp only[kidsM] at h
  split at h
  ·cases h
  ·rename_i kid b hk
   split at h
   ·cases h
   ·have h1:=hr next kid b hk
    have:=kids_count hr r _ _ _ b x h
    have happ: ∀(l:List V) (v:V),V.counts (l++[v])=V.counts l+v.count:=by
     intro l v
     induction l with
     |nil=>simp[V.counts]
     |cons y r ih=>rw[List.cons_append];simp only[V.counts];rw[ih];omega
    rw[happ] at this
    omega
theorem valAtM_count {cs:List Cell}: ∀(f k:Nat) (v:V) (b:Nat),valAtM cs f k=some (v,b)→k+v.count≤b
 |0,k,v,b,h=>by simp[valAtM] at h
 |f+1,k,v,b,h=>by
  simp only[valAtM] at h
  split at h
  ·split at h
   ·cases h
   ·rename_i keys kids next hx
    simp only[Option.some.injEq,Prod.mk.injEq] at h
    obtain⟨rfl,rfl⟩:=h
    have:=kids_count (valAtM_count f) _ _ _ _ _ _ hx
    simp only[V.counts,V.count] at this ⊢
    omega
  ·cases h
theorem valOf_fn (cs:List Cell)(ht: ∀c∈cs,c.text.size≤1048576∧c.key.size≤1048576)(hl:cs.length≤1048576):Fun env.P 70 [cellsD cs] (.tup [.d (.agg (valOfM cs).1.row),.d (dI (valOfM cs).2)]) []:=by
 refine Fun.intro Tryz.func70 rfl (by kernel_rfl) rfl ?_
 have hat: ∀i:Nat,i<cs.length→(cs.getD i default).text.size≤1048576∧(cs.getD i default).key.size≤1048576:=fun i hi=>ht _ (getD_mem' hi)
 repeat'(first|refine Z1 ?_|refine WG.c (E:=env) rfl rfl (size_fn cs) rfl rfl ?_|refine WG.c (E:=env) rfl rfl (within_fn _ _ _) rfl rfl ?_|((refine SP (fun h=>?_) fun h=>?_)<;>(try(exfalso;first|contradiction|omega))))
 ·have e:valOfM cs=(V.zero,2):=by rw[valOfM,if_pos (by omega)]
  rw[e]
  (refine W.ret ?_;(first|refine RetQ.t2' ?_ ?_))
  all_goals rfl
 refine W.loop (fun m S=> ∃(i:Nat),m=cs.length - i∧(i≤cs.length∧cellsCode cs=cellsCode (cs.drop i))∧S=⟨ofL [(0,.d (cellsD cs)),(2,.lp 0 0),(3,vI .i64 0),(15,.d (cellsD cs)),(16,vI .i64 (cs.map Cell.row).length),(17,vI .i64 i)],[.pv [.d (dI 0),.d (dI 0),.d (dS ByteArray.empty),.d (.nl 1),.d (.nl 5)]]⟩) _ _ ⟨0,rfl,⟨by omega,rfl⟩,rfl⟩ lE ?_
 rintro m S ⟨i,rfl,⟨hi,he⟩,rfl⟩
 repeat'(first|refine Z1 ?_|refine WG.c (E:=env) rfl rfl (cellFault_fn _ (hat _ (by omega)).1 (hat _ (by omega)).2) rfl rfl ?_|((refine SP (fun h=>?_) fun h=>?_)<;>(try(exfalso;first|contradiction|omega))))
 ·(try simp only[Int.toNat_natCast,Int.toNat_zero,toNat_cc,toNat_c1,toNat_cm1,toNat_cm] at *)
  rw[drop_step (by omega),cellsCode,if_pos (by assumption)] at he
  have e:valOfM cs=(V.zero,cellCode (cs.getD i default)):=by rw[valOfM,if_neg (by omega),if_pos (by rw[he];assumption),he]
  rw[e]
  (refine W.ret ?_;(first|refine RetQ.t2' ?_ ?_))
  all_goals rfl
 ·(try simp only[Int.toNat_natCast,Int.toNat_zero,toNat_cc,toNat_c1,toNat_cm1,toNat_cm] at *)
  exact⟨_,_,by omega,⟨i+1,rfl,⟨by omega,by rw[he,drop_step (by omega),cellsCode,if_neg (by simp only[*];simp)]⟩,rfl⟩,lE⟩
 rw[List.drop_eq_nil_of_le (by omega)] at he
 cases hv:valAtM cs (cs.length+1) 0 with
 |none=>
  have hc:=(valAt_fn cs hl (cs.length+1) 0 (by omega) (by omega)).cast rfl (congrArg (fun x=>T.tup (valRes x)) hv) rfl
  have e:valOfM cs=(V.zero,1):=by rw[valOfM,if_neg (by omega),if_neg (by rw[he];simp[cellsCode]),hv]
  rw[e]
  repeat'(first|refine Z1 ?_|refine WG.c (E:=env) rfl rfl (hc) rfl rfl ?_|((refine SP (fun h=>?_) fun h=>?_)<;>(try(exfalso;first|contradiction|omega))))
  (refine W.ret ?_;(first|refine RetQ.t2' ?_ ?_))
  all_goals rfl
 |some p=>
  obtain⟨⟨vk,vn,vt,vks,vkd⟩,b⟩:=p
  have hc:=(valAt_fn cs hl (cs.length+1) 0 (by omega) (by omega)).cast rfl (congrArg (fun x=>T.tup (valRes x)) hv) rfl
  have hcount:=valAtM_count _ _ _ _ hv
  have hb:=valAtM_le _ _ _ _ hv
  have hd:=(depthP_fn 1048576 (.mk vk vn vt vks vkd) (by omega) (by omega)).cast (args':=[.agg (V.row (.mk vk vn vt vks vkd))]) (by rw[V.row_eq]) rfl rfl
  have e0:valOfM cs=if b≠cs.length∨(cs.getD 0 default).key≠noS then(V.zero,1) else if 20<(V.mk vk vn vt vks vkd).depth then(V.zero,7) else(.mk vk vn vt vks vkd,0):=by
   rw[valOfM,if_neg (by omega),if_neg (by rw[he];simp[cellsCode]),hv]
  by_cases h1:b≠cs.length∨(cs.getD 0 default).key≠noS
  ·rw[if_pos h1] at e0
   rw[e0]
   repeat'(first|refine Z1 ?_|refine WG.c (E:=env) rfl rfl (hc) rfl rfl ?_|((refine SP (fun h=>?_) fun h=>?_)<;>(try(exfalso;first|contradiction|omega))))
   all_goals first|((refine W.ret ?_;(first|refine RetQ.t2' ?_ ?_));all_goals rfl;done)|(exfalso;(try simp only[Int.toNat_natCast,Int.toNat_zero,toNat_cc,toNat_c1,toNat_cm1,toNat_cm] at *);rcases h1 with h1|h1<;>first|omega|contradiction)
  ·rw[if_neg h1] at e0
   by_cases h2:20<(V.mk vk vn vt vks vkd).depth
   ·rw[if_pos h2] at e0
    rw[e0]
    repeat'(first|refine Z1 ?_|refine WG.c (E:=env) rfl rfl (hc) rfl rfl ?_|refine WG.c (E:=env) rfl rfl (hd) rfl rfl ?_|((refine SP (fun h=>?_) fun h=>?_)<;>(try(exfalso;first|contradiction|omega))))
    all_goals first|((refine W.ret ?_;(first|refine RetQ.t2' ?_ ?_));all_goals rfl;done)|(exfalso;(try simp only[Int.toNat_natCast,Int.toNat_zero,toNat_cc,toNat_c1,toNat_cm1,toNat_cm] at *);exact h1 (.inl (by omega));done)|(exfalso;(try simp only[Int.toNat_natCast,Int.toNat_zero,toNat_cc,toNat_c1,toNat_cm1,toNat_cm] at *);exact h1 (.inr (by assumption));done)
   ·rw[if_neg h2] at e0
    rw[e0]
    repeat'(first|refine Z1 ?_|refine WG.c (E:=env) rfl rfl (hc) rfl rfl ?_|refine WG.c (E:=env) rfl rfl (hd) rfl rfl ?_|((refine SP (fun h=>?_) fun h=>?_)<;>(try(exfalso;first|contradiction|omega))))
    all_goals first|((refine W.ret ?_;(first|refine RetQ.t2' ?_ ?_));all_goals rfl;done)|(exfalso;(try simp only[Int.toNat_natCast,Int.toNat_zero,toNat_cc,toNat_c1,toNat_cm1,toNat_cm] at *);exact h1 (.inl (by omega));done)|(exfalso;(try simp only[Int.toNat_natCast,Int.toNat_zero,toNat_cc,toNat_c1,toNat_cm1,toNat_cm] at *);exact h1 (.inr (by assumption));done)
def shapeRes :Option (V×Nat)→List T
 |some (v,b)=>[.d (dI b),.d (dI v.depth)]
 |none=>[.d (dI (-1)),.d (dI 0)]
theorem valAtM_ge {cs:List Cell}{f k:Nat}(h:cs.length≤k):valAtM cs f k=none:=by
 cases f with
 |zero=>rfl
 |succ f=>rw[valAtM,if_neg (by omega)]
theorem kidsM_bad {rec:Nat→Option (V×Nat)}{cs:List Cell}{c:Cell}{r i:Nat}{keys:List ByteArray}{kids:List V}{next:Nat}
 (h:(c.kind=5∧(cs.getD next default).key≠noS)∨(c.kind=6∧0<i∧Op.bytesLess (keys.getD (i - 1) default).data.toList (cs.getD next default).key.data.toList=false)):
 kidsM rec cs c (r+1) i keys kids next=none:=by
 simp only[kidsM]
 split
 ·rfl
 ·rw[if_pos h]
theorem l1Shape_fn (cs:List Cell)(hl:cs.length≤200): ∀(f k dep:Nat),cs.length<k+f→k≤201→dep≤k→Fun env.P 176 [cellsD cs,dI k,dI dep] (.tup (shapeRes (valAtM cs f k))) []
 |0,k,dep,h,hk,hd=>by
  rw[valAtM_ge (by omega)]
  refine Fun.intro Tryz.func176 rfl (by kernel_rfl) rfl ?_
  repeat'(first|refine Z1 ?_|((refine SP (fun h=>?_) fun h=>?_)<;>(try(exfalso;first|contradiction|omega))))
  all_goals (refine W.ret ?_;(first|refine RetQ.t2' ?_ ?_))
  all_goals rfl
 |f+1,k,dep,h,hk,hd=>by
  have ih:=l1Shape_fn cs hl f
  refine Fun.intro Tryz.func176 rfl (by kernel_rfl) rfl ?_
  repeat'(first|refine Z1 ?_|((refine SP (fun h=>?_) fun h=>?_)<;>(try(exfalso;first|contradiction|omega))))
  ·rw[valAtM_ge (by omega)]
   (refine W.ret ?_;(first|refine RetQ.t2' ?_ ?_))
   all_goals rfl
  rename_i hkl _
  generalize hc:cs.getD (Int.toNat k) default=c
  have hc':cs.getD k default=c:=by rw[←hc];simp
  refine W.loopI (fun m S=> ∃(i:Nat) (keys:List ByteArray) (kids:List V) (next:Nat) (last:ByteArray) (deep:Int),m=c.n.toNat - i∧((i≤c.n.toNat∨i=0)∧k+1+i≤next∧next≤cs.length∧deep≤200∧deep=V.depths kids∧(c.kind=6→keys.length=i)∧(c.kind=6→0<i→last=keys.getD (i - 1) default)∧
   kidsM (valAtM cs f) cs c c.n.toNat 0 [] [] (k+1)=kidsM (valAtM cs f) cs c (c.n.toNat - i) i keys kids next)∧
   S=⟨ofL [(0,.d (cellsD cs)),(2,vI .i64 dep),(8,.lp 0 0),(9,vI .i64 deep),(10,vI .i64 next),(11,vS last),(12,vI .i64 i)],[.pv (c.row.map .d)]⟩) _ _
    ⟨0,[],[],k+1,⟨#[]⟩,0,rfl,⟨.inr rfl,Nat.le_refl _,by omega,by decide,rfl,fun _=>rfl,fun _ h=>absurd h (by omega),rfl⟩,rfl⟩ (St.imp.of_le lE) ?_
  rintro m S ⟨i,keys,kids,next,last,deep,rfl,⟨hi,hn1,hn2,hdp,hde,hk6,hla,he⟩,rfl⟩
  have hd0:=(V.depths_le kids).1
  by_cases hin:(i:Int)<c.n
  ·have hn:c.n.toNat - i=(c.n.toNat - (i+1))+1:=by omega
   rw[hn] at he
   by_cases hnx:next<cs.length
   ·by_cases hbad:(c.kind=5∧(cs.getD next default).key≠noS)∨(c.kind=6∧0<i∧Op.bytesLess last.data.toList (cs.getD next default).key.data.toList=false)
    ·rw[kidsM_bad (hbad.imp id fun⟨a,b,c⟩=>⟨a,b,hla a b▸c⟩)] at he
     have e:valAtM cs (f+1) k=none:=by rw[valAtM,if_pos (by omega),hc',he]
     rw[e]
     repeat'(first|refine Z1 ?_|((refine SP (fun h=>?_) fun h=>?_)<;>(try(exfalso;first|contradiction|omega))))
     all_goals first|((refine W.ret ?_;(first|refine RetQ.t2' ?_ ?_));all_goals rfl;done)|(exfalso;(try simp only[Int.toNat_natCast,Int.toNat_zero,toNat_cc,toNat_c1,toNat_cm1,toNat_cm] at *);rcases hbad with⟨g1,g2⟩|⟨g1,g2,g3⟩<;>first|contradiction|omega|(simp_all;done)|(simp_all;omega))
    ·cases hv:valAtM cs f next with
     |none=>
      have ih':=(ih next (dep+1) (by omega) (by omega) (by omega)).cast (args':=[cellsD cs,dI next,dI ((dep:Int)+1)]) (by simp) (congrArg (fun x=>T.tup (shapeRes x)) hv) rfl
      simp only[kidsM,hv] at he
      have e:valAtM cs (f+1) k=none:=by rw[valAtM,if_pos (by omega),hc',he]
      rw[e]
      repeat'(first|refine Z1 ?_|refine WG.c (E:=env) rfl rfl (ih') rfl rfl ?_|((refine SP (fun h=>?_) fun h=>?_)<;>(try(exfalso;first|contradiction|omega))))
      all_goals first|((refine W.ret ?_;(first|refine RetQ.t2' ?_ ?_));all_goals rfl;done)|(exfalso;(try simp only[Int.toNat_natCast,Int.toNat_zero,toNat_cc,toNat_c1,toNat_cm1,toNat_cm] at *);exact hbad (.inl ⟨by assumption,by assumption⟩);done)|(exfalso;(try simp only[Int.toNat_natCast,Int.toNat_zero,toNat_cc,toNat_c1,toNat_cm1,toNat_cm] at *);exact hbad (.inr ⟨by assumption,by omega,by assumption⟩);done)
     |some p=>
      obtain⟨v,b⟩:=p
      have hb:=valAtM_le f next _ _ hv
      have hcount:=valAtM_count f next _ _ hv
      have hvd:=V.depth_le v
      have ih':=(ih next (dep+1) (by omega) (by omega) (by omega)).cast (args':=[cellsD cs,dI next,dI ((dep:Int)+1)]) (by simp) (congrArg (fun x=>T.tup (shapeRes x)) hv) rfl
      simp only[kidsM,hv] at he
      rw[if_neg (fun h=>hbad (h.imp id fun⟨a,b,c⟩=>⟨a,b,(hla a b).symm▸c⟩))] at he
      repeat'(first|refine Z1 ?_|refine WG.c (E:=env) rfl rfl (ih') rfl rfl ?_|((refine SP (fun h=>?_) fun h=>?_)<;>(try(exfalso;first|contradiction|omega))))
      all_goals first
       |(exfalso;(try simp only[Int.toNat_natCast,Int.toNat_zero,toNat_cc,toNat_c1,toNat_cm1,toNat_cm] at *);exact hbad (.inl ⟨by assumption,by assumption⟩);done)
       |(exfalso;(try simp only[Int.toNat_natCast,Int.toNat_zero,toNat_cc,toNat_c1,toNat_cm1,toNat_cm] at *);exact hbad (.inr ⟨by assumption,by omega,by assumption⟩);done)
       |((try simp only[Int.toNat_natCast,Int.toNat_zero,toNat_cc,toNat_c1,toNat_cm1,toNat_cm] at *)
         refine⟨_,_,?_,⟨i+1,if c.kind=6 then keys++[(cs.getD next default).key] else keys,kids++[v],b,(cs.getD next default).key,_,rfl,⟨?_,?_,?_,?_,?_,?_,?_,?_⟩,rfl⟩,(St.imp.of_le lE)⟩
         ·omega
         ·omega
         ·omega
         ·omega
         ·omega
         ·rw[V.depths_app];omega
         ·intro h6;rw[if_pos h6];simp[hk6 h6]
         ·intro h6 _;rw[if_pos h6];simp[←hk6 h6]
         ·exact he)
   ·simp only[kidsM,valAtM_ge (Nat.le_of_not_lt hnx)] at he
    have e:valAtM cs (f+1) k=none:=by rw[valAtM,if_pos (by omega),hc',he]
    rw[e]
    repeat'(first|refine Z1 ?_|((refine SP (fun h=>?_) fun h=>?_)<;>(try(exfalso;first|contradiction|omega))))
    (refine W.ret ?_;(first|refine RetQ.t2' ?_ ?_))
    all_goals rfl
  ·have hn:c.n.toNat - i=0:=by omega
   rw[hn,kidsM] at he
   have e:valAtM cs (f+1) k=some (.mk c.kind c.num c.text keys kids,next):=by rw[valAtM,if_pos (by omega),hc',he]
   rw[e]
   repeat'(first|refine Z1 ?_|((refine SP (fun h=>?_) fun h=>?_)<;>(try(exfalso;first|contradiction|omega))))
   (refine W.ret ?_;(first|refine RetQ.t2' ?_ ?_))
   ·rfl
   ·rw[hde];rfl
theorem ValueFaultS_fn (cs:List Cell)(ht: ∀c∈cs,c.text.size≤1048576∧c.key.size≤1048576)(hl:cs.length≤1048576):Fun env.P 149 [cellsD cs] (.d (dI (valOfM cs).2)) []:=by
 have hat: ∀i:Nat,i<cs.length→(cs.getD i default).text.size≤1048576∧(cs.getD i default).key.size≤1048576:=fun i hi=>ht _ (getD_mem' hi)
 by_cases hlen:1≤cs.length∧cs.length≤200
 ·refine Fun.intro Tryz.func149 rfl (by kernel_rfl) rfl ?_
  repeat'(first|refine Z1 ?_|((refine SP (fun h=>?_) fun h=>?_)<;>(try(exfalso;first|contradiction|omega))))
  refine W.loop (fun m S=> ∃(i:Nat),m=cs.length - i∧(i≤cs.length∧cellsCode cs=cellsCode (cs.drop i))∧S=⟨ofL [(0,.d (cellsD cs)),(3,vI .i64 i)],[]⟩) _ _ ⟨0,rfl,⟨by omega,rfl⟩,rfl⟩ lE ?_
  rintro m S ⟨i,rfl,⟨hi,he⟩,rfl⟩
  repeat'(first|refine Z1 ?_|refine WG.c (E:=env) rfl rfl (l1Cell_fn _ (hat _ (by omega)).1 (hat _ (by omega)).2) rfl rfl ?_|((refine SP (fun h=>?_) fun h=>?_)<;>(try(exfalso;first|contradiction|omega))))
  ·(try simp only[Int.toNat_natCast,Int.toNat_zero,toNat_cc,toNat_c1,toNat_cm1,toNat_cm] at *)
   rw[drop_step (by omega),cellsCode,if_pos (by assumption)] at he
   have e:valOfM cs=(V.zero,cellCode (cs.getD i default)):=by rw[valOfM,if_neg (by omega),if_pos (by rw[he];assumption),he]
   rw[e]
   (refine W.ret ?_;(first|refine RetQ.i' ?_))
   rfl
  ·(try simp only[Int.toNat_natCast,Int.toNat_zero,toNat_cc,toNat_c1,toNat_cm1,toNat_cm] at *)
   exact⟨_,_,by omega,⟨i+1,rfl,⟨by omega,by rw[he,drop_step (by omega),cellsCode,if_neg (by simp only[*];simp)]⟩,rfl⟩,lE⟩
  rw[List.drop_eq_nil_of_le (by omega)] at he
  cases hv:valAtM cs (cs.length+1) 0 with
  |none=>
   have hc:=(l1Shape_fn cs (by omega) (cs.length+1) 0 0 (by omega) (by omega) (by omega)).cast rfl (congrArg (fun x=>T.tup (shapeRes x)) hv) rfl
   have e:valOfM cs=(V.zero,1):=by rw[valOfM,if_neg (by omega),if_neg (by rw[he];simp[cellsCode]),hv]
   rw[e]
   repeat'(first|refine Z1 ?_|refine WG.c (E:=env) rfl rfl (hc) rfl rfl ?_|((refine SP (fun h=>?_) fun h=>?_)<;>(try(exfalso;first|contradiction|omega))))
   all_goals first|((refine W.ret ?_;(first|refine RetQ.i' ?_));all_goals rfl;done)|(exfalso;omega)
  |some p=>
   obtain⟨v,b⟩:=p
   have hc:=(l1Shape_fn cs (by omega) (cs.length+1) 0 0 (by omega) (by omega) (by omega)).cast rfl (congrArg (fun x=>T.tup (shapeRes x)) hv) rfl
   have e0:valOfM cs=if b≠cs.length∨(cs.getD 0 default).key≠noS then(V.zero,1) else if 20<v.depth then(V.zero,7) else(v,0):=by
    rw[valOfM,if_neg (by omega),if_neg (by rw[he];simp[cellsCode]),hv]
   by_cases h1:b≠cs.length∨(cs.getD 0 default).key≠noS
   ·rw[if_pos h1] at e0
    rw[e0]
    repeat'(first|refine Z1 ?_|refine WG.c (E:=env) rfl rfl (hc) rfl rfl ?_|((refine SP (fun h=>?_) fun h=>?_)<;>(try(exfalso;first|contradiction|omega))))
    all_goals first|((refine W.ret ?_;(first|refine RetQ.i' ?_));all_goals rfl;done)|(exfalso;(try simp only[Int.toNat_natCast,Int.toNat_zero,toNat_cc,toNat_c1,toNat_cm1,toNat_cm] at *);rcases h1 with h1|h1<;>first|omega|contradiction)
   ·rw[if_neg h1] at e0
    by_cases h2:20<v.depth
    ·rw[if_pos h2] at e0
     rw[e0]
     repeat'(first|refine Z1 ?_|refine WG.c (E:=env) rfl rfl (hc) rfl rfl ?_|((refine SP (fun h=>?_) fun h=>?_)<;>(try(exfalso;first|contradiction|omega))))
     all_goals first|((refine W.ret ?_;(first|refine RetQ.i' ?_));all_goals rfl;done)|(exfalso;(try simp only[Int.toNat_natCast,Int.toNat_zero,toNat_cc,toNat_c1,toNat_cm1,toNat_cm] at *);exact h1 (.inl (by omega));done)|(exfalso;(try simp only[Int.toNat_natCast,Int.toNat_zero,toNat_cc,toNat_c1,toNat_cm1,toNat_cm] at *);exact h1 (.inr (by assumption));done)
    ·rw[if_neg h2] at e0
     rw[e0]
     repeat'(first|refine Z1 ?_|refine WG.c (E:=env) rfl rfl (hc) rfl rfl ?_|((refine SP (fun h=>?_) fun h=>?_)<;>(try(exfalso;first|contradiction|omega))))
     all_goals first|((refine W.ret ?_;(first|refine RetQ.i' ?_));all_goals rfl;done)|(exfalso;(try simp only[Int.toNat_natCast,Int.toNat_zero,toNat_cc,toNat_c1,toNat_cm1,toNat_cm] at *);exact h1 (.inl (by omega));done)|(exfalso;(try simp only[Int.toNat_natCast,Int.toNat_zero,toNat_cc,toNat_c1,toNat_cm1,toNat_cm] at *);exact h1 (.inr (by assumption));done)
 ·have e:valOfM cs=(V.zero,2):=by rw[valOfM,if_pos hlen]
  rw[e]
  refine Fun.intro Tryz.func149 rfl (by kernel_rfl) rfl ?_
  repeat'(first|refine Z1 ?_|((refine SP (fun h=>?_) fun h=>?_)<;>(try(exfalso;first|contradiction|omega))))
  all_goals first|((refine W.ret ?_;(first|refine RetQ.i' ?_));all_goals rfl;done)|(exfalso;omega)
end Go.Proofs.YtmmjbpgdkokjgaaGreatDoor
