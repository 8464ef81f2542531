/-
  A text of this claim. Conditions: none.
-/
import Derived.Test.YtmmjbpgdkokjgaaGreatDoorQLV6
import Derived.Test.YtmmjbpgdkokjgaaGreatDoorQLOr1
import Derived.Test.YtmmjbpgdkokjgaaGreatDoorQLPgE
import Derived.Test.YtmmjbpgdkokjgaaGreatDoorQLPgD
import Derived.Lib.Bytealg
import Derived.Lib.Walk
set_option linter.unusedVariables false
set_option linter.unusedSimpArgs false
set_option maxRecDepth 100000
set_option maxHeartbeats 16000000
namespace Go.Proofs.YtmmjbpgdkokjgaaGreatDoor
open Go.RowKit
theorem valOfM_kind {cs:List Cell}(h:(valOfM cs).2=0):(valOfM cs).1.kind=(cs.getD 0 default).kind∧1≤cs.length∧cs.length≤200∧cellsCode cs=0:=by
 unfold valOfM at h ⊢
 split at h
 ·simp at h
 ·rename_i hl
  rw[if_neg hl]
  split at h
  ·rename_i hc;exact absurd h hc
  ·rename_i hc
   rw[if_neg hc]
   cases hv:valAtM cs (cs.length+1) 0 with
   |none=>rw[hv] at h;simp at h
   |some p=>
    obtain⟨v,b⟩:=p
    rw[hv] at h
    simp only at h ⊢
    split at h
    ·simp at h
    ·rename_i hb
     rw[if_neg hb]
     split at h
     ·simp at h
     ·rename_i hd
      rw[if_neg hd]
      simp only[valAtM] at hv
      rw[if_pos (by omega)] at hv
      split at hv
      ·cases hv
      ·simp only[Option.some.injEq,Prod.mk.injEq] at hv
       obtain⟨rfl,_⟩:=hv
       exact⟨rfl,by omega,by omega,by omega⟩
theorem cellsCode_kind {cs:List Cell}(h:cellsCode cs=0)(i:Nat)(hi:i<cs.length):cellCode (cs.getD i default)=0:=by
 induction cs generalizing i with
 |nil=>simp at hi
 |cons c r ih=>
  unfold cellsCode at h
  split at h
  ·rename_i hc;exact absurd h hc
  ·rename_i hc
   cases i with
   |zero=>simpa using hc
   |succ i=>exact ih h i (by simpa using hi)
theorem kidsM_congr {rec rec':Nat→Option (V×Nat)}{cs:List Cell}{c:Cell}(hle: ∀k v b,rec k=some (v,b)→k<b): ∀(r i:Nat) (keys:List ByteArray) (kids:List V) (next:Nat),
 (∀n,next≤n→rec n=rec' n)→kidsM rec cs c r i keys kids next=kidsM rec' cs c r i keys kids next
 |0,i,keys,kids,next,_=>rfl
 |r+1,i,keys,kids,next,h=>by
  simp only[kidsM]
  rw[←h next (Nat.le_refl _)]
  cases hr:rec next with
  |none=>rfl
  |some p=>
   obtain⟨kid,b⟩:=p
   have hb:=hle _ _ _ hr
   simp only[]
   split
   ·rfl
   ·exact kidsM_congr hle r _ _ _ b fun n hn=>h n (by omega)
theorem valAtM_fuel {cs:List Cell}: ∀(f f' k:Nat),cs.length<k+f→cs.length<k+f'→valAtM cs f k=valAtM cs f' k
 |0,f',k,h,_=>by rw[valAtM_ge (by omega),valAtM_ge (by omega)]
 |f+1,0,k,_,h=>by rw[valAtM_ge (by omega),valAtM_ge (by omega)]
 |f+1,f'+1,k,h,h'=>by
  simp only[valAtM]
  split
  ·rw[kidsM_congr (rec:=valAtM cs f) (rec':=valAtM cs f') (fun k v b h=>(valAtM_le f k v b h).1) _ _ _ _ _ fun n hn=>valAtM_fuel f f' n (by omega) (by omega)]
  ·rfl
def valA (cs:List Cell)(k:Nat):Option (V×Nat):=valAtM cs (cs.length+1) k
theorem valA_of {cs:List Cell}{f k:Nat}(h:cs.length<k+f):valAtM cs f k=valA cs k:=valAtM_fuel _ _ _ h (by omega)
theorem valA_eq (cs:List Cell)(k:Nat):valA cs k=
 if k<cs.length then
  match kidsM (valA cs) cs (cs.getD k default) (cs.getD k default).n.toNat 0 [] [] (k+1) with
  |none=>none
  |some (keys,kids,next)=>some (.mk (cs.getD k default).kind (cs.getD k default).num (cs.getD k default).text keys kids,next)
 else none:=by
 rw[←valA_of (cs:=cs) (f:=cs.length+2) (k:=k) (by omega)]
 rw[valAtM]
 rfl
theorem valA_le {cs:List Cell}{k:Nat}{v:V}{b:Nat}(h:valA cs k=some (v,b)):k<b∧b≤cs.length:=valAtM_le _ _ _ _ h
mutual
def V.cellsK (key:ByteArray):V→List Cell
 |.mk k n t ks kids=>⟨k,n,t,key,(kids.length:Int)⟩::V.kidsC kids ks
def V.kidsC :List V→List ByteArray→List Cell
 |[],_=>[]
 |v::r,ks=>V.cellsK (ks.headD noS) v++V.kidsC r ks.tail
end
def V.cells (v:V):List Cell:=v.cellsK noS
mutual
def V.good :V→Prop
 |.mk k n t ks kids=>(0≤k∧k≤6)∧(n≠0→k=3)∧(t≠noS→k=4)∧(kids≠[]→k=5∨k=6)∧(-1000000000000000≤n∧n≤1000000000000000)∧okText t=true∧
   (k=6→ks.length=kids.length)∧(k≠6→ks=[])∧(∀key∈ks,okText key=true)∧incr ks∧V.goods kids
def V.goods :List V→Prop
 |[]=>True
 |v::r=>v.good∧V.goods r
end
theorem V.goods_mem : ∀ {l:List V},V.goods l→ ∀v∈l,v.good
 |[],_,v,h=>by cases h
 |x::r,h,v,hv=>by
  rcases List.mem_cons.1 hv with rfl|hv
  ·exact h.1
  ·exact V.goods_mem h.2 v hv
theorem V.goods_of : ∀ {l:List V},(∀v∈l,v.good)→V.goods l
 |[],_=>trivial
 |x::r,h=>⟨h x (List.mem_cons_self ..),V.goods_of fun v hv=>h v (List.mem_cons_of_mem _ hv)⟩
mutual
theorem V.cellsK_length : ∀(v:V) (key:ByteArray),(v.cellsK key).length=v.count
 |.mk k n t ks kids,key=>by simp only[V.cellsK,List.length_cons,V.count,V.kidsC_length kids ks]
theorem V.kidsC_length : ∀(l:List V) (ks:List ByteArray),(V.kidsC l ks).length=V.counts l
 |[],_=>rfl
 |v::r,ks=>by simp only[V.kidsC,List.length_append,V.counts,V.cellsK_length v,V.kidsC_length r]
end
theorem V.cellsK_key (v:V)(key:ByteArray): ∃c r,v.cellsK key=c::r∧c.key=key∧c.kind=v.kind:=by
 obtain⟨k,n,t,ks,kids⟩:=v
 exact⟨_,_,rfl,rfl,rfl⟩
theorem V.kidsC_app : ∀(l:List V) (ks:List ByteArray) (v:V) (key:ByteArray),ks.length=l.length→V.kidsC (l++[v]) (ks++[key])=V.kidsC l ks++v.cellsK key
 |[],ks,v,key,h=>by
  have:ks=[]:=List.eq_nil_of_length_eq_zero h
  subst this
  simp[V.kidsC]
 |x::r,[],v,key,h=>by simp at h
 |x::r,a::ks,v,key,h=>by
  have:=V.kidsC_app r ks v key (by simpa using h)
  simp only[List.cons_append,V.kidsC,List.headD_cons,List.tail_cons,this,List.append_assoc]
theorem V.kidsC_app0 : ∀(l:List V) (v:V),V.kidsC (l++[v]) []=V.kidsC l []++v.cellsK noS
 |[],v=>by simp[V.kidsC]
 |x::r,v=>by
  have:=V.kidsC_app0 r v
  simp only[List.cons_append,V.kidsC,List.headD_nil,List.tail_nil,this,List.append_assoc]
theorem incr_app : ∀(ks:List ByteArray) (key:ByteArray),incr ks→(ks=[]∨lessK (ks.getD (ks.length - 1) default) key=true)→incr (ks++[key])
 |[],key,_,_=>trivial
 |[a],key,_,h=>by
  rcases h with h|h
  ·cases h
  ·exact⟨by simpa using h,trivial⟩
 |a::b::r,key,h,hk=>by
  have:=incr_app (b::r) key h.2 (.inr (by
   rcases hk with hk|hk
   ·cases hk
   ·simpa using hk))
  exact⟨h.1,this⟩
theorem cellCode_ok {c:Cell}(h:cellCode c=0):(0≤c.kind∧c.kind≤6)∧(c.num≠0→c.kind=3)∧(c.text≠noS→c.kind=4)∧(c.n≠0→c.kind=5∨c.kind=6)∧(-1000000000000000≤c.num∧c.num≤1000000000000000)∧(0≤c.n∧c.n≤200)∧okText c.text=true∧okText c.key=true:=by
 unfold cellCode at h
 split at h
 ·cases h
 ·rename_i h1
  split at h
  ·cases h
  ·rename_i h2
   split at h
   ·cases h
   ·rename_i h3
    split at h
    ·cases h
    ·rename_i h4
     simp only[Bool.not_eq_true',Bool.not_eq_false',Bool.and_eq_true,decide_eq_true_eq,Bool.or_eq_true,not_or,not_and,Bool.not_eq_true,decide_eq_false_iff_not,Bool.and_eq_false_iff,Bool.or_eq_false_iff,holdsK,Bool.not_eq_eq_eq_not,Bool.not_true,Bool.not_false] at h1 h2 h3 h4
     refine⟨by simpa using h1,fun hn=>?_,fun hn=>?_,fun hn=>?_,by simpa using h3.1,by simpa using h3.2,by simpa using h4.1,by simpa using h4.2⟩
     ·exact Decidable.not_not.1 (h2.1.1 hn)
     ·exact Decidable.not_not.1 (h2.1.2 hn)
     ·have h5:=h2.2 hn
      by_cases h6:c.kind=5
      ·exact .inl h6
      ·exact .inr (by simpa [h6] using h5)
theorem kids_cells {rec:Nat→Option (V×Nat)}{cs:List Cell}{c:Cell}(hc: ∀i,i<cs.length→cellCode (cs.getD i default)=0)(hr: ∀k v b,rec k=some (v,b)→k<b∧b≤cs.length∧cs.drop k=v.cellsK (cs.getD k default).key++cs.drop b∧v.good):
 ∀(r i:Nat) (keys:List ByteArray) (kids:List V) (next b:Nat) (keys':List ByteArray) (kids':List V) (l0:List Cell),kidsM rec cs c r i keys kids next=some (keys',kids',b)→next≤cs.length→(r≠0→c.kind=5∨c.kind=6)→
  kids.length=i→(c.kind=6→keys.length=i)→(c.kind≠6→keys=[])→incr keys→(∀k∈keys,okText k=true)→V.goods kids→V.kidsC kids keys++cs.drop next=l0→
  kids'.length=i+r∧(c.kind=6→keys'.length=i+r)∧(c.kind≠6→keys'=[])∧incr keys'∧(∀k∈keys',okText k=true)∧V.goods kids'∧V.kidsC kids' keys'++cs.drop b=l0
 |0,i,keys,kids,next,b,keys',kids',l0,h,hn,hk,h1,h2,h3,h4,h5,h6,h7=>by
  simp only[kidsM,Option.some.injEq,Prod.mk.injEq] at h
  obtain⟨rfl,rfl,rfl⟩:=h
  exact⟨h1,h2,h3,h4,h5,h6,h7⟩
 |r+1,i,keys,kids,next,b,keys',kids',l0,h,hn,hk,h1,h2,h3,h4,h5,h6,h7=>by
  simp only[kidsM] at h
  cases hv:rec next with
  |none=>rw[hv] at h;cases h
  |some p=>
   obtain⟨kid,b1⟩:=p
   obtain⟨g1,g2,g3,g4⟩:=hr next kid b1 hv
   rw[hv] at h
   simp only at h
   split at h
   ·cases h
   ·rename_i hbad
    rw[not_or] at hbad
    have hkk:=hk (by omega)
    have hok:=(cellCode_ok (hc next (by omega))).2.2.2.2.2.2.2
    by_cases hk6:c.kind=6
    ·rw[if_pos hk6] at h
     have hlast:keys=[]∨lessK (keys.getD (keys.length - 1) default) (cs.getD next default).key=true:=by
      by_cases h0:i=0
      ·left;exact List.eq_nil_of_length_eq_zero ((h2 hk6).trans h0)
      ·right
       have:=hbad.2
       simp only[hk6,true_and,not_and] at this
       have:=this (by omega)
       rw[h2 hk6]
       simpa [lessK] using this
     obtain⟨q1,q2,q3,q4,q5,q6,q7⟩:=kids_cells hc hr r (i+1) (keys++[(cs.getD next default).key]) (kids++[kid]) b1 b keys' kids' l0 h g2 (fun _=>hkk) (by simp[h1]) (fun _=>by simp[h2 hk6]) (fun hn=>absurd hk6 hn) (incr_app _ _ h4 hlast)
      (fun k hkm=>by
        rcases List.mem_append.1 hkm with hkm|hkm
        ·exact h5 k hkm
        ·rw[List.mem_singleton.1 hkm];exact hok) (V.goods_of fun v hv=>by
        rcases List.mem_append.1 hv with hv|hv
        ·exact V.goods_mem h6 v hv
        ·rw[List.mem_singleton.1 hv];exact g4) (by
        rw[V.kidsC_app _ _ _ _ ((h2 hk6).trans h1.symm),List.append_assoc,←g3]
        exact h7)
     exact⟨by omega,fun hh=>by have:=q2 hh;omega,q3,q4,q5,q6,q7⟩
    ·rw[if_neg hk6] at h
     have hk5:c.kind=5:=hkk.resolve_right hk6
     have hnoS:(cs.getD next default).key=noS:=by
      have:=hbad.1
      simp only[hk5,true_and,ne_eq,Decidable.not_not] at this
      exact this
     have hkeys:=h3 hk6
     subst hkeys
     rw[hnoS] at g3
     obtain⟨q1,q2,q3,q4,q5,q6,q7⟩:=kids_cells hc hr r (i+1) [] (kids++[kid]) b1 b keys' kids' l0 h g2 (fun _=>hkk) (by simp[h1]) (fun hh=>absurd hh hk6) (fun _=>rfl) trivial h5
      (V.goods_of fun v hv=>by
        rcases List.mem_append.1 hv with hv|hv
        ·exact V.goods_mem h6 v hv
        ·rw[List.mem_singleton.1 hv];exact g4) (by
        rw[V.kidsC_app0,List.append_assoc,←g3]
        exact h7)
     exact⟨by omega,fun hh=>absurd hh hk6,q3,q4,q5,q6,q7⟩
theorem drop_getD {cs:List Cell}{k:Nat}(h:k<cs.length):cs.drop k=cs.getD k default::cs.drop (k+1):=drop_step h
theorem valAtM_cells {cs:List Cell}(hc: ∀i,i<cs.length→cellCode (cs.getD i default)=0): ∀(f k:Nat) (v:V) (b:Nat),valAtM cs f k=some (v,b)→k<b∧b≤cs.length∧cs.drop k=v.cellsK (cs.getD k default).key++cs.drop b∧v.good
 |0,k,v,b,h=>by simp[valAtM] at h
 |f+1,k,v,b,h=>by
  have hle:=valAtM_le _ _ _ _ h
  simp only[valAtM] at h
  rw[if_pos (by omega)] at h
  generalize hcell:cs.getD k default=c at h
  split at h
  ·cases h
  ·rename_i keys kids next hx
   simp only[Option.some.injEq,Prod.mk.injEq] at h
   obtain⟨rfl,rfl⟩:=h
   have hcode:=cellCode_ok (hc k (by omega))
   rw[hcell] at hcode
   obtain⟨c1,c2,c3,c4,c5,c6,c7,c8⟩:=hcode
   obtain⟨q1,q2,q3,q4,q5,q6,q7⟩:=kids_cells hc (valAtM_cells hc f) c.n.toNat 0 [] [] (k+1) next keys kids _ hx (by omega) (fun hn=>c4 (by omega)) rfl (fun _=>rfl) (fun _=>rfl) trivial (fun k hk=>by cases hk) trivial rfl
   refine⟨hle.1,hle.2,?_,?_⟩
   ·rw[drop_getD (by omega),hcell,V.cellsK,List.cons_append,q7]
    simp only[V.kidsC,List.nil_append]
    congr 1
    have:(kids.length:Int)=c.n:=by rw[q1];omega
    rw[this]
   ·exact⟨c1,c2,c3,fun hne=>by
     by_cases h0:c.n=0
     ·exfalso
      apply hne
      apply List.eq_nil_of_length_eq_zero
      rw[q1,h0];rfl
     ·exact c4 h0,c5,c7,fun h=>by rw[q2 h,q1],q3,q5,q4,q6⟩
theorem valOfM_cells {cs:List Cell}(h:(valOfM cs).2=0):(valOfM cs).1.good∧cs=(valOfM cs).1.cells∧(valOfM cs).1.count≤200∧(valOfM cs).1.depth≤20∧valA cs 0=some ((valOfM cs).1,cs.length):=by
 have h0:=valOfM_kind h
 obtain⟨_,hl1,hl2,hcc⟩:=h0
 have hc: ∀i,i<cs.length→cellCode (cs.getD i default)=0:=cellsCode_kind hcc
 unfold valOfM at h ⊢
 rw[if_neg (by omega),if_neg (by omega)] at h ⊢
 cases hv:valAtM cs (cs.length+1) 0 with
 |none=>rw[hv] at h;simp at h
 |some p=>
  obtain⟨v,b⟩:=p
  rw[hv] at h
  simp only at h ⊢
  obtain⟨g1,g2,g3,g4⟩:=valAtM_cells hc _ _ _ _ hv
  by_cases hb:b≠cs.length∨(cs.getD 0 default).key≠noS
  ·rw[if_pos hb] at h;simp at h
  ·rw[if_neg hb] at h ⊢
   rw[not_or,Decidable.not_not,Decidable.not_not] at hb
   by_cases hd:20<v.depth
   ·rw[if_pos hd] at h;simp at h
   ·rw[if_neg hd]
    simp only[]
    have hcells:cs=v.cells:=by
     have:=g3
     rw[List.drop_zero,hb.1,List.drop_length,List.append_nil,hb.2] at this
     exact this
    refine⟨g4,hcells,?_,by omega,?_⟩
    ·have:cs.length=v.count:=by
      conv=>lhs;rw[hcells]
      exact V.cellsK_length v noS
     omega
    ·unfold valA;rw[hv,hb.1]
theorem getD_at {pre l:List Cell}{c:Cell}{cs:List Cell}(h:cs=pre++c::l):cs.getD pre.length default=c:=by
 subst h
 simp
theorem kidsM_read {cs:List Cell}{c:Cell}{rec:Nat→Option (V×Nat)}(post:List Cell): ∀(l:List V) (ks:List ByteArray) (i:Nat) (keys:List ByteArray) (kids:List V) (pre:List Cell),
 (∀v∈l,∀(key:ByteArray) (pre post:List Cell),cs=pre++v.cellsK key++post→rec pre.length=some (v,pre.length+v.count))→
 cs=pre++V.kidsC l ks++post→(c.kind=6→ks.length=l.length)→(c.kind≠6→ks=[])→(c.kind=6→keys.length=i)→incr (keys++ks)→
 kidsM rec cs c l.length i keys kids pre.length=some (keys++ks,kids++l,pre.length+V.counts l)
 |[],ks,i,keys,kids,pre,_,_,h1,h2,_,_=>by
  have:ks=[]:=by
   by_cases h:c.kind=6
   ·exact List.eq_nil_of_length_eq_zero (h1 h)
   ·exact h2 h
  subst this
  simp[kidsM,V.counts]
 |v::l,ks,i,keys,kids,pre,hr,hcs,h1,h2,h3,h4=>by
  simp only[V.kidsC] at hcs
  have hv:=hr v (List.mem_cons_self ..) (ks.headD noS) pre (V.kidsC l ks.tail++post) (by rw[hcs];simp[List.append_assoc])
  obtain⟨c0,r0,e0,k0,_⟩:=V.cellsK_key v (ks.headD noS)
  have hcell:cs.getD pre.length default=c0:=getD_at (l:=r0++(V.kidsC l ks.tail++post)) (by rw[hcs,e0];simp[List.append_assoc])
  have hlen:(pre++v.cellsK (ks.headD noS)).length=pre.length+v.count:=by simp[V.cellsK_length]
  simp only[List.length_cons,kidsM,hv,hcell,k0]
  by_cases h6:c.kind=6
  ·have hkl:=h1 h6
   cases ks with
   |nil=>simp at hkl
   |cons a ks=>
    have hinc:¬(0<i∧Op.bytesLess (keys.getD (i - 1) default).data.toList a.data.toList=false):=fun⟨hi,hb⟩=>by
     have key: ∀(l1:List ByteArray) (a:ByteArray) (l2:List ByteArray),incr (l1++a::l2)→0<l1.length→lessK (l1.getD (l1.length - 1) default) a=true:=by
      intro l1
      induction l1 with
      |nil=>intro a l2 _ h;simp at h
      |cons x l1 ih=>
       intro a l2 h _
       cases l1 with
       |nil=>simpa [incr] using h.1
       |cons y l1=>
        have:=ih a l2 h.2 (by simp)
        simpa using this
     have:=key keys a ks h4 (by rw[h3 h6];exact hi)
     rw[h3 h6] at this
     simp only[lessK] at this
     rw[this] at hb;cases hb
    rw[if_neg (by
     rintro(⟨h5,_⟩|⟨_,h⟩)
     ·omega
     ·exact hinc (by simpa using h))]
    rw[if_pos h6,←hlen]
    have:=kidsM_read post l ks (i+1) (keys++[a]) (kids++[v]) (pre++v.cellsK a) (fun v hv=>hr v (List.mem_cons_of_mem _ hv)) (by rw[hcs];simp[List.append_assoc]) (fun _=>by simpa using hkl) (fun h=>absurd h6 h) (fun _=>by simp[h3 h6]) (by simpa [List.append_assoc] using h4)
    simp only[List.headD_cons] at this ⊢
    rw[this]
    simp[V.counts,V.cellsK_length]
    omega
  ·have hk0:=h2 h6
   subst hk0
   rw[if_neg (by
    rintro(⟨_,h⟩|⟨h,_⟩)
    ·exact h rfl
    ·exact h6 h)]
   rw[if_neg h6,←hlen]
   have:=kidsM_read post l [] (i+1) keys (kids++[v]) (pre++v.cellsK noS) (fun v hv=>hr v (List.mem_cons_of_mem _ hv)) (by rw[hcs];simp[List.append_assoc]) (fun h=>absurd h h6) (fun _=>rfl) (fun h=>absurd h h6) h4
   simp only[List.headD_nil] at this ⊢
   rw[this]
   simp[V.counts,V.cellsK_length]
   omega
mutual
theorem V.read_at {cs:List Cell}: ∀(v:V),v.good→ ∀(key:ByteArray) (pre post:List Cell),cs=pre++v.cellsK key++post→valA cs pre.length=some (v,pre.length+v.count)
 |.mk k n t ks kids,hg,key,pre,post,hcs=>by
  obtain⟨g1,g2,g3,g4,g5,g6,g7,g8,g9,g10,g11⟩:=hg
  have ih:=V.reads_at (cs:=cs) kids g11
  simp only[V.cellsK] at hcs
  rw[valA_eq,if_pos (by rw[hcs];simp)]
  have hcell:cs.getD pre.length default=⟨k,n,t,key,(kids.length:Int)⟩:=getD_at (l:=V.kidsC kids ks++post) (by rw[hcs];simp)
  rw[hcell]
  have hk:=kidsM_read (c:=⟨k,n,t,key,(kids.length:Int)⟩) (rec:=valA cs) (cs:=cs) post kids ks 0 [] [] (pre++[⟨k,n,t,key,(kids.length:Int)⟩]) ih (by rw[hcs];simp) g7 g8 (fun _=>rfl) (by simpa using g10)
  simp only[List.length_append,List.length_singleton] at hk
  simp only[Int.toNat_natCast,hk]
  simp[V.count]
  omega
theorem V.reads_at {cs:List Cell}: ∀(l:List V),V.goods l→ ∀v∈l,∀(key:ByteArray) (pre post:List Cell),cs=pre++v.cellsK key++post→valA cs pre.length=some (v,pre.length+v.count)
 |[],_,v,hv,_,_,_,_=>by cases hv
 |x::r,hg,v,hv,key,pre,post,hcs=>by
  by_cases h:v∈r
  ·exact V.reads_at r hg.2 v h key pre post hcs
  ·have e:v=x:=(List.mem_cons.1 hv).resolve_right h
   have hx:=V.read_at (cs:=cs) x hg.1 key pre post (by rw[←e];exact hcs)
   rw[e];exact hx
end
mutual
theorem V.every_at {cs:List Cell}: ∀(v:V),v.good→ ∀(key:ByteArray) (pre post:List Cell),cs=pre++v.cellsK key++post→ ∀j,j<v.count→ ∃p,valA cs (pre.length+j)=some p
 |.mk k n t ks kids,hg,key,pre,post,hcs,j,hj=>by
  cases j with
  |zero=>exact⟨_,V.read_at _ hg key pre post hcs⟩
  |succ j=>
   have hg':=hg.2.2.2.2.2.2.2.2.2.2
   have:=V.everys_at (cs:=cs) kids hg' ks (pre++[⟨k,n,t,key,(kids.length:Int)⟩]) post (by rw[hcs];simp[V.cellsK]) j (by simp only[V.count] at hj;omega)
   simp only[List.length_append,List.length_singleton] at this
   rw[show pre.length+(j+1)=pre.length+1+j by omega]
   exact this
theorem V.everys_at {cs:List Cell}: ∀(l:List V),V.goods l→ ∀(ks:List ByteArray) (pre post:List Cell),cs=pre++V.kidsC l ks++post→ ∀j,j<V.counts l→ ∃p,valA cs (pre.length+j)=some p
 |[],_,_,_,_,_,j,hj=>by simp[V.counts] at hj
 |x::r,hg,ks,pre,post,hcs,j,hj=>by
  simp only[V.kidsC] at hcs
  by_cases h:j<x.count
  ·exact V.every_at x hg.1 (ks.headD noS) pre (V.kidsC r ks.tail++post) (by rw[hcs];simp[List.append_assoc]) j h
  ·have:=V.everys_at (cs:=cs) r hg.2 ks.tail (pre++x.cellsK (ks.headD noS)) post (by rw[hcs];simp[List.append_assoc]) (j - x.count) (by simp only[V.counts] at hj;omega)
   simp only[List.length_append,V.cellsK_length] at this
   rwa [show pre.length+x.count+(j - x.count)=pre.length+j by omega] at this
end
theorem valOfM_every {cs:List Cell}(h:(valOfM cs).2=0)(k:Nat)(hk:k<cs.length): ∃p,valA cs k=some p:=by
 obtain⟨h1,h2,_⟩:=valOfM_cells h
 have:=V.every_at (cs:=cs) _ h1 noS [] [] (by rw[List.nil_append,List.append_nil];exact h2) k (by
  have:=V.cellsK_length (valOfM cs).1 noS
  rw[←show cs=(valOfM cs).1.cellsK noS from h2] at this
  omega)
 simpa using this
theorem V.kidsC_split : ∀(l:List V) (ks:List ByteArray) (j:Nat),j<l.length→
 V.kidsC l ks=V.kidsC (l.take j) ks++((l.getD j default).cellsK (ks.getD j noS)++V.kidsC (l.drop (j+1)) (ks.drop (j+1)))
 |[],_,j,h=>by simp at h
 |v::r,ks,0,_=>by cases ks<;>simp[V.kidsC]
 |v::r,ks,j+1,h=>by
  have:=V.kidsC_split r ks.tail j (by simpa using h)
  simp only[V.kidsC,List.take_succ_cons,List.getD_cons_succ,List.drop_succ_cons,this,List.append_assoc]
  cases ks<;>simp
theorem V.counts_cons (l:List V)(j:Nat)(h:j<l.length):V.counts (l.take (j+1))=V.counts (l.take j)+(l.getD j default).count:=by
 induction l generalizing j with
 |nil=>simp at h
 |cons x r ih=>
  cases j with
  |zero=>simp[V.counts]
  |succ j=>
   have:=ih j (by simpa using h)
   simp only[List.take_succ_cons,V.counts,List.getD_cons_succ]
   omega
def V.at (v:V)(k j:Nat):Nat:=k+1+V.counts (v.kids.take j)
theorem V.at_zero (v:V)(k:Nat):v.at k 0=k+1:=by simp[V.at,V.counts]
theorem V.at_succ (v:V)(k j:Nat)(h:j<v.kids.length):v.at k (j+1)=v.at k j+(v.kids.getD j default).count:=by
 simp only[V.at,V.counts_cons _ _ h];omega
def cut (cs:List Cell)(a b:Nat):List Cell:=(cs.drop a).take (b - a)
theorem valA_split {cs:List Cell}(hc: ∀i,i<cs.length→cellCode (cs.getD i default)=0){k:Nat}{v:V}{b:Nat}(h:valA cs k=some (v,b)):
 v.good∧b=k+v.count∧b≤cs.length∧cs=cs.take k++(v.cellsK (cs.getD k default).key++cs.drop b):=by
 obtain⟨h1,h2,h3,h4⟩:=valAtM_cells hc _ _ _ _ h
 refine⟨h4,?_,h2,?_⟩
 ·have:=congrArg List.length h3
  simp only[List.length_append,List.length_drop,V.cellsK_length] at this
  omega
 ·rw[←h3,List.take_append_drop]
theorem valA_head {cs:List Cell}(hc: ∀i,i<cs.length→cellCode (cs.getD i default)=0){k:Nat}{v:V}{b:Nat}(h:valA cs k=some (v,b)):
 (cs.getD k default).kind=v.kind∧(cs.getD k default).num=v.num∧(cs.getD k default).text=v.text∧(cs.getD k default).n=(v.kids.length:Int):=by
 obtain⟨h1,h2,h3,h4⟩:=valA_split hc h
 have hl:=valA_le h
 have hk:(cs.take k).length=k:=by rw[List.length_take];omega
 obtain⟨vk,vn,vt,vks,vkids⟩:=v
 generalize hkey:(cs.getD k default).key=key at h4
 have hcell:cs.getD (cs.take k).length default=⟨vk,vn,vt,key,(vkids.length:Int)⟩:=getD_at (l:=V.kidsC vkids vks++cs.drop b) h4
 rw[hk] at hcell
 rw[hcell]
 exact⟨rfl,rfl,rfl,rfl⟩
theorem kid_at {cs:List Cell}(hc: ∀i,i<cs.length→cellCode (cs.getD i default)=0){k:Nat}{v:V}{b:Nat}(h:valA cs k=some (v,b)){j:Nat}(hj:j<v.kids.length):
 valA cs (v.at k j)=some (v.kids.getD j default,v.at k (j+1))∧(cs.getD (v.at k j) default).key=v.keys.getD j noS∧
  cut cs (v.at k j) (v.at k (j+1))=(v.kids.getD j default).cellsK (v.keys.getD j noS)∧v.at k (j+1)≤b:=by
 obtain⟨h1,h2,h3,h4⟩:=valA_split hc h
 have hl:=valA_le h
 have hk:(cs.take k).length=k:=by rw[List.length_take];omega
 have hs:=V.at_succ v k j hj
 rw[hs]
 obtain⟨vk,vn,vt,vks,vkids⟩:=v
 simp only[V.kids] at hj hs ⊢
 simp only[V.keys]
 have hg:(vkids.getD j default).good:=V.goods_mem h1.2.2.2.2.2.2.2.2.2.2 _ (getD_mem' hj)
 have hsp:=V.kidsC_split vkids vks j hj
 generalize hkey:(cs.getD k default).key=key at h4
 have hcs:cs=(cs.take k++⟨vk,vn,vt,key,(vkids.length:Int)⟩::V.kidsC (vkids.take j) vks)++(vkids.getD j default).cellsK (vks.getD j noS)++(V.kidsC (vkids.drop (j+1)) (vks.drop (j+1))++cs.drop b):=by
  conv=>lhs;rw[h4]
  simp only[V.cellsK,hsp,List.append_assoc,List.cons_append]
 have hpl:(cs.take k++⟨vk,vn,vt,key,(vkids.length:Int)⟩::V.kidsC (vkids.take j) vks).length=V.at (.mk vk vn vt vks vkids) k j:=by
  simp only[List.length_append,List.length_cons,V.kidsC_length,V.at,V.kids]
  omega
 have hr:=V.read_at _ hg _ _ _ hcs
 rw[hpl] at hr
 refine⟨hr,?_,?_,?_⟩
 ·obtain⟨c0,r0,e0,k0,_⟩:=V.cellsK_key (vkids.getD j default) (vks.getD j noS)
  rw[e0] at hcs
  rw[←hpl,getD_at (c:=c0) (l:=r0++(V.kidsC (vkids.drop (j+1)) (vks.drop (j+1))++cs.drop b)) (by rw[List.append_assoc,List.cons_append] at hcs;exact hcs)]
  exact k0
 ·have hd:cs.drop (V.at (.mk vk vn vt vks vkids) k j)=(vkids.getD j default).cellsK (vks.getD j noS)++(V.kidsC (vkids.drop (j+1)) (vks.drop (j+1))++cs.drop b):=by
   rw[←hpl]
   generalize cs.take k++⟨vk,vn,vt,key,(vkids.length:Int)⟩::V.kidsC (vkids.take j) vks=pre at hcs
   generalize (vkids.getD j default).cellsK (vks.getD j noS)=mid at hcs ⊢
   generalize V.kidsC (vkids.drop (j+1)) (vks.drop (j+1))++cs.drop b=post at hcs ⊢
   rw[hcs,List.append_assoc,List.drop_left]
  rw[cut,hd,Nat.add_sub_cancel_left,List.take_append_of_le_length (by rw[V.cellsK_length];exact Nat.le_refl _),List.take_of_length_le (by rw[V.cellsK_length];exact Nat.le_refl _)]
 ·have:=V.counts_cons vkids j hj
  have h6:V.counts (vkids.take (j+1))≤V.counts vkids:=by
   have: ∀(l:List V) (j:Nat),V.counts (l.take j)≤V.counts l:=by
    intro l
    induction l with
    |nil=>intro j;simp
    |cons x r ih=>intro j;cases j<;>simp[V.counts,List.take];have:=ih ‹_›;omega
   exact this vkids (j+1)
  simp only[V.count] at h2
  simp only[V.at,V.kids]
  omega
theorem V.at_all {cs:List Cell}(hc: ∀i,i<cs.length→cellCode (cs.getD i default)=0){k:Nat}{v:V}{b:Nat}(h:valA cs k=some (v,b)):v.at k v.kids.length=b:=by
 obtain⟨h1,h2,h3,h4⟩:=valA_split hc h
 obtain⟨vk,vn,vt,vks,vkids⟩:=v
 simp only[V.at,V.kids,List.take_length]
 simp only[V.count] at h2
 omega
theorem V.valA_cells (v:V)(hg:v.good):valA v.cells 0=some (v,v.count):=by
 have hr:=V.read_at (cs:=v.cells) v hg noS [] [] (by rw[List.nil_append,List.append_nil];rfl)
 simpa using hr
def orI (p q:Int):Int:=if p=0 then q else p
def cmpI (a b:Int):Int:=if a<b then -1 else if b<a then 1 else 0
def cmpS (a b:ByteArray):Int:=if lessK a b=true then -1 else if lessK b a=true then 1 else 0
def cmpKs :List ByteArray→List ByteArray→Int
 |[],[]=>0
 |[],_::_=> -1
 |_::_,[]=>1
 |a::r,b::s=>orI (cmpS a b) (cmpKs r s)
mutual
def V.cmp :V→V→Int
 |.mk k n t ks kids,w=>orI (cmpI k w.kind) (orI (cmpI n w.num) (orI (cmpS t w.text) (orI (cmpKs ks w.keys) (V.cmps kids w.kids))))
def V.cmps :List V→List V→Int
 |[],[]=>0
 |[],_::_=> -1
 |_::_,[]=>1
 |a::r,b::s=>orI (V.cmp a b) (V.cmps r s)
end
theorem V.cmp_eq (v w:V):V.cmp v w=orI (cmpI v.kind w.kind) (orI (cmpI v.num w.num) (orI (cmpS v.text w.text) (orI (cmpKs v.keys w.keys) (V.cmps v.kids w.kids)))):=by
 cases v;rfl
theorem bytes_ext {a b:ByteArray}(h:a.data.toList=b.data.toList):a=b:=by
 cases a;cases b
 simp only[ByteArray.mk.injEq]
 exact Array.toList_inj.1 h
theorem cmpS_zero {a b:ByteArray}:cmpS a b=0↔a=b:=by
 unfold cmpS lessK
 constructor
 ·intro h
  split at h
  ·cases h
  ·split at h
   ·cases h
   ·rename_i h1 h2
    exact bytes_ext (less_tri _ _ (by simpa using h1) (by simpa using h2))
 ·rintro rfl
  rw[less_irrefl];rfl
def P3 (x y z:Int):Prop:=x≤0→y≤0→z≤0∧(x<0∨y<0→z<0)
theorem P3.or {x y z x' y' z':Int}(h:P3 x y z)(h':P3 x' y' z'):P3 (orI x x') (orI y y') (orI z z'):=by
 intro h1 h2
 have hx:x≤0∧(x=0→x'≤0):=by unfold orI at h1;split at h1<;>omega
 have hy:y≤0∧(y=0→y'≤0):=by unfold orI at h2;split at h2<;>omega
 obtain⟨h3,h4⟩:=h hx.1 hy.1
 unfold orI at*
 by_cases e3:z=0
 ·have e1:x=0:=by omega
  have e2:y=0:=by omega
  obtain⟨h5,h6⟩:=h' (hx.2 e1) (hy.2 e2)
  rw[if_pos e1,if_pos e2,if_pos e3]
  exact⟨h5,h6⟩
 ·rw[if_neg e3]
  exact⟨h3,fun _=>by omega⟩
theorem orI_neg (p q:Int):orI (-p) (-q)= - orI p q:=by unfold orI;(repeat' split)<;>omega
theorem cmpI_neg (a b:Int):cmpI b a= - cmpI a b:=by unfold cmpI;(repeat' split)<;>omega
theorem cmpI_tr (a b c:Int):P3 (cmpI a b) (cmpI b c) (cmpI a c):=by
 unfold P3 cmpI
 repeat' split
 all_goals omega
theorem cmpS_neg (a b:ByteArray):cmpS b a= - cmpS a b:=by
 unfold cmpS
 by_cases h1:lessK a b=true<;>by_cases h2:lessK b a=true
 ·have:=less_trans _ _ _ h1 h2
  rw[less_irrefl] at this;cases this
 ·simp[h1,h2]
 ·simp[h1,h2]
 ·simp[h1,h2]
theorem cmpS_lt {a b:ByteArray}:cmpS a b<0↔lessK a b=true:=by
 unfold cmpS
 split
 ·simp[*]
 ·split<;>simp[*]
theorem cmpS_tr (a b c:ByteArray):P3 (cmpS a b) (cmpS b c) (cmpS a c):=by
 intro h1 h2
 by_cases e1:cmpS a b=0
 ·have:=cmpS_zero.1 e1
  subst this
  exact⟨h2,fun h=>by rcases h with h|h<;>omega⟩
 ·by_cases e2:cmpS b c=0
  ·have:=cmpS_zero.1 e2
   subst this
   exact⟨h1,fun h=>by rcases h with h|h<;>omega⟩
  ·have:cmpS a c<0:=cmpS_lt.2 (less_trans _ _ _ (cmpS_lt.1 (show cmpS a b<0 by omega)) (cmpS_lt.1 (show cmpS b c<0 by omega)))
   exact⟨by omega,fun _=>this⟩
theorem cmpKs_neg : ∀a b:List ByteArray,cmpKs b a= - cmpKs a b
 |[],[]=>rfl
 |[],_::_=>rfl
 |_::_,[]=>rfl
 |a::r,b::s=>by rw[cmpKs,cmpKs,cmpKs_neg r s,cmpS_neg a b,orI_neg]
theorem cmpKs_tr : ∀a b c:List ByteArray,P3 (cmpKs a b) (cmpKs b c) (cmpKs a c)
 |[],[],[]=>by simp[P3,cmpKs]
 |[],[],_::_=>by simp[P3,cmpKs]
 |[],_::_,[]=>by simp[P3,cmpKs]
 |[],_::_,_::_=>by simp[P3,cmpKs]
 |_::_,[],[]=>by simp[P3,cmpKs]
 |_::_,[],_::_=>by simp[P3,cmpKs]
 |_::_,_::_,[]=>by simp[P3,cmpKs]
 |a::r,b::s,c::t=>(cmpS_tr a b c).or (cmpKs_tr r s t)
mutual
theorem V.cmp_neg : ∀a b:V,V.cmp b a= - V.cmp a b
 |.mk k n t ks kids,.mk k' n' t' ks' kids'=>by
  have h:=V.cmps_neg kids kids'
  simp only[V.cmp,V.kind,V.num,V.text,V.keys,V.kids]
  rw[h,cmpI_neg k k',cmpI_neg n n',cmpS_neg t t',cmpKs_neg ks ks',orI_neg,orI_neg,orI_neg,orI_neg]
theorem V.cmps_neg : ∀a b:List V,V.cmps b a= - V.cmps a b
 |[],[]=>rfl
 |[],_::_=>by simp[V.cmps]
 |_::_,[]=>by simp[V.cmps]
 |a::r,b::s=>by rw[V.cmps,V.cmps,V.cmps_neg r s,V.cmp_neg a b,orI_neg]
end
mutual
theorem V.cmp_tr : ∀a b c:V,P3 (V.cmp a b) (V.cmp b c) (V.cmp a c)
 |.mk k n t ks kids,.mk k' n' t' ks' kids',.mk k2 n2 t2 ks2 kids2=>by
  have h:=V.cmps_tr kids kids' kids2
  simp only[V.cmp,V.kind,V.num,V.text,V.keys,V.kids]
  exact(cmpI_tr _ _ _).or ((cmpI_tr _ _ _).or ((cmpS_tr _ _ _).or ((cmpKs_tr _ _ _).or h)))
theorem V.cmps_tr : ∀a b c:List V,P3 (V.cmps a b) (V.cmps b c) (V.cmps a c)
 |[],[],[]=>by simp[P3,V.cmps]
 |[],[],_::_=>by simp[P3,V.cmps]
 |[],_::_,[]=>by simp[P3,V.cmps]
 |[],_::_,_::_=>by simp[P3,V.cmps]
 |_::_,[],[]=>by simp[P3,V.cmps]
 |_::_,[],_::_=>by simp[P3,V.cmps]
 |_::_,_::_,[]=>by simp[P3,V.cmps]
 |a::r,b::s,c::t=>by
  have h1:=V.cmp_tr a b c
  have h2:=V.cmps_tr r s t
  simp only[V.cmps]
  exact h1.or h2
end
theorem V.cmp_self (v:V):V.cmp v v=0:=by
 have:=V.cmp_neg v v
 omega
theorem cmpI_one (a b:Int): -1≤cmpI a b∧cmpI a b≤1:=by unfold cmpI;(repeat' split)<;>omega
theorem cmpS_one (a b:ByteArray): -1≤cmpS a b∧cmpS a b≤1:=by unfold cmpS;(repeat' split)<;>omega
theorem orI_one {p q:Int}(h: -1≤p∧p≤1)(h': -1≤q∧q≤1): -1≤orI p q∧orI p q≤1:=by unfold orI;(repeat' split)<;>omega
theorem cmpKs_one : ∀a b:List ByteArray,-1≤cmpKs a b∧cmpKs a b≤1
 |[],[]=>by simp[cmpKs]
 |[],_::_=>by simp[cmpKs]
 |_::_,[]=>by simp[cmpKs]
 |a::r,b::s=>orI_one (cmpS_one a b) (cmpKs_one r s)
mutual
theorem V.cmp_one : ∀a b:V,-1≤V.cmp a b∧V.cmp a b≤1
 |.mk k n t ks kids,w=>by
  have h:=V.cmps_one kids w.kids
  simp only[V.cmp]
  exact orI_one (cmpI_one _ _) (orI_one (cmpI_one _ _) (orI_one (cmpS_one _ _) (orI_one (cmpKs_one _ _) h)))
theorem V.cmps_one : ∀a b:List V,-1≤V.cmps a b∧V.cmps a b≤1
 |[],[]=>by simp[V.cmps]
 |[],_::_=>by simp[V.cmps]
 |_::_,[]=>by simp[V.cmps]
 |a::r,b::s=>by
  have h1:=V.cmp_one a b
  have h2:=V.cmps_one r s
  simp only[V.cmps]
  exact orI_one h1 h2
end
theorem V.cmps_end (a b:List V)(i:Nat)(h:a.length≤i∨b.length≤i)(ha:i≤a.length)(hb:i≤b.length):V.cmps (a.drop i) (b.drop i)=cmpI a.length b.length:=by
 unfold cmpI
 rcases Nat.lt_trichotomy a.length b.length with h1|h1|h1
 ·obtain rfl:i=a.length:=by omega
  rw[List.drop_length,drop_step h1,V.cmps,if_pos (by omega)]
 ·obtain rfl:i=a.length:=by omega
  rw[List.drop_length,h1,List.drop_length,V.cmps,if_neg (by omega),if_neg (by omega)]
 ·obtain rfl:i=b.length:=by omega
  rw[List.drop_length,drop_step h1,V.cmps,if_neg (by omega),if_pos (by omega)]
section
variable {E:Env}{N:Nm}{Q:Exit→St→Prop}{ops l:List Oper}{ty:TypeId}{pos:String}{after:Array Edge}{gd:Option (Nat×Bool)}{d:Nat}{tm:Nat→T}{ob:List Ob}{G:List Nat}
theorem WG.cL {f:FuncId}{xs:List Operand}{tys:List TypeId}{args:List D}{t:T}(hw:St.want ⟨tm,ob⟩ ops ⟨some d,.call ⟨.value (.func f),xs.toArray,tys.toArray⟩,ty,pos,after,gd⟩=some true)(hd:Nat.blt d N.n=true)
 (hc:Fun E.P f args t []) (ha:argsT E ⟨tm,ob⟩ true xs tys++[]=T.renL ⟨[],[],ob.length⟩ (args.map T.d)) (hlp:T.lpOKL ⟨[],[],ob.length⟩ (args.map T.d)=true) (hfl:t.flat=true) (hu:t.under 0=true)
 (k:WG G E.P N ops l Q ⟨upd tm d t,ob⟩):WG G E.P N ops (⟨some d,.call ⟨.value (.func f),xs.toArray,tys.toArray⟩,ty,pos,after,gd⟩::l) Q ⟨tm,ob⟩:=
 WG.cq (E:=E) [] [] true hw hd hc rfl rfl ha hlp rfl rfl rfl trivial (.inr rfl) rfl (fun _=>⟨hfl,by intro o ho;cases ho⟩) (T.ren_under t hu) (by simp[mergeO,renFrom]) k
end
theorem V.counts_app (v:V): ∀l:List V,V.counts (l++[v])=V.counts l+v.count
 |[]=>by simp[V.counts]
 |x::r=>by
  rw[List.cons_append]
  simp only[V.counts]
  rw[V.counts_app v r]
  omega
theorem V.counts_take (l:List V)(j:Nat):V.counts (l.take j)≤V.counts l:=by
 induction l generalizing j with
 |nil=>simp
 |cons x r ih=>cases j<;>simp[V.counts,List.take];have:=ih ‹_›;omega
theorem V.kidsC_take : ∀(l:List V) (ks:List ByteArray) (i:Nat),i<l.length→V.kidsC (l.take (i+1)) ks=V.kidsC (l.take i) ks++(l.getD i default).cellsK (ks.getD i noS)
 |[],_,i,h=>by simp at h
 |x::r,ks,0,h=>by cases ks<;>simp[V.kidsC]
 |x::r,ks,i+1,h=>by
  have:=V.kidsC_take r ks.tail i (by simpa using h)
  simp only[List.take_succ_cons,V.kidsC,this,List.append_assoc,List.getD_cons_succ]
  cases ks<;>simp
section
variable {E:Env}{N:Nm}{Q:Exit→St→Prop}{S:St}{ops l:List Oper}{ty:TypeId}{pos:String}{after:Array Edge}{gd:Option (Nat×Bool)}{d:Nat}{tm:Nat→T}{ob:List Ob}{G:List Nat}
theorem WG.ixe {α:Type} [Inhabited α]{f:α→List D}{r:List D}{xs:List α}{t e:TypeId}{x ix:Operand}{z:Nat}{k:IntKind}{i:Int}(hw:St.want ⟨tm,ob⟩ ops ⟨some d,.indexAddr t x ix,ty,pos,after,gd⟩=some true)(hd:Nat.blt d N.n=true)
 (ht:(E.ty t).kind=.slice e) (he:(E.ty e).known=true) (hz:(E.ty e).size=z) (hx:norm ob (St.ev ⟨tm,ob⟩ x)=.d (.sl z (xs.map f))) (hi:St.ev ⟨tm,ob⟩ ix=.d (.v (.int k i)))
 (hf:f (xs.getD i.toNat default)=r) (hb:0≤i∧i<xs.length)
 (kk:WG G E.P N ops l Q ⟨upd tm d (.ea r 0),ob⟩):WG G E.P N ops (⟨some d,.indexAddr t x ix,ty,pos,after,gd⟩::l) Q ⟨tm,ob⟩:=by
 subst hf
 exact WG.ixm hw hd ht he hz hx hi (fun _=>rfl) hb kk
end
theorem sizeV_fn (kids:List V):Fun env.P 154 [.sl 5 (kids.map V.row)] (.d (dI (kids.map V.row).length)) []:=by
 refine Fun.intro Tryz.func154 rfl (by kernel_rfl) rfl ?_
 repeat'(first|refine Z1 ?_)
 (refine W.ret ?_;(first|refine RetQ.i' ?_))
 rfl
theorem cellsP_fn : ∀(n:Nat) (v:V),v.count≤n→n≤1048576→v.good→Fun env.P 102 [.agg v.rowP] (.og 0 0) [.gr 5 132 (v.cells.map Cell.row) 0 false]
 |0,v,h,_,_=>by
  have:=V.depth_le v
  omega
 |n+1,v,h,hn,hg=>by
  have ih:=cellsP_fn n
  obtain⟨k,nm,t,ks,kids⟩:=v
  simp only[V.count] at h
  have hlc:=V.length_counts kids
  have hdep: ∀j,j<kids.length→(kids.getD j default).count≤n:=fun j hj=>by
   have:=V.counts_ge (kids.getD j default) (getD_mem' hj)
   omega
  have hmax:=V.counts_take kids
  obtain⟨g1,g2,g3,g4,g5,g6,g7,g8,g9,g10,g11⟩:=hg
  have hgk: ∀j,j<kids.length→(kids.getD j default).good:=fun j hj=>V.goods_mem g11 _ (getD_mem' hj)
  have hsz:=sizeV_fn kids
  refine Fun.intro Tryz.func102 rfl (by kernel_rfl) rfl ?_
  have hkn:¬(k=5∨k=6)→kids=[]:=fun hk=>Decidable.byContradiction fun hne=>hk (g4 hne)
  have hky:(V.mk k nm t ks kids).keys.length=ks.length:=rfl
  have hkk:(V.mk k nm t ks kids).kind=k:=rfl
  repeat'(first|refine Z1 ?_|refine WG.c (E:=env) rfl rfl (hsz) rfl rfl ?_|refine WG.co (E:=env) rfl rfl (hsz) rfl rfl rfl rfl ?_|((refine SP (fun h=>?_) fun h=>?_)<;>(try(exfalso;first|contradiction|omega))))
  ·refine W.loopI (fun m S=> ∃(i:Nat) (rv:List (List D)),m=kids.length - i∧(i≤kids.length∧rv=(V.kidsC (kids.take i) ks).map Cell.row)∧
    S=⟨ofL [(1,.lp 0 0),(4,.og 1 0),(29,.d (.sl 5 (kids.map V.row))),(30,vI .i64 (kids.map V.row).length),(31,vI .i64 i)],
     [.pv ((V.mk k nm t ks kids).rowP.map .d),.gr 5 132 (Cell.row ⟨k,nm,t,noS,((kids.map V.row).length:Int)⟩::rv) 0 false]⟩) _ _ ⟨0,[],rfl,⟨by omega,rfl⟩,rfl⟩ (St.imp.of_le lE) ?_
   rintro m S ⟨i,rv,rfl,⟨hi,hrv⟩,rfl⟩
   by_cases hlt:i<kids.length
   ·have hrl:rv.length=V.counts (kids.take i):=by rw[hrv,List.length_map,V.kidsC_length]
    have hm1:=hmax i
    have hc1:=hdep i hlt
    have ih':=ih (kids.getD i default) hc1 (by omega) (hgk i hlt)
    have htk:=V.kidsC_take kids ks i hlt
    generalize hkid:kids.getD i default=kid at ih' htk hc1
    obtain⟨vk,vn,vt,vks,vkids⟩:=kid
    have hl2:((V.kidsC vkids vks).map Cell.row).length=V.counts vkids:=by rw[List.length_map,V.kidsC_length]
    simp only[V.count] at hc1
    have ih2:Fun env.P 102 [.agg (V.mk vk vn vt vks vkids).rowP] (.og 0 0) [.gr 5 132 (Cell.row ⟨vk,vn,vt,noS,vkids.length⟩::(V.kidsC vkids vks).map Cell.row) 0 false]:=ih'
    have hix: ∀j:Nat,j=i→(kids.getD j default).row=(V.mk vk vn vt vks vkids).rowP:=fun j hj=>by rw[hj,hkid,V.row_eq]
    clear ih ih' hkid
    repeat'(first|refine WG.ixe (E:=env) (r:=(V.mk vk vn vt vks vkids).rowP) rfl rfl rfl rfl rfl rfl rfl (hix _ (by omega)) (by(first|exact trivial|(simp only[inRange,List.length_map];omega)|omega|assumption)) ?_|refine WG.co (E:=env) (K:=3) (t':=.og 3 0) rfl rfl ih2 rfl rfl rfl rfl ?_|refine WG.ap (E:=env) rfl rfl rfl rfl rfl rfl rfl rfl rfl rfl rfl (by show(List.length (_::_)+List.length (_::_))*56≤_;simp only[List.length_cons,hrl,hl2];omega) ?_|refine WG.ixA (E:=env) (A:=[]) rfl rfl rfl rfl rfl rfl rfl rfl rfl ?_|refine WG.stA (E:=env) (A:=[]) rfl rfl rfl rfl rfl rfl rfl rfl rfl ?_|refine Z1 ?_|fail|((refine SP (fun h=>?_) fun h=>?_)<;>(try(exfalso;first|contradiction|omega))))
    refine⟨_,_,by omega,⟨i+1,_,rfl,⟨by omega,?_⟩,rfl⟩,(St.imp.rev 1 1 rfl).trans (St.imp.of_le lE)⟩
    rw[htk,List.map_append,←hrv,show ks.getD i noS=noS by rw[g8 (by omega)];rfl]
    rfl
   ·obtain rfl:i=kids.length:=by omega
    repeat'(first|refine Z1 ?_|((refine SP (fun h=>?_) fun h=>?_)<;>(try(exfalso;first|contradiction|omega))))
    refine W.ret ?_
    exact RetQ.own (tt:=.og 1 0) 1 0 (.inl rfl) rfl rO rfl rfl rfl rfl (by rw[hrv,List.take_length,List.length_map];rfl)
  ·refine W.loopI (fun m S=> ∃(i:Nat) (rv:List (List D)),m=kids.length - i∧(i≤kids.length∧rv=(V.kidsC (kids.take i) ks).map Cell.row)∧
    S=⟨ofL [(1,.lp 0 0),(4,.og 1 0),(29,.d (.sl 5 (kids.map V.row))),(30,vI .i64 (kids.map V.row).length),(31,vI .i64 i)],
     [.pv ((V.mk k nm t ks kids).rowP.map .d),.gr 5 132 (Cell.row ⟨k,nm,t,noS,((kids.map V.row).length:Int)⟩::rv) 0 false]⟩) _ _ ⟨0,[],rfl,⟨by omega,rfl⟩,rfl⟩ (St.imp.of_le lE) ?_
   rintro m S ⟨i,rv,rfl,⟨hi,hrv⟩,rfl⟩
   by_cases hlt:i<kids.length
   ·have hrl:rv.length=V.counts (kids.take i):=by rw[hrv,List.length_map,V.kidsC_length]
    have hm1:=hmax i
    have hc1:=hdep i hlt
    have ih':=ih (kids.getD i default) hc1 (by omega) (hgk i hlt)
    have htk:=V.kidsC_take kids ks i hlt
    generalize hkid:kids.getD i default=kid at ih' htk hc1
    obtain⟨vk,vn,vt,vks,vkids⟩:=kid
    have hl2:((V.kidsC vkids vks).map Cell.row).length=V.counts vkids:=by rw[List.length_map,V.kidsC_length]
    simp only[V.count] at hc1
    have ih2:Fun env.P 102 [.agg (V.mk vk vn vt vks vkids).rowP] (.og 0 0) [.gr 5 132 (Cell.row ⟨vk,vn,vt,noS,vkids.length⟩::(V.kidsC vkids vks).map Cell.row) 0 false]:=ih'
    have hix: ∀j:Nat,j=i→(kids.getD j default).row=(V.mk vk vn vt vks vkids).rowP:=fun j hj=>by rw[hj,hkid,V.row_eq]
    clear ih ih' hkid
    repeat'(first|refine WG.ixe (E:=env) (r:=(V.mk vk vn vt vks vkids).rowP) rfl rfl rfl rfl rfl rfl rfl (hix _ (by omega)) (by(first|exact trivial|(simp only[inRange,List.length_map];omega)|omega|assumption)) ?_|refine WG.co (E:=env) (K:=3) (t':=.og 3 0) rfl rfl ih2 rfl rfl rfl rfl ?_|refine WG.ap (E:=env) rfl rfl rfl rfl rfl rfl rfl rfl rfl rfl rfl (by show(List.length (_::_)+List.length (_::_))*56≤_;simp only[List.length_cons,hrl,hl2];omega) ?_|refine WG.ixA (E:=env) (A:=[]) rfl rfl rfl rfl rfl rfl rfl rfl rfl ?_|refine WG.stA (E:=env) (A:=[]) rfl rfl rfl rfl rfl rfl rfl rfl rfl ?_|refine Z1 ?_|fail|((refine SP (fun h=>?_) fun h=>?_)<;>(try(exfalso;first|contradiction|omega))))
    refine⟨_,_,by omega,⟨i+1,_,rfl,⟨by omega,?_⟩,rfl⟩,(St.imp.rev 1 1 rfl).trans (St.imp.of_le lE)⟩
    rw[htk,List.map_append,←hrv,show ks.getD i noS=ks.getD (Int.toNat (i:Int)) default from rfl]
    rfl
   ·obtain rfl:i=kids.length:=by omega
    repeat'(first|refine Z1 ?_|((refine SP (fun h=>?_) fun h=>?_)<;>(try(exfalso;first|contradiction|omega))))
    refine W.ret ?_
    exact RetQ.own (tt:=.og 1 0) 1 0 (.inl rfl) rfl rO rfl rfl rfl rfl (by rw[hrv,List.take_length,List.length_map];rfl)
  ·obtain rfl:kids=[]:=hkn (by omega)
   refine W.loopI (fun m S=>S=⟨ofL [(4,.og 1 0),(30,vI .i64 0),(31,vI .i64 0)],[.pv ((V.mk k nm t ks []).rowP.map .d),.gr 5 132 [Cell.row ⟨k,nm,t,noS,0⟩] 0 false]⟩) 0 _ rfl (St.imp.of_le lE) ?_
   rintro m S rfl
   repeat'(first|refine Z1 ?_|((refine SP (fun h=>?_) fun h=>?_)<;>(try(exfalso;first|contradiction|omega))))
   refine W.ret ?_
   exact RetQ.own (tt:=.og 1 0) 1 0 (.inl rfl) rfl rO rfl rfl rfl rfl rfl
theorem cellsCode_all : ∀ {cs:List Cell},(∀c∈cs,cellCode c=0)→cellsCode cs=0
 |[],_=>rfl
 |c::r,h=>by
  rw[cellsCode,if_neg (by rw[h c (List.mem_cons_self ..)];simp)]
  exact cellsCode_all fun x hx=>h x (List.mem_cons_of_mem _ hx)
theorem okText_no :okText noS=true:=rfl
mutual
theorem V.cells_code : ∀(v:V),v.good→v.count≤201→ ∀(key:ByteArray),okText key=true→ ∀c∈v.cellsK key,cellCode c=0
 |.mk k n t ks kids,hg,hcn,key,hkey,c,hc=>by
  obtain⟨g1,g2,g3,g4,g5,g6,g7,g8,g9,g10,g11⟩:=hg
  simp only[V.count] at hcn
  have hlc:=V.length_counts kids
  simp only[V.cellsK] at hc
  rcases List.mem_cons.1 hc with rfl|hc
  ·have e1:¬(kids.length:Int)=0→holdsK k=true:=fun h0=>by
    have:=g4 (fun e=>h0 (by rw[e];rfl))
    rcases this with rfl|rfl<;>rfl
   unfold cellCode
   simp only[hkey,g6]
   rw[if_neg,if_neg,if_neg,if_neg (by simp)]
   ·simp;omega
   ·by_cases h1:n=0<;>by_cases h2:t=noS<;>by_cases h3:(kids.length:Int)=0<;>simp_all
   ·simp;omega
  ·exact V.cells_codes kids ks g11 (by omega) g9 c hc
theorem V.cells_codes : ∀(l:List V) (ks:List ByteArray),V.goods l→V.counts l≤201→(∀key∈ks,okText key=true)→ ∀c∈V.kidsC l ks,cellCode c=0
 |[],ks,_,_,_,c,hc=>by simp[V.kidsC] at hc
 |v::r,ks,hg,hcn,hk,c,hc=>by
  simp only[V.counts] at hcn
  simp only[V.kidsC] at hc
  rcases List.mem_append.1 hc with hc|hc
  ·refine V.cells_code v hg.1 (by omega) _ ?_ c hc
   cases ks with
   |nil=>rfl
   |cons a r=>exact hk a (List.mem_cons_self ..)
  ·exact V.cells_codes r ks.tail hg.2 (by omega) (fun key hkey=>hk key (List.mem_of_mem_tail hkey)) c hc
end
theorem valOfM_good (v:V)(hg:v.good)(hc:v.count≤200):valOfM v.cells=if 20<v.depth then(V.zero,7) else(v,0):=by
 have hl:v.cells.length=v.count:=V.cellsK_length v noS
 have hd:=V.depth_le v
 unfold valOfM
 rw[if_neg (by omega),if_neg (by rw[cellsCode_all (cs:=v.cells) fun c h=>V.cells_code v hg (by omega) noS okText_no c h];simp)]
 have hr:=V.read_at (cs:=v.cells) v hg noS [] [] (by rw[List.nil_append,List.append_nil];rfl)
 rw[show valAtM v.cells (v.cells.length+1) 0=some (v,0+v.count) from hr]
 obtain⟨c,r,he,hk,_⟩:=V.cellsK_key v noS
 have hk0:(v.cells.getD 0 default).key=noS:=by rw[show v.cells=c::r from he];exact hk
 simp only[]
 rw[if_neg (by rw[hl,hk0];simp)]
def faultV (v:V):Int:=if 200<v.count then 2 else if 20<v.depth then 7 else 0
theorem numberP_fn (n:Int):Fun env.P 46 [dI n] (.d (.agg (V.mk 3 n noS [] []).rowP)) []:=by
 refine Fun.intro Tryz.func46 rfl (by kernel_rfl) rfl ?_
 repeat'(first|refine Z1 ?_)
 (refine W.ret ?_;(first|refine RetQ.d' ?_))
 rfl
def fitsC (cs:List Cell):Prop:=(∀c∈cs,c.text.size≤1048576∧c.key.size≤1048576)∧cs.length≤1048576
abbrev intRow (n:Int):List D:=[dI n]
def kidsOf (nm:Nat→List Int)(k:Nat):List Nat:=((nm k).map Int.toNat).filter (· <k)
theorem kidsOf_lt {nm:Nat→List Int}{k j:Nat}(h:j∈kidsOf nm k):j<k:=by
 simp only[kidsOf,List.mem_filter,decide_eq_true_eq] at h
 exact h.2
def intsN (l:List Nat):List Int:=l.map fun(j:Nat)=>(j:Int)
theorem kidsOf_eq {nm:Nat→List Int}{k:Nat}(h: ∀m∈nm k,0≤m∧m<k):nm k=intsN (kidsOf nm k):=by
 unfold kidsOf intsN
 generalize nm k=l at h
 induction l with
 |nil=>rfl
 |cons m r ih=>
  have h1:=h m (List.mem_cons_self ..)
  rw[List.map_cons,List.filter_cons,if_pos (by simp;omega),List.map_cons,←ih fun x hx=>h x (List.mem_cons_of_mem _ hx)]
  congr 1
  omega
theorem kidsOf_length {nm:Nat→List Int}{k:Nat}(h: ∀m∈nm k,0≤m∧m<k):(kidsOf nm k).length=(nm k).length:=by
 have:=congrArg List.length (kidsOf_eq h)
 simpa [intsN] using this.symm
def full (nm:Nat→List Int)(k:Nat):List Nat:=(kidsOf nm k).attach.flatMap (fun j=>full nm j.1)++[k]
termination_by k
decreasing_by exact kidsOf_lt j.2
theorem full_eq (nm:Nat→List Int)(k:Nat):full nm k=(kidsOf nm k).flatMap (full nm)++[k]:=by
 rw[full]
 congr 1
 rw[List.flatMap_def,List.flatMap_def]
 exact congrArg List.flatten (List.attach_map_val (f:=full nm))
theorem full_ne (nm:Nat→List Int)(k:Nat):full nm k≠[]:=by rw[full_eq];simp
def cg :List Nat→Prop
 |a::b::r=>b=a+1∧cg (b::r)
 |_=>True
theorem cg_left : ∀ {l1 l2:List Nat},cg (l1++l2)→cg l1
 |[],_,_=>trivial
 |[a],_,_=>trivial
 |a::b::r,l2,h=>⟨h.1,cg_left (l1:=b::r) h.2⟩
theorem cg_right : ∀ {l1 l2:List Nat},cg (l1++l2)→cg l2
 |[],_,h=>h
 |[a],[],_=>trivial
 |[a],b::r,h=>h.2
 |a::b::r,l2,h=>cg_right (l1:=b::r) h.2
theorem cg_mid : ∀ {l1:List Nat} {a b:Nat} {l2:List Nat},cg ((l1++[a])++(b::l2))→b=a+1
 |[],a,b,l2,h=>h.1
 |[x],a,b,l2,h=>h.2.1
 |x::y::r,a,b,l2,h=>cg_mid (l1:=y::r) h.2
theorem cg_join : ∀ {l1:List Nat} {a:Nat} {l2:List Nat},cg (l1++[a])→cg ((a+1)::l2)→cg ((l1++[a])++((a+1)::l2))
 |[],a,l2,_,h=>⟨rfl,h⟩
 |[x],a,l2,h1,h=>⟨h1.1,rfl,h⟩
 |x::y::r,a,l2,h1,h=>⟨h1.1,cg_join (l1:=y::r) h1.2 h⟩
theorem cg_range : ∀ {a:Nat} {l:List Nat},cg (a::l)→a::l=List.range' a (l.length+1)
 |a,[],_=>by simp
 |a,b::r,h=>by
  obtain⟨rfl,h2⟩:=h
  have:=cg_range h2
  rw[List.length_cons,List.range'_succ,←this]
theorem range_cg : ∀(n a:Nat),cg (List.range' a n)
 |0,a=>trivial
 |1,a=>trivial
 |n+2,a=>by
  rw[List.range'_succ,List.range'_succ]
  exact⟨rfl,by rw[←List.range'_succ];exact range_cg (n+1) (a+1)⟩
open Classical in
noncomputable def begM (nm:Nat→List Int)(k:Nat):Int:=if cg (full nm k) then(((full nm k).headD 0:Nat):Int) else -1
theorem begM_neg {nm:Nat→List Int}{k:Nat}(h:¬cg (full nm k)):begM nm k= -1:=by rw[begM,if_neg h]
theorem begM_pos {nm:Nat→List Int}{k b:Nat}{r:List Nat}(h:cg (full nm k))(hb:full nm k=b::r):begM nm k=b:=by rw[begM,if_pos h,hb];rfl
theorem full_le (nm:Nat→List Int): ∀k,∀j∈full nm k,j≤k:=fun k=>by
 induction k using Nat.strongRecOn with
 |_ k ih=>
  intro i hi
  rw[full_eq,List.mem_append,List.mem_flatMap,List.mem_singleton] at hi
  rcases hi with⟨j,hj,hi⟩|rfl
  ·have h1:=ih j (kidsOf_lt hj) i hi
   have:=kidsOf_lt hj
   omega
  ·exact Nat.le_refl _
theorem begM_le (nm:Nat→List Int)(k:Nat): -1≤begM nm k∧begM nm k≤k:=by
 by_cases hc:cg (full nm k)
 ·cases hf:full nm k with
  |nil=>exact absurd hf (full_ne _ _)
  |cons c r=>
   have h1:=full_le nm k c (by rw[hf];exact List.mem_cons_self ..)
   rw[begM_pos hc hf]
   omega
 ·rw[begM_neg hc];omega
def Seen (nm:Nat→List Int)(k:Nat)(us:List Nat)(b:Nat):Prop:= ∃r,full nm k=us.flatMap (full nm)++(b::r)∧cg (b::r)
theorem Seen.start (nm:Nat→List Int)(k:Nat):Seen nm k (kidsOf nm k) k:=⟨[],full_eq nm k,trivial⟩
theorem full_last (nm:Nat→List Int)(k:Nat): ∃l,full nm k=l++[k]:=⟨_,full_eq nm k⟩
theorem Seen.bad {nm:Nat→List Int}{k own b:Nat}{us:List Nat}(h:Seen nm k (us++[own]) b)(hn:own+1≠b):begM nm k= -1:=by
 obtain⟨r,h1,h2⟩:=h
 refine begM_neg fun hc=>hn ?_
 obtain⟨l,hl⟩:=full_last nm own
 rw[h1,List.flatMap_append,List.flatMap_singleton,hl,List.append_assoc] at hc
 exact(cg_mid (cg_right hc)).symm
theorem Seen.below {nm:Nat→List Int}{k own b:Nat}{us:List Nat}(h:Seen nm k (us++[own]) b)(hn:begM nm own<0):begM nm k= -1:=by
 obtain⟨r,h1,h2⟩:=h
 refine begM_neg fun hc=>?_
 rw[h1,List.flatMap_append,List.flatMap_singleton,List.append_assoc] at hc
 have:=cg_left (cg_right hc)
 rw[begM,if_pos this] at hn
 omega
theorem Seen.next {nm:Nat→List Int}{k own b:Nat}{us:List Nat}(h:Seen nm k (us++[own]) b)(hb:own+1=b)(hn:0≤begM nm own): ∃c:Nat,begM nm own=c∧Seen nm k us c:=by
 obtain⟨r,h1,h2⟩:=h
 by_cases hc:cg (full nm own)
 ·cases hf:full nm own with
  |nil=>exact absurd hf (full_ne _ _)
  |cons c r'=>
   refine⟨c,begM_pos hc hf,r'++(b::r),?_,?_⟩
   ·rw[h1,List.flatMap_append,List.flatMap_singleton,hf,List.append_assoc];rfl
   ·obtain⟨l,hl⟩:=full_last nm own
    subst hb
    have:=cg_join (hl▸hc) h2
    rw[←hl,hf] at this
    exact this
 ·rw[begM_neg hc] at hn;omega
theorem Seen.done {nm:Nat→List Int}{k b:Nat}(h:Seen nm k [] b):begM nm k=b:=by
 obtain⟨r,h1,h2⟩:=h
 exact begM_pos (by rw[h1];exact h2) h1
theorem begM_zero {nm:Nat→List Int}{k:Nat}:begM nm k=0↔full nm k=List.range (k+1):=by
 constructor
 ·intro h
  by_cases hc:cg (full nm k)
  ·obtain⟨l,hl⟩:=full_last nm k
   cases hf:full nm k with
   |nil=>exact absurd hf (full_ne _ _)
   |cons c r=>
    rw[begM_pos hc hf] at h
    have hc0:c=0:=by omega
    subst hc0
    have hr:=cg_range (hf▸hc)
    have hlast:(full nm k).getLast (full_ne _ _)=k:=by simp[hl]
    have:(0::r).getLast (by simp)=k:=by
     rw[←hlast];congr 1;exact hf.symm
    simp only[hr] at this
    rw[List.getLast_range'] at this
    have hlen:r.length=k:=by simpa using this
    rw[hr,hlen,List.range_eq_range']
  ·rw[begM_neg hc] at h;omega
 ·intro h
  rw[begM,if_pos (by rw[h,List.range_eq_range'];exact range_cg _ _),h,List.range_eq_range',List.range'_succ]
  rfl
theorem foldl_attach {α β:Type}(f:β→α→β): ∀(l:List α) (b:β),l.attach.foldl (fun o j=>f o j.1) b=l.foldl f b:=fun l b=>by
 have:=List.foldl_map (f:=fun(j:{x // x∈l})=>j.1) (g:=f) (l:=l.attach) (init:=b)
 rw[←this,List.attach_map_subtype_val]
theorem snoc_range {pre:List Nat}{x m:Nat}(h:pre++[x]=List.range m): ∃q,m=q+1∧pre=List.range q∧x=q:=by
 cases m with
 |zero=>simp at h
 |succ q=>
  rw[List.range_succ] at h
  have:=List.append_inj' h rfl
  exact⟨q,rfl,this.1,by simpa using this.2⟩
def ordM (nm:Nat→List Int)(n:Nat)(k:Nat)(out:List Nat):List Nat:=(kidsOf nm k).attach.foldl (fun o j=>if o.length≤n then ordM nm n j.1 o else o) out++[k]
termination_by k
decreasing_by exact kidsOf_lt j.2
def ordL (nm:Nat→List Int)(n:Nat)(l:List Nat)(out:List Nat):List Nat:=l.foldl (fun o j=>if o.length≤n then ordM nm n j o else o) out
theorem ordM_eq (nm:Nat→List Int)(n k:Nat)(out:List Nat):ordM nm n k out=ordL nm n (kidsOf nm k) out++[k]:=by
 rw[ordM,ordL]
 exact congrArg (· ++[k]) (foldl_attach (fun o j=>if o.length≤n then ordM nm n j o else o) (kidsOf nm k) out)
theorem ordL_over {nm:Nat→List Int}{n:Nat}: ∀ {l:List Nat} {out:List Nat},n<out.length→ordL nm n l out=out
 |[],out,h=>rfl
 |j::l,out,h=>by
  have:=ordL_over (nm:=nm) (l:=l) h
  unfold ordL at this ⊢
  rw[List.foldl_cons,if_neg (by omega)]
  exact this
theorem ordL_cons {nm:Nat→List Int}{n j:Nat}{l out:List Nat}(h:out.length≤n):ordL nm n (j::l) out=ordL nm n l (ordM nm n j out):=by
 unfold ordL;rw[List.foldl_cons,if_pos h]
def OrdP (nm:Nat→List Int)(n k:Nat):Prop:= ∀out:List Nat,(out.length+(full nm k).length≤n+1→ordM nm n k out=out++full nm k)∧(ordM nm n k out=out++full nm k∨n<(ordM nm n k out).length)∧
 out.length<(ordM nm n k out).length∧(ordM nm n k out).length≤max out.length n+k+1
theorem ordL_p {nm:Nat→List Int}{n k:Nat}: ∀(l:List Nat),(∀j∈l,j<k∧OrdP nm n j)→ ∀out:List Nat,(out.length+(l.flatMap (full nm)).length≤n→ordL nm n l out=out++l.flatMap (full nm))∧
 (ordL nm n l out=out++l.flatMap (full nm)∨n<(ordL nm n l out).length)∧out.length≤(ordL nm n l out).length∧(ordL nm n l out).length≤max out.length (n+k)
 |[],_,out=>by
  have e:ordL nm n [] out=out:=rfl
  rw[e]
  simp
  omega
 |j::l,hl,out=>by
  have ih:=ordL_p l (fun i hi=>hl i (List.mem_cons_of_mem _ hi))
  obtain⟨hjk,hj⟩:=hl j (List.mem_cons_self ..)
  by_cases ho:out.length≤n
  ·rw[ordL_cons ho]
   obtain⟨a1,a2,a3,a4⟩:=hj out
   obtain⟨b1,b2,b3,b4⟩:=ih (ordM nm n j out)
   rw[List.flatMap_cons,←List.append_assoc]
   refine⟨fun h=>?_,?_,by omega,by omega⟩
   ·simp only[List.length_append] at h
    have e:=a1 (by omega)
    rw[e] at b1 ⊢
    exact b1 (by simp only[List.length_append];omega)
   ·rcases a2 with e|h
    ·rw[e] at b2 ⊢
     exact b2
    ·exact .inr (by omega)
  ·rw[ordL_over (by omega)]
   refine⟨fun h=>by omega,.inr (by omega),by omega,by omega⟩
theorem ordM_p (nm:Nat→List Int)(n:Nat): ∀k,OrdP nm n k:=fun k=>by
 induction k using Nat.strongRecOn with
 |_ k ih=>
  intro out
  obtain⟨b1,b2,b3,b4⟩:=ordL_p (n:=n) (k:=k) (kidsOf nm k) (fun j hj=>⟨kidsOf_lt hj,ih j (kidsOf_lt hj)⟩) out
  rw[ordM_eq,full_eq,←List.append_assoc]
  simp only[List.length_append,List.length_singleton]
  refine⟨fun h=>by rw[b1 (by omega)],?_,by omega,by omega⟩
  rcases b2 with e|h
  ·exact .inl (by rw[e])
  ·exact .inr (by omega)
theorem ordM_range {nm:Nat→List Int}{k:Nat}:ordM nm (k+1) k []=List.range (k+1)↔full nm k=List.range (k+1):=by
 obtain⟨a1,a2,_,_⟩:=ordM_p nm (k+1) k []
 constructor
 ·intro h
  rcases a2 with e|hl
  ·rw[←h,e];rfl
  ·rw[h] at hl;simp at hl
 ·intro h
  rw[a1 (by rw[h];simp),h];rfl
def nestM (nm:Nat→List Int)(k:Nat):Nat:=(kidsOf nm k).attach.foldl (fun m j=>max m (nestM nm j.1)) 0+1
termination_by k
decreasing_by exact kidsOf_lt j.2
def maxL (f:Nat→Nat)(l:List Nat):Nat:=l.foldl (fun m j=>max m (f j)) 0
theorem nestM_eq (nm:Nat→List Int)(k:Nat):nestM nm k=maxL (nestM nm) (kidsOf nm k)+1:=by
 rw[nestM,maxL]
 exact congrArg (· +1) (foldl_attach (fun m j=>max m (nestM nm j)) (kidsOf nm k) 0)
theorem maxL_snoc (f:Nat→Nat)(l:List Nat)(j:Nat):maxL f (l++[j])=max (maxL f l) (f j):=by simp[maxL]
theorem maxL_from (f:Nat→Nat): ∀(l:List Nat) (m:Nat),m≤l.foldl (fun m j=>max m (f j)) m∧ ∀j∈l,f j≤l.foldl (fun m j=>max m (f j)) m
 |[],m=>⟨Nat.le_refl _,fun j h=>by cases h⟩
 |x::l,m=>by
  obtain⟨h1,h2⟩:=maxL_from f l (max m (f x))
  rw[List.foldl_cons]
  refine⟨by omega,fun j hj=>?_⟩
  rcases List.mem_cons.1 hj with rfl|hj
  ·omega
  ·exact h2 j hj
theorem maxL_mem {f:Nat→Nat}{l:List Nat}{j:Nat}(h:j∈l):f j≤maxL f l:=(maxL_from f l 0).2 j h
theorem maxL_le {f:Nat→Nat}{b:Nat}: ∀ {l:List Nat} {m:Nat},m≤b→(∀j∈l,f j≤b)→l.foldl (fun m j=>max m (f j)) m≤b
 |[],m,hm,_=>hm
 |x::l,m,hm,h=>by
  rw[List.foldl_cons]
  exact maxL_le (by have:=h x (List.mem_cons_self ..);omega) fun j hj=>h j (List.mem_cons_of_mem _ hj)
theorem nestM_full (nm:Nat→List Int): ∀k,∀i∈full nm k,nestM nm i≤nestM nm k:=fun k=>by
 induction k using Nat.strongRecOn with
 |_ k ih=>
  intro i hi
  rw[full_eq,List.mem_append,List.mem_flatMap,List.mem_singleton] at hi
  rcases hi with⟨j,hj,hi⟩|rfl
  ·have h1:=ih j (kidsOf_lt hj) i hi
   have h2:=maxL_mem (f:=nestM nm) hj
   rw[nestM_eq nm k]
   omega
  ·exact Nat.le_refl _
theorem nestM_le (nm:Nat→List Int): ∀k,nestM nm k≤k+1:=fun k=>by
 induction k using Nat.strongRecOn with
 |_ k ih=>
  rw[nestM_eq]
  have:maxL (nestM nm) (kidsOf nm k)≤k:=maxL_le (by omega) fun j hj=>by have:=ih j (kidsOf_lt hj);have:=kidsOf_lt hj;omega
  omega
theorem nest_most {nm:Nat→List Int}{k:Nat}(h:full nm k=List.range (k+1)):maxL (nestM nm) (List.range (k+1))=nestM nm k:=by
 apply Nat.le_antisymm
 ·refine maxL_le (by omega) fun j hj=>nestM_full nm k j (by rw[h];exact hj)
 ·exact maxL_mem (by simp)
def endM (cs:List Cell)(k:Nat):Nat:=match valA cs k with|some (_,b)=>b|none=>0
theorem l1End_fn (cs:List Cell)(k:Nat)(hl:cs.length≤200)(hk:k≤200)(hs: ∃p,valA cs k=some p):Fun env.P 177 [cellsD cs,dI k] (.d (dI (endM cs k))) []:=by
 obtain⟨⟨v,b⟩,hv⟩:=hs
 have hb:=valA_le hv
 have hc:=(l1Shape_fn cs hl (cs.length+1) k 0 (by omega) (by omega) (by omega)).cast rfl (congrArg (fun x=>T.tup (shapeRes x)) hv) rfl
 unfold endM
 rw[hv]
 refine Fun.intro Tryz.func177 rfl (by kernel_rfl) rfl ?_
 repeat'(first|refine Z1 ?_|refine WG.c (E:=env) rfl rfl (hc) rfl rfl ?_)
 (refine W.ret ?_;(first|refine RetQ.i' ?_))
 rfl
section
variable {E:Env}{N:Nm}{Q:Exit→St→Prop}{S:St}{ops l:List Oper}{ty:TypeId}{pos:String}{after:Array Edge}{gd:Option (Nat×Bool)}{d:Nat}
variable {tm:Nat→T}{ob:List Ob}{G:List Nat}
theorem WG.slQ {t e:TypeId}{x:Operand}{lo hi:Option Operand}{z:Nat}{rows rows':List (List D)}{li hh:Int}(hw:St.want ⟨tm,ob⟩ ops ⟨some d,.slice t x lo hi none,ty,pos,after,gd⟩=some true)(hd:Nat.blt d N.n=true)
 (ht:(E.ty t).kind=.slice e) (he:(E.ty e).known=true) (hz:(E.ty e).size=z) (hx:norm ob (St.ev ⟨tm,ob⟩ x)=.d (.sl z rows)) (hlo:evLow ⟨tm,ob⟩ lo=some li)
 (hhi:evBound ⟨tm,ob⟩ rows.length hi=some hh) (hb:0≤li∧li≤hh∧hh≤rows.length) (hq:(rows.drop li.toNat).take (hh.toNat - li.toNat)=rows')
 (kk:WG G E.P N ops l Q ⟨upd tm d (.d (.sl z rows')),ob⟩):WG G E.P N ops (⟨some d,.slice t x lo hi none,ty,pos,after,gd⟩::l) Q ⟨tm,ob⟩:=by
 subst hq
 exact WG.slD hw hd ht he hz hx hlo hhi hb kk
end
def subC (cs:List Cell)(k:Nat):List Cell:=(cs.drop k).take (endM cs k - k)
def headC :List Cell→List Cell
 |[]=>[]
 |c::r=>{ c with key:=noS }::r
theorem subC_cons {cs:List Cell}{k:Nat}(h:(valOfM cs).2=0)(hk:k<cs.length):(k<endM cs k∧endM cs k≤cs.length)∧ ∃c r,subC cs k=c::r:=by
 obtain⟨⟨v,b⟩,hv⟩:=valOfM_every h k hk
 have hb:=valA_le hv
 have he:endM cs k=b:=by unfold endM;rw[hv]
 rw[he]
 refine⟨hb,?_⟩
 cases hs:subC cs k with
 |nil=>
  have:(subC cs k).length=0:=by rw[hs];rfl
  rw[subC,he,List.length_take,List.length_drop] at this
  omega
 |cons c r=>exact⟨c,r,rfl⟩
theorem l1PartS_fn (cs:List Cell)(k:Nat)(hk:k<cs.length)(h0:(valOfM cs).2=0):Fun env.P 151 [cellsD cs,dI k] (.og 0 0) [.gr 5 132 ((headC (subC cs k)).map Cell.row) 0 false]:=by
 have hl:=(valOfM_kind h0).2.2.1
 obtain⟨⟨hb1,hb2⟩,c,r,hs⟩:=subC_cons h0 hk
 have he:=l1End_fn cs k hl (by omega) (valOfM_every h0 k hk)
 have hsl:((cs.map Cell.row).drop (Int.toNat (k:Int))).take (Int.toNat (endM cs k:Int) - Int.toNat (k:Int))=(c::r).map Cell.row:=by
  rw[←hs,subC,Int.toNat_natCast,Int.toNat_natCast,List.map_take,List.map_drop]
 have hcr:(c::r).length≤1048576:=by rw[←hs,subC,List.length_take,List.length_drop];omega
 have hcr2:r.length+1≤1048576:=hcr
 rw[hs]
 generalize endM cs k=b at he hsl hb1 hb2
 obtain⟨ck,cn,ct,cy,cnn⟩:=c
 refine Fun.intro Tryz.func151 rfl (by kernel_rfl) rfl ?_
 repeat'(first|refine WG.slQ (E:=env) rfl rfl rfl rfl rfl rfl rfl rfl ⟨by omega,by omega,by rw[List.length_map];omega⟩ hsl ?_|refine WG.ixA (E:=env) (A:=[]) rfl rfl rfl rfl rfl rfl rfl rfl rfl ?_|refine WG.stA (E:=env) (A:=[]) rfl rfl rfl rfl rfl rfl rfl rfl rfl ?_|refine Z1 ?_|refine WG.c (E:=env) rfl rfl (he) rfl rfl ?_)
 refine W.ret ?_
 exact RetQ.own (tt:=.og 0 1) 0 1 (.inl rfl) rfl rO rfl rfl rfl rfl rfl
def V.ats (v:V)(k n:Nat):List Int:=(List.range n).map fun i=>((v.at k i:Nat):Int)
theorem V.ats_succ (v:V)(k n:Nat):v.ats k (n+1)=v.ats k n++[((v.at k n:Nat):Int)]:=by simp[V.ats,List.range_succ]
theorem V.ats_length (v:V)(k n:Nat):(v.ats k n).length=n:=by simp[V.ats]
theorem V.ats_at (v:V)(k n i:Nat)(h:i<n):(v.ats k n).getD i default=((v.at k i:Nat):Int):=by simp[V.ats,h]
theorem valOfM_codes {cs:List Cell}(h:(valOfM cs).2=0): ∀i,i<cs.length→cellCode (cs.getD i default)=0:=by
 obtain⟨_,hl1,hl2,hcc⟩:=valOfM_kind h
 exact cellsCode_kind hcc
theorem endM_kid {cs:List Cell}(h:(valOfM cs).2=0){k:Nat}{v:V}{b:Nat}(hv:valA cs k=some (v,b)){j:Nat}(hj:j<v.kids.length):endM cs (v.at k j)=v.at k (j+1)∧v.at k j<cs.length:=by
 obtain⟨h1,_,_,h4⟩:=kid_at (valOfM_codes h) hv hj
 have:=valA_le h1
 have:=valA_le hv
 exact⟨by unfold endM;rw[h1],by omega⟩
theorem kids_le {cs:List Cell}{k:Nat}{v:V}{b:Nat}(h:(valOfM cs).2=0)(hv:valA cs k=some (v,b)):v.kids.length≤cs.length:=by
 obtain⟨h1,h2,h3,h4⟩:=valA_split (valOfM_codes h) hv
 have hlc:=V.length_counts v.kids
 cases v with
 |mk a b c d e=>simp only[V.count,V.kids] at *;omega
theorem l1Children_fn (cs:List Cell)(h0:(valOfM cs).2=0)(k:Nat)(v:V)(b:Nat)(hv:valA cs k=some (v,b)):
 Fun env.P 150 [cellsD cs,dI k] (.og 0 0) [.gr 1 2 ((v.ats k v.kids.length).map intRow) 0 false]:=by
 have hl:=(valOfM_kind h0).2.2.1
 have hn:=(valA_head (valOfM_codes h0) hv).2.2.2
 have hle:=valA_le hv
 have hkl:=kids_le h0 hv
 have hcell:(cs.getD (Int.toNat (k:Int)) default).n=(v.kids.length:Int):=by rw[Int.toNat_natCast,hn]
 refine Fun.intro Tryz.func150 rfl (by kernel_rfl) rfl ?_
 repeat'(first|refine Z1 ?_|((refine SP (fun h=>?_) fun h=>?_)<;>(try(exfalso;first|contradiction|omega))))
 refine W.loopI (fun m S=> ∃(i:Nat) (rv:List (List D)) (q:Int),m=v.kids.length - i∧(i≤v.kids.length∧rv=(v.ats k i).map intRow∧q=((v.at k i:Nat):Int))∧
  S=⟨ofL [(0,.d (cellsD cs)),(1,vI .i64 k),(5,.og 0 0),(6,vI .i64 q),(7,vI .i64 i)],[.gr 1 2 rv 0 false]⟩) _ _ ⟨0,[],_,rfl,⟨by omega,rfl,by rw[V.at_zero]⟩,rfl⟩ (St.imp.of_le lE) ?_
 rintro m S ⟨i,rv,q,rfl,⟨hi,hrv,hq⟩,rfl⟩
 have hlen:rv.length=i:=by rw[hrv,List.length_map,V.ats_length]
 by_cases hlt:i<v.kids.length
 ·obtain⟨he,hnl⟩:=endM_kid h0 hv hlt
  have hend:=l1End_fn cs (v.at k i) hl (by omega) (valOfM_every h0 _ hnl)
  rw[he,←hq] at hend
  repeat'(first|refine Z1 ?_|refine WG.c (E:=env) rfl rfl (hend) rfl rfl ?_|((refine SP (fun h=>?_) fun h=>?_)<;>(try(exfalso;first|contradiction|omega))))
  refine⟨_,_,by omega,⟨i+1,_,_,rfl,⟨by omega,?_,rfl⟩,rfl⟩,(St.imp.rev 0 1 rfl).trans (St.imp.of_le lE)⟩
  rw[V.ats_succ,List.map_append,←hrv,hq]
  rfl
 ·obtain rfl:i=v.kids.length:=by omega
  repeat'(first|refine Z1 ?_|((refine SP (fun h=>?_) fun h=>?_)<;>(try(exfalso;first|contradiction|omega))))
  (refine W.ret ?_;first|refine RetR.g' ?_|refine RetR.ag' ?_ ?_|refine RetR.agn' ?_|exact RetR.gn'|refine RetR.ag3' ?_ ?_ ?_|refine RetR.agn3' ?_ ?_)
  exact hrv
def orL :List Int→Int
 |[]=>0
 |a::r=>if a≠0 then a else orL r
theorem V.cmp_or (v w:V)(hk:v.kind=w.kind):
 V.cmp v w=orI (orL [cmpI v.num w.num,cmpS v.text w.text,cmpKs v.keys w.keys]) (V.cmps (v.kids.drop 0) (w.kids.drop 0)):=by
 have e0:cmpI v.kind w.kind=0:=by unfold cmpI;rw[if_neg (by omega),if_neg (by omega)]
 rw[V.cmp_eq,e0]
 simp only[List.drop_zero]
 generalize cmpI v.num w.num=a
 generalize cmpS v.text w.text=b
 generalize cmpKs v.keys w.keys=c
 generalize V.cmps v.kids w.kids=d
 unfold orI orL orL orL orL
 by_cases h1:a=0<;>by_cases h2:b=0<;>by_cases h3:c=0<;>simp[h1,h2,h3]
theorem V.cmp_kind (v w:V)(hk:¬v.kind=w.kind):V.cmp v w=cmpI v.kind w.kind:=by
 rw[V.cmp_eq,orI,if_neg]
 unfold cmpI;(repeat' split)<;>omega
theorem V.count_eq (v:V):v.count=V.counts v.kids+1:=by cases v;rfl
mutual
def V.few (n:Nat):V→Prop
 |.mk _ _ _ ks kids=>ks.length≤n∧V.fews n kids
def V.fews (n:Nat):List V→Prop
 |[]=>True
 |v::r=>v.few n∧V.fews n r
end
theorem V.fews_at {n:Nat}: ∀ {l:List V},V.fews n l→ ∀v∈l,v.few n
 |[],_,v,h=>by cases h
 |x::r,h,v,hv=>by
  rcases List.mem_cons.1 hv with rfl|hv
  ·exact h.1
  ·exact V.fews_at h.2 v hv
mutual
theorem V.good_few : ∀(v:V) (n:Nat),v.good→v.count≤n+1→v.few n
 |.mk k nm t ks kids,n,h,hc=>by
  obtain⟨g1,g2,g3,g4,g5,g6,g7,g8,g9,g10,g11⟩:=h
  simp only[V.count] at hc
  have hlc:=V.length_counts kids
  refine⟨?_,V.goods_fews kids n g11 (by omega)⟩
  by_cases h6:k=6
  ·rw[g7 h6];omega
  ·rw[g8 h6];simp
theorem V.goods_fews : ∀(l:List V) (n:Nat),V.goods l→V.counts l≤n→V.fews n l
 |[],_,_,_=>trivial
 |v::r,n,h,hc=>by
  simp only[V.counts] at hc
  exact⟨V.good_few v n h.1 (by omega),V.goods_fews r n h.2 (by omega)⟩
end
def V.fine (v:V):Prop:=v.good∧v.count≤200∧v.depth≤20
theorem valOfM_fine {cs:List Cell}(h:(valOfM cs).2=0):(valOfM cs).1.fine∧cs=(valOfM cs).1.cells:=by
 obtain⟨h1,h2,h3,h4,_⟩:=valOfM_cells h
 exact⟨⟨h1,h3,h4⟩,h2⟩
theorem V.fine_val {v:V}(h:v.fine):valOfM v.cells=(v,0):=by
 rw[valOfM_good v h.1 h.2.1,if_neg (by have:=h.2.2;omega)]
theorem V.depths_mem {l:List V}: ∀v∈l,v.depth≤V.depths l:=by
 induction l with
 |nil=>intro v h;cases h
 |cons x r ih=>
  intro v h
  simp only[V.depths]
  rcases List.mem_cons.1 h with rfl|h
  ·omega
  ·have:=ih v h;omega
theorem V.good_kids {v:V}(h:v.good):V.goods v.kids:=by
 cases v;exact h.2.2.2.2.2.2.2.2.2.2
theorem V.fine_kids {v:V}(h:v.fine): ∀w∈v.kids,w.fine∧w.count<v.count:=by
 intro w hw
 have h1:=V.counts_ge w hw
 have h2:=V.depths_mem w hw
 have h3:=V.count_eq v
 have h4:v.depth=V.depths v.kids+1:=by cases v;rfl
 obtain⟨g1,g2,g3⟩:=h
 exact⟨⟨V.goods_mem (V.good_kids g1) w hw,by omega,by omega⟩,by omega⟩
theorem V.cells_cons (v:V): ∃r,v.cells=⟨v.kind,v.num,v.text,noS,(v.kids.length:Int)⟩::r:=by
 cases v;exact⟨_,rfl⟩
theorem V.headC_cellsK (v:V)(key:ByteArray):headC (v.cellsK key)=v.cells:=by cases v;rfl
theorem part_kid {v:V}(h:v.fine){j:Nat}(hj:j<v.kids.length):
 headC (subC v.cells (v.at 0 j))=(v.kids.getD j default).cells∧(v.cells.getD (v.at 0 j) default).key=v.keys.getD j noS∧v.at 0 j<v.cells.length:=by
 have h0:(valOfM v.cells).2=0:=by rw[V.fine_val h]
 have hv:=V.valA_cells v h.1
 obtain⟨h1,h2,h3,h4⟩:=kid_at (valOfM_codes h0) hv hj
 obtain⟨he,hl⟩:=endM_kid h0 hv hj
 refine⟨?_,h2,hl⟩
 have:subC v.cells (v.at 0 j)=cut v.cells (v.at 0 j) (v.at 0 (j+1)):=by unfold subC cut;rw[he]
 rw[this,h3,V.headC_cellsK]
abbrev partR (v:V):List D:=[cellsD v.cells]
def V.keysL (v:V)(n:Nat):List ByteArray:=(List.range n).map fun i=>v.keys.getD i noS
theorem V.keysL_succ (v:V)(n:Nat):v.keysL (n+1)=v.keysL n++[v.keys.getD n noS]:=by simp[V.keysL,List.range_succ]
theorem V.children_fn (v:V)(h:v.fine):Fun env.P 150 [cellsD v.cells,dI 0] (.d (.sl 1 ((v.ats 0 v.kids.length).map intRow))) []:=by
 have h0:(valOfM v.cells).2=0:=by rw[V.fine_val h]
 exact FunQ.pubG (l1Children_fn v.cells h0 0 v v.count (V.valA_cells v h.1))
theorem l1Parts_fn (v:V)(h:v.fine):Fun env.P 98 [cellsD v.cells] (.og 0 0) [.gr 1 57 (v.kids.map partR) 0 false]:=by
 have h0:(valOfM v.cells).2=0:=by rw[V.fine_val h]
 have hch:=V.children_fn v h
 have hlen:=V.ats_length v 0 v.kids.length
 have hcl:v.cells.length≤200:=(valOfM_kind h0).2.2.1
 have hkl:v.kids.length≤200:=by have:=kids_le h0 (V.valA_cells v h.1);omega
 refine Fun.intro Tryz.func98 rfl (by kernel_rfl) rfl ?_
 repeat'(first|refine Z1 ?_|refine WG.c (E:=env) rfl rfl (hch) rfl rfl ?_|((refine SP (fun h=>?_) fun h=>?_)<;>(try(exfalso;first|contradiction|omega))))
 refine W.loopI (fun m S=> ∃(i:Nat) (rv:List (List D)),m=v.kids.length - i∧(i≤v.kids.length∧rv=(v.kids.take i).map partR)∧
  S=⟨ofL [(0,.d (cellsD v.cells)),(3,.og 0 0),(4,.d (.sl 1 ((v.ats 0 v.kids.length).map intRow))),(5,vI .i64 i)],[.gr 1 57 rv 0 false]⟩) _ _ ⟨0,[],rfl,⟨by omega,rfl⟩,rfl⟩ (St.imp.of_le lE) ?_
 rintro m S ⟨i,rv,rfl,⟨hi,hrv⟩,rfl⟩
 have hrl:rv.length=i:=by rw[hrv,List.length_map,List.length_take];omega
 by_cases hlt:i<v.kids.length
 ·obtain⟨hp1,hp2,hp3⟩:=part_kid h hlt
  have hpart:=FunQ.pubG (l1PartS_fn v.cells (v.at 0 i) hp3 h0)
  rw[hp1] at hpart
  have hat:(v.ats 0 v.kids.length).getD (Int.toNat (i:Int)) default=((v.at 0 i:Nat):Int):=by rw[Int.toNat_natCast];exact V.ats_at v 0 _ i hlt
  rw[←hat] at hpart
  repeat'(first|refine Z1 ?_|refine WG.c (E:=env) rfl rfl (hpart) rfl rfl ?_|((refine SP (fun h=>?_) fun h=>?_)<;>(try(exfalso;first|contradiction|omega))))
  refine⟨_,_,by omega,⟨i+1,_,rfl,⟨by omega,?_⟩,rfl⟩,(St.imp.rev 0 1 rfl).trans (St.imp.of_le lE)⟩
  rw[take_step hlt,List.map_append,←hrv]
  rfl
 ·obtain rfl:i=v.kids.length:=by omega
  repeat'(first|refine Z1 ?_|((refine SP (fun h=>?_) fun h=>?_)<;>(try(exfalso;first|contradiction|omega))))
  (refine W.ret ?_;first|refine RetR.g' ?_|refine RetR.ag' ?_ ?_|refine RetR.agn' ?_|exact RetR.gn'|refine RetR.ag3' ?_ ?_ ?_|refine RetR.agn3' ?_ ?_)
  rw[hrv,List.take_length]
theorem l1Keys_fn (v:V)(h:v.fine):Fun env.P 99 [cellsD v.cells] (.og 0 0) [.gr 1 9 ((v.keysL v.kids.length).map keyRow) 0 false]:=by
 have h0:(valOfM v.cells).2=0:=by rw[V.fine_val h]
 have hch:=V.children_fn v h
 have hlen:=V.ats_length v 0 v.kids.length
 have hcl:v.cells.length≤200:=(valOfM_kind h0).2.2.1
 have hkl:v.kids.length≤200:=by have:=kids_le h0 (V.valA_cells v h.1);omega
 refine Fun.intro Tryz.func99 rfl (by kernel_rfl) rfl ?_
 repeat'(first|refine Z1 ?_|refine WG.c (E:=env) rfl rfl (hch) rfl rfl ?_|((refine SP (fun h=>?_) fun h=>?_)<;>(try(exfalso;first|contradiction|omega))))
 refine W.loopI (fun m S=> ∃(i:Nat) (rv:List (List D)),m=v.kids.length - i∧(i≤v.kids.length∧rv=(v.keysL i).map keyRow)∧
  S=⟨ofL [(0,.d (cellsD v.cells)),(3,.og 0 0),(4,.d (.sl 1 ((v.ats 0 v.kids.length).map intRow))),(5,vI .i64 i)],[.gr 1 9 rv 0 false]⟩) _ _ ⟨0,[],rfl,⟨by omega,rfl⟩,rfl⟩ (St.imp.of_le lE) ?_
 rintro m S ⟨i,rv,rfl,⟨hi,hrv⟩,rfl⟩
 have hrl:rv.length=i:=by rw[hrv,List.length_map,V.keysL,List.length_map,List.length_range]
 by_cases hlt:i<v.kids.length
 ·obtain⟨hp1,hp2,hp3⟩:=part_kid h hlt
  have hat:(v.ats 0 v.kids.length).getD (Int.toNat (i:Int)) default=((v.at 0 i:Nat):Int):=by rw[Int.toNat_natCast];exact V.ats_at v 0 _ i hlt
  repeat'(first|refine Z1 ?_|((refine SP (fun h=>?_) fun h=>?_)<;>(try(exfalso;first|contradiction|omega))))
  refine⟨_,_,by omega,⟨i+1,_,rfl,⟨by omega,?_⟩,rfl⟩,(St.imp.rev 0 1 rfl).trans (St.imp.of_le lE)⟩
  rw[V.keysL_succ,List.map_append,←hrv,←hp2,hat]
  rfl
 ·obtain rfl:i=v.kids.length:=by omega
  repeat'(first|refine Z1 ?_|((refine SP (fun h=>?_) fun h=>?_)<;>(try(exfalso;first|contradiction|omega))))
  (refine W.ret ?_;first|refine RetR.g' ?_|refine RetR.ag' ?_ ?_|refine RetR.agn' ?_|exact RetR.gn'|refine RetR.ag3' ?_ ?_ ?_|refine RetR.agn3' ?_ ?_)
  exact hrv
theorem V.plain_kids {v:V}(h:v.good)(hk:v.kind≠5)(hk2:v.kind≠6):v.kids=[]∧v.keys=[]:=by
 obtain⟨k,n,t,ks,kids⟩:=v
 obtain⟨g1,g2,g3,g4,g5,g6,g7,g8,g9,g10,g11⟩:=h
 simp only[V.kind] at hk hk2
 refine⟨?_,g8 hk2⟩
 cases kids with
 |nil=>rfl
 |cons a r=>rcases g4 (by simp) with h|h<;>contradiction
theorem V.plain_num {v:V}(h:v.good)(hk:v.kind≠3):v.num=0:=by
 obtain⟨k,n,t,ks,kids⟩:=v
 exact Decidable.byContradiction fun hn=>hk (h.2.1 hn)
theorem V.plain_text {v:V}(h:v.good)(hk:v.kind≠4):v.text=noS:=by
 obtain⟨k,n,t,ks,kids⟩:=v
 exact Decidable.byContradiction fun hn=>hk (h.2.2.1 hn)
theorem V.plain_keys {v:V}(h:v.good)(hk:v.kind≠6):v.keys=[]:=by
 obtain⟨k,n,t,ks,kids⟩:=v
 exact h.2.2.2.2.2.2.2.1 hk
theorem cmpI_self (a:Int):cmpI a a=0:=by unfold cmpI;rw[if_neg (by omega),if_neg (by omega)]
theorem cmpS_self (a:ByteArray):cmpS a a=0:=cmpS_zero.2 rfl
theorem orI_zero (q:Int):orI 0 q=q:=rfl
theorem orI_zero' (q:Int):orI q 0=q:=by unfold orI;split<;>omega
theorem V.cmp_same {v w:V}(hv:v.good)(hw:w.good)(hk:v.kind=w.kind):
 V.cmp v w=if v.kind=3 then cmpI v.num w.num else if v.kind=4 then cmpS v.text w.text else if v.kind=5 then V.cmps v.kids w.kids else if v.kind=6 then orI (cmpKs v.keys w.keys) (V.cmps v.kids w.kids) else 0:=by
 rw[V.cmp_eq,←hk,cmpI_self,orI_zero]
 by_cases h3:v.kind=3
 ·obtain⟨e1,e2⟩:=V.plain_kids hv (by omega) (by omega)
  obtain⟨e3,e4⟩:=V.plain_kids hw (by omega) (by omega)
  rw[if_pos h3,V.plain_text hv (by omega),V.plain_text hw (by omega),cmpS_self,e1,e2,e3,e4]
  simp[cmpKs,V.cmps,orI_zero,orI_zero']
 rw[if_neg h3,V.plain_num hv h3,V.plain_num hw (by omega),cmpI_self,orI_zero]
 by_cases h4:v.kind=4
 ·obtain⟨e1,e2⟩:=V.plain_kids hv (by omega) (by omega)
  obtain⟨e3,e4⟩:=V.plain_kids hw (by omega) (by omega)
  rw[if_pos h4,e1,e2,e3,e4]
  simp[cmpKs,V.cmps,orI_zero,orI_zero']
 rw[if_neg h4,V.plain_text hv h4,V.plain_text hw (by omega),cmpS_self,orI_zero]
 by_cases h5:v.kind=5
 ·rw[if_pos h5,V.plain_keys hv (by omega),V.plain_keys hw (by omega)]
  rfl
 rw[if_neg h5]
 by_cases h6:v.kind=6
 ·rw[if_pos h6]
 rw[if_neg h6]
 obtain⟨e1,e2⟩:=V.plain_kids hv h5 h6
 obtain⟨e3,e4⟩:=V.plain_kids hw (by omega) (by omega)
 rw[e1,e2,e3,e4]
 rfl
theorem V.fine_fault {v:V}(h:v.fine):faultV v=0:=by
 obtain⟨h1,h2,h3⟩:=h
 rw[faultV,if_neg (by omega),if_neg (by omega)]
theorem arrayP_fn (kids:List V):Fun env.P 48 [.sl 5 (kids.map V.row)] (.d (.agg (V.mk 5 0 noS [] kids).rowP)) []:=by
 refine Fun.intro Tryz.func48 rfl (by kernel_rfl) rfl ?_
 repeat'(first|refine Z1 ?_)
 (refine W.ret ?_;(first|refine RetQ.d' ?_))
 rfl
theorem V.kidsC_flat : ∀l:List V,V.kidsC l []=(l.map V.cells).flatten
 |[]=>rfl
 |v::r=>by simp only[V.kidsC,List.headD_nil,List.tail_nil,V.kidsC_flat r,List.map_cons,List.flatten_cons];rfl
theorem V.flat_length : ∀l:List V,(l.map V.cells).flatten.length=V.counts l
 |[]=>rfl
 |v::r=>by
  simp only[List.map_cons,List.flatten_cons,List.length_append,V.flat_length r,V.counts]
  rw[show v.cells.length=v.count from V.cellsK_length v noS]
mutual
theorem V.cells_sizes : ∀(v:V),v.good→ ∀(key:ByteArray),okText key=true→ ∀c∈v.cellsK key,c.text.size≤1048576∧c.key.size≤1048576
 |.mk k n t ks kids,hg,key,hkey,c,hc=>by
  obtain⟨g1,g2,g3,g4,g5,g6,g7,g8,g9,g10,g11⟩:=hg
  simp only[V.cellsK] at hc
  rcases List.mem_cons.1 hc with rfl|hc
  ·simp only[okText,Bool.and_eq_true,decide_eq_true_eq] at g6 hkey
   show t.size≤_∧key.size≤_
   omega
  ·exact V.cells_sizess kids ks g11 g9 c hc
theorem V.cells_sizess : ∀(l:List V) (ks:List ByteArray),V.goods l→(∀key∈ks,okText key=true)→ ∀c∈V.kidsC l ks,c.text.size≤1048576∧c.key.size≤1048576
 |[],ks,_,_,c,hc=>by simp[V.kidsC] at hc
 |v::r,ks,hg,hk,c,hc=>by
  simp only[V.kidsC] at hc
  rcases List.mem_append.1 hc with hc|hc
  ·refine V.cells_sizes v hg.1 _ ?_ c hc
   cases ks with
   |nil=>rfl
   |cons a r=>exact hk a (List.mem_cons_self ..)
  ·exact V.cells_sizess r ks.tail hg.2 (fun key hkey=>hk key (List.mem_of_mem_tail hkey)) c hc
end
mutual
def V.deepL :V→List V
 |.mk k n t ks kids=>.mk k n t ks kids::V.deepsL kids
def V.deepsL :List V→List V
 |[]=>[]
 |v::r=>V.deepL v++V.deepsL r
end
mutual
theorem V.deepL_all : ∀(v:V) (m:Nat),v.good→v.count≤m→(∀w∈v.deepL,w.good∧w.count≤m)∧v.deepL.length=v.count
 |.mk k n t ks kids,m,hg,hc=>by
  have hg':=V.good_kids hg
  simp only[V.count] at hc
  obtain⟨h1,h2⟩:=V.deepsL_all kids m hg' (by omega)
  simp only[V.deepL,V.count]
  refine⟨fun w hw=>?_,by simp[h2]⟩
  rcases List.mem_cons.1 hw with rfl|hw
  ·exact⟨hg,by simp only[V.count];omega⟩
  ·exact h1 w hw
theorem V.deepsL_all : ∀(l:List V) (m:Nat),V.goods l→V.counts l≤m→(∀w∈V.deepsL l,w.good∧w.count≤m)∧(V.deepsL l).length=V.counts l
 |[],m,_,_=>⟨fun w hw=>by simp[V.deepsL] at hw,rfl⟩
 |v::r,m,hg,hc=>by
  simp only[V.counts] at hc
  obtain⟨h1,h2⟩:=V.deepL_all v m hg.1 (by omega)
  obtain⟨h3,h4⟩:=V.deepsL_all r m hg.2 (by omega)
  simp only[V.deepsL,V.counts]
  refine⟨fun w hw=>?_,by simp[h2,h4]⟩
  rcases List.mem_append.1 hw with hw|hw
  ·exact h1 w hw
  ·exact h3 w hw
end
theorem V.counts_bound : ∀(l:List V) (m:Nat),(∀w∈l,w.count≤m)→V.counts l≤l.length*m
 |[],m,_=>by simp[V.counts]
 |v::r,m,h=>by
  have h1:=h v (List.mem_cons_self ..)
  have h2:=V.counts_bound r m fun w hw=>h w (List.mem_cons_of_mem _ hw)
  simp only[V.counts,List.length_cons,Nat.add_mul]
  omega
theorem V.deep_counts {v:V}(h:v.fine):V.counts v.deepL≤40000:=by
 obtain⟨h1,h2⟩:=V.deepL_all v v.count h.1 (Nat.le_refl _)
 have h3:=V.counts_bound v.deepL v.count fun w hw=>(h1 w hw).2
 rw[h2] at h3
 have:=h.2.1
 have:v.count*v.count≤200*200:=Nat.mul_le_mul this this
 omega
theorem V.deepsL_app (v:V): ∀l:List V,V.deepsL (l++[v])=V.deepsL l++v.deepL
 |[]=>by simp[V.deepsL]
 |x::r=>by rw[List.cons_append];simp only[V.deepsL];rw[V.deepsL_app v r,List.append_assoc]
theorem V.deepL_eq (v:V):v.deepL=v::V.deepsL v.kids:=by cases v;rfl
theorem V.deepsL_len (l:List V):(V.deepsL l).length=V.counts l:=by
 induction l with
 |nil=>rfl
 |cons x r ih=>
  simp only[V.deepsL,V.counts,List.length_append,ih]
  have: ∀v:V,v.deepL.length=v.count:=by
   intro v
   have: ∀(n:Nat) (v:V),v.count≤n→v.deepL.length=v.count:=by
    intro n
    induction n with
    |zero=>intro v h;have:=V.depth_le v;omega
    |succ n ihn=>
     intro v h
     rw[V.deepL_eq,V.count_eq]
     rw[V.count_eq] at h
     have key: ∀l:List V,V.counts l≤n→(V.deepsL l).length=V.counts l:=by
      intro l
      induction l with
      |nil=>intro _;rfl
      |cons y s ihs=>
       intro hl
       simp only[V.counts] at hl
       simp only[V.deepsL,V.counts,List.length_append,ihs (by omega),ihn y (by omega)]
     simp[key v.kids (by omega)]
   exact this v.count v (Nat.le_refl _)
  rw[this x]
end Go.Proofs.YtmmjbpgdkokjgaaGreatDoor
