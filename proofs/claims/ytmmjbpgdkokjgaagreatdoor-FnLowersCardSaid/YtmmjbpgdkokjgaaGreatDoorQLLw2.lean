/-
  A text of this claim. Conditions: none.
-/
import Derived.Test.YtmmjbpgdkokjgaaGreatDoorQLTr4
import Derived.Test.YtmmjbpgdkokjgaaGreatDoorQLCp2
import Derived.Sort.OwnSorted
import Derived.Shelf.Sort.Plain
import Derived.Shelf.Slices.In.SortNone
import Derived.Test.YtmmjbpgdkokjgaaGreatDoorQLV6
import Derived.Test.YtmmjbpgdkokjgaaGreatDoorQLOr1
import Derived.Test.YtmmjbpgdkokjgaaGreatDoorQLPgE
import Derived.Test.YtmmjbpgdkokjgaaGreatDoorQLPgF
import Derived.Test.YtmmjbpgdkokjgaaGreatDoorQLPgD
import Derived.Test.YtmmjbpgdkokjgaaGreatDoorQLPgG
set_option linter.unusedVariables false
set_option linter.unusedSimpArgs false
set_option maxRecDepth 100000
set_option maxHeartbeats 16000000
namespace Go.Proofs.YtmmjbpgdkokjgaaGreatDoor
open Go.RowKit
def atSeg (cs:List Co)(b:Nat)(xs:List Co):Prop:= ∃A B,cs=A++(xs++B)∧A.length=b
theorem atSeg.left {cs:List Co}{b:Nat}{xs ys:List Co}(h:atSeg cs b (xs++ys)):atSeg cs b xs:=by
 obtain⟨A,B,e,hl⟩:=h
 exact⟨A,ys++B,by rw[e,List.append_assoc],hl⟩
theorem atSeg.right {cs:List Co}{b:Nat}{xs ys:List Co}(h:atSeg cs b (xs++ys)):atSeg cs (b+xs.length) ys:=by
 obtain⟨A,B,e,hl⟩:=h
 exact⟨A++xs,B,by rw[e];simp,by rw[List.length_append,hl]⟩
theorem atSeg.at {cs:List Co}{b:Nat}{x:Co}(h:atSeg cs b [x]):cs.getD b default=x∧b<cs.length:=by
 obtain⟨A,B,rfl,rfl⟩:=h
 simp
theorem atSeg.whole (cs:List Co):atSeg cs 0 cs:=⟨[],[],by simp,rfl⟩
mutual
def Pt.wf :Pt→Prop
 |.mk n kids=>kids.length=arC n.op∧Pt.wfs kids
def Pt.wfs :List Pt→Prop
 |[]=>True
 |p::r=>p.wf∧Pt.wfs r
end
mutual
def Pt.depth :Pt→Nat
 |.mk _ kids=>Pt.depths kids+1
def Pt.depths :List Pt→Nat
 |[]=>0
 |p::r=>max p.depth (Pt.depths r)
end
mutual
def Pt.bnd :Pt→List Int→Prop
 |.mk n kids,sl=>(n.op=15→n.num∈sl)∧Pt.bnds n kids 0 sl
def Pt.bnds (n:Co):List Pt→Nat→List Int→Prop
 |[],_,_=>True
 |p::r,i,sl=>p.bnd (inC n i sl)∧Pt.bnds n r (i+1) sl
end
def Pt.endsN :List Pt→Nat→List Nat
 |[],_=>[]
 |p::r,b=>(b+p.count - 1)::Pt.endsN r (b+p.count)
theorem Pt.count_pos (p:Pt):1≤p.count:=by rw[Pt.count_eq];omega
theorem Pt.ends_nat : ∀(l:List Pt) (b:Nat),Pt.ends l b=intsN (Pt.endsN l b)
 |[],_=>rfl
 |p::r,b=>by
  have:=p.count_pos
  simp only[Pt.ends,Pt.endsN,intsN,List.map_cons]
  rw[show List.map (fun(j:Nat)=>(j:Int)) (Pt.endsN r (b+p.count))=intsN (Pt.endsN r (b+p.count)) from rfl,←Pt.ends_nat r]
  congr 1
  omega
theorem Pt.endsN_lt : ∀(l:List Pt) (b:Nat),∀j∈Pt.endsN l b,b≤j∧j<b+Pt.counts l
 |[],_,j,h=>by cases h
 |p::r,b,j,h=>by
  have:=p.count_pos
  simp only[Pt.counts]
  rcases List.mem_cons.1 h with rfl|h
  ·omega
  ·have:=Pt.endsN_lt r (b+p.count) j h
   omega
theorem Pt.endsN_length : ∀(l:List Pt) (b:Nat),(Pt.endsN l b).length=l.length
 |[],_=>rfl
 |p::r,b=>by simp[Pt.endsN,Pt.endsN_length r]
theorem put_named (n:Co)(es:List Int)(h:es.length=arC n.op):(n.put es).named=es:=by
 unfold Co.named Co.put
 simp only
 rw[←h]
 match es,h with
 |[],h=>rfl
 |[x],h=>rfl
 |[x,y],h=>rfl
 |[x,y,z],h=>rfl
 |x::y::z::u::r,h=>have:=arC_le n.op;simp at h;omega
theorem Pt.seg_node {cs:List Co}{b:Nat}{n:Co}{kids:List Pt}(h:atSeg cs b ((Pt.mk n kids).flat b)):cs.getD (b+Pt.counts kids) default=n.put (Pt.ends kids b)∧b+Pt.counts kids<cs.length∧atSeg cs b (Pt.flats kids b):=by
 simp only[Pt.flat] at h
 have h2:=h.right
 rw[Pt.flats_length] at h2
 exact⟨h2.at.1,h2.at.2,h.left⟩
theorem Pt.seg_kids {cs:List Co}{b:Nat}{n:Co}{kids:List Pt}(hw:kids.length=arC n.op)(h:atSeg cs b ((Pt.mk n kids).flat b)):kidsOf (nmC cs) (b+Pt.counts kids)=Pt.endsN kids b:=by
 obtain⟨h1,h2,h3⟩:=Pt.seg_node h
 unfold kidsOf nmC
 rw[h1,put_named n _ (by rw[Pt.ends_length];exact hw),Pt.ends_nat]
 have e:(intsN (Pt.endsN kids b)).map Int.toNat=Pt.endsN kids b:=by
  unfold intsN
  rw[List.map_map]
  simp[Function.comp_def]
 rw[e,List.filter_eq_self]
 intro j hj
 have:=Pt.endsN_lt kids b j hj
 simpa using this.2
mutual
theorem Pt.seg_full (cs:List Co): ∀(p:Pt) (b:Nat),p.wf→atSeg cs b (p.flat b)→full (nmC cs) (b+p.count - 1)=List.range' b p.count
 |.mk n kids,b,hw,h=>by
  have h3:=(Pt.seg_node h).2.2
  have hk:=Pt.seg_kids hw.1 h
  simp only[Pt.count]
  rw[show b+(Pt.counts kids+1) - 1=b+Pt.counts kids by omega,full_eq,hk,Pt.segs_full cs kids b hw.2 h3,List.range'_concat]
  simp
theorem Pt.segs_full (cs:List Co): ∀(l:List Pt) (b:Nat),Pt.wfs l→atSeg cs b (Pt.flats l b)→(Pt.endsN l b).flatMap (full (nmC cs))=List.range' b (Pt.counts l)
 |[],b,_,_=>rfl
 |p::r,b,hw,h=>by
  simp only[Pt.flats] at h
  have h2:=h.right
  rw[Pt.flat_length] at h2
  simp only[Pt.endsN,List.flatMap_cons,Pt.counts]
  rw[Pt.seg_full cs p b hw.1 h.left,Pt.segs_full cs r (b+p.count) hw.2 h2,List.range'_append_1]
end
theorem maxL_le' {f:Nat→Nat}{l:List Nat}{m:Nat}(h: ∀j∈l,f j≤m):maxL f l≤m:=by
 unfold maxL
 have: ∀(l:List Nat) (a:Nat),a≤m→(∀j∈l,f j≤m)→l.foldl (fun m j=>max m (f j)) a≤m:=fun l=>by
  induction l with
  |nil=>intro a ha _;exact ha
  |cons x r ih=>
   intro a ha hl
   rw[List.foldl_cons]
   exact ih _ (by have:=hl x (List.mem_cons_self ..);omega) fun j hj=>hl j (List.mem_cons_of_mem _ hj)
 exact this l 0 (Nat.zero_le _) h
mutual
theorem Pt.seg_nest (cs:List Co): ∀(p:Pt) (b:Nat),p.wf→atSeg cs b (p.flat b)→nestM (nmC cs) (b+p.count - 1)≤p.depth
 |.mk n kids,b,hw,h=>by
  have h3:=(Pt.seg_node h).2.2
  have hk:=Pt.seg_kids hw.1 h
  simp only[Pt.count,Pt.depth]
  rw[show b+(Pt.counts kids+1) - 1=b+Pt.counts kids by omega,nestM_eq,hk]
  exact Nat.succ_le_succ (maxL_le' (Pt.segs_nest cs kids b hw.2 h3))
theorem Pt.segs_nest (cs:List Co): ∀(l:List Pt) (b:Nat),Pt.wfs l→atSeg cs b (Pt.flats l b)→ ∀j∈Pt.endsN l b,nestM (nmC cs) j≤Pt.depths l
 |[],b,_,_,j,hj=>by cases hj
 |p::r,b,hw,h,j,hj=>by
  simp only[Pt.flats] at h
  have h2:=h.right
  rw[Pt.flat_length] at h2
  simp only[Pt.depths]
  rcases List.mem_cons.1 hj with rfl|hj
  ·have:=Pt.seg_nest cs p b hw.1 h.left;omega
  ·have:=Pt.segs_nest cs r (b+p.count) hw.2 h2 j hj;omega
end
mutual
theorem Pt.seg_bnd (cs:List Co): ∀(p:Pt) (b f:Nat) (sl:List Int),p.wf→atSeg cs b (p.flat b)→p.bnd sl→bndF cs f (b+p.count - 1) sl=true
 |.mk n kids,b,0,sl,hw,h,hb=>rfl
 |.mk n kids,b,f+1,sl,hw,h,hb=>by
  obtain⟨h1,h2,h3⟩:=Pt.seg_node h
  have hk:=Pt.seg_kids hw.1 h
  simp only[Pt.count]
  rw[show b+(Pt.counts kids+1) - 1=b+Pt.counts kids by omega]
  unfold bndF
  rw[hk,h1]
  have e1:(n.put (Pt.ends kids b)).op=n.op:=rfl
  have e2:(n.put (Pt.ends kids b)).num=n.num:=rfl
  have e3: ∀i,inC (n.put (Pt.ends kids b)) i sl=inC n i sl:=fun i=>rfl
  rw[e1,e2]
  simp only[e3]
  rw[Bool.and_eq_true]
  refine⟨?_,Pt.segs_bnd cs n kids b f 0 sl hw.2 h3 hb.2⟩
  have:=hb.1
  by_cases h15:n.op=15
  ·simp[hasI,h15,this h15]
  ·simp[h15]
theorem Pt.segs_bnd (cs:List Co)(n:Co): ∀(l:List Pt) (b f i:Nat) (sl:List Int),Pt.wfs l→atSeg cs b (Pt.flats l b)→Pt.bnds n l i sl→allK (fun i j=>bndF cs f j (inC n i sl)) (Pt.endsN l b) i=true
 |[],b,f,i,sl,_,_,_=>rfl
 |p::r,b,f,i,sl,hw,h,hb=>by
  simp only[Pt.flats] at h
  have h2:=h.right
  rw[Pt.flat_length] at h2
  simp only[Pt.endsN,allK]
  rw[Pt.seg_bnd cs p b f (inC n i sl) hw.1 h.left hb.1,Pt.segs_bnd cs n r (b+p.count) f (i+1) sl hw.2 h2 hb.2]
  rfl
end
def Co.fair (n:Co):Prop:=(1≤n.op∧n.op≤17)∧(n.a=0∧n.b=0∧n.c=0)∧(hasNc n.op=true∨n.num=0)∧(if hasVl n.op=true then(valOfM n.val).2=0∧(n.op=11→(valOfM n.val).1.kind=4) else n.val=[])∧numOkC n=true
mutual
def Pt.fair :Pt→Prop
 |.mk n kids=>n.fair∧Pt.fairs kids
def Pt.fairs :List Pt→Prop
 |[]=>True
 |p::r=>p.fair∧Pt.fairs r
end
theorem Co.fair_code {n:Co}{es:List Int}{k:Nat}(hf:n.fair)(hl:es.length=arC n.op)(he: ∀e∈es,0≤e∧e<k):coreC (n.put es) k=0:=by
 obtain⟨h1,⟨ha,hb,hc⟩,h3,h4,h5⟩:=hf
 have hn:numOkC (n.put es)=true:=h5
 have hform:formC3 (n.put es) k=true:=by
  have key: ∀i,i<3→kidCB (n.put es) k i=true:=by
   intro i hi
   unfold kidCB
   have eop:(n.put es).op=n.op:=rfl
   rw[eop,←hl]
   have hk:kidC (n.put es) i=es.getD i 0:=by
    unfold kidC Co.put
    have:i=0∨i=1∨i=2:=by omega
    rcases this with rfl|rfl|rfl
    ·simp[ha]
    ·simp[hb]
    ·simp[hc]
   rw[hk]
   by_cases hi2:i<es.length
   ·rw[if_pos hi2]
    have:=he _ (getD_mem' hi2)
    simp only[Bool.and_eq_true,decide_eq_true_eq]
    have e0:es.getD i 0=es.getD i default:=rfl
    rw[e0]
    omega
   ·rw[if_neg hi2]
    simp only[decide_eq_true_eq]
    rw[List.getD_eq_getElem?_getD,List.getElem?_eq_none (by omega)]
    rfl
  have q0:=key 0 (by omega)
  have q1:=key 1 (by omega)
  have q2:=key 2 (by omega)
  have e1:(n.put es).op=n.op:=rfl
  have e2:(n.put es).num=n.num:=rfl
  have e3:(n.put es).val=n.val:=rfl
  unfold formC3
  rw[q0,q1,q2,e1,e2,e3]
  simp only[Bool.true_and,Bool.and_eq_true,Bool.or_eq_true,decide_eq_true_eq]
  refine⟨h3,?_⟩
  by_cases hv:hasVl n.op=true
  ·exact .inl hv
  ·rw[if_neg hv] at h4
   exact .inr (by rw[h4];rfl)
 have e1:(n.put es).op=n.op:=rfl
 have e3:(n.put es).val=n.val:=rfl
 unfold coreC
 rw[hform,hn,e1,e3,if_neg (fun h=>h h1),if_neg (by simp)]
 by_cases hv:hasVl n.op=true
 ·rw[if_pos hv] at h4
  rw[if_neg (fun h=>h.2 h4.1),if_neg (fun h=>h.2 (h4.2 h.1)),if_neg (by simp)]
 ·have h11:n.op≠11:=fun h=>hv (by rw[h];rfl)
  rw[if_neg (fun h=>hv h.1),if_neg (fun h=>h11 h.1),if_neg (by simp)]
mutual
theorem Pt.fair_codes : ∀(p:Pt) (b:Nat),p.wf→p.fair→ ∀i,i<p.count→coreC ((p.flat b).getD i default) (b+i)=0
 |.mk n kids,b,hw,hf,i,hi=>by
  have hfl:=Pt.flats_length kids b
  simp only[Pt.count] at hi
  simp only[Pt.flat]
  by_cases h:i<Pt.counts kids
  ·rw[List.getD_eq_getElem?_getD,List.getElem?_append_left (by omega),←List.getD_eq_getElem?_getD]
   exact Pt.fairs_codes kids b hw.2 hf.2 i h
  ·obtain rfl:i=Pt.counts kids:=by omega
   rw[List.getD_eq_getElem?_getD,List.getElem?_append_right (by omega),hfl,Nat.sub_self]
   refine Co.fair_code hf.1 (by rw[Pt.ends_length];exact hw.1) fun e he=>?_
   rw[Pt.ends_nat] at he
   unfold intsN at he
   obtain⟨j,hj,rfl⟩:=List.mem_map.1 he
   have:=Pt.endsN_lt kids b j hj
   omega
theorem Pt.fairs_codes : ∀(l:List Pt) (b:Nat),Pt.wfs l→Pt.fairs l→ ∀i,i<Pt.counts l→coreC ((Pt.flats l b).getD i default) (b+i)=0
 |[],b,_,_,i,hi=>by simp[Pt.counts] at hi
 |p::r,b,hw,hf,i,hi=>by
  have hfl:=Pt.flat_length p b
  simp only[Pt.counts] at hi
  simp only[Pt.flats]
  by_cases h:i<p.count
  ·rw[List.getD_eq_getElem?_getD,List.getElem?_append_left (by omega),←List.getD_eq_getElem?_getD]
   exact Pt.fair_codes p b hw.1 hf.1 i h
  ·rw[List.getD_eq_getElem?_getD,List.getElem?_append_right (by omega),hfl,←List.getD_eq_getElem?_getD]
   have:=Pt.fairs_codes r (b+p.count) hw.2 hf.2 (i - p.count) (by omega)
   rwa [show b+p.count+(i - p.count)=b+i by omega] at this
end
theorem firstK_all {f:Nat→Int}: ∀(m k:Nat),(∀j,k≤j→j<k+m→f j=0)→firstK f m k=0
 |0,_,_=>rfl
 |m+1,k,h=>by
  unfold firstK
  rw[if_neg (by have:=h k (by omega) (by omega);omega)]
  exact firstK_all m (k+1) fun j h1 h2=>h j (by omega) (by omega)
theorem Pt.coreM_flat (p:Pt)(hw:p.wf)(hf:p.fair)(hb:p.bnd [])(hc:p.count≤900)(hd:p.depth≤120):coreM (p.flat 0)=0:=by
 have hl:=Pt.flat_length p 0
 have hp:=p.count_pos
 have hs:=atSeg.whole (p.flat 0)
 have h1:=Pt.seg_full _ p 0 hw hs
 have h2:=Pt.seg_nest _ p 0 hw hs
 have h3:=Pt.seg_bnd _ p 0 (p.flat 0).length [] hw hs hb
 rw[Nat.zero_add] at h1 h2 h3
 unfold coreM
 rw[hl,if_neg (fun h=>h ⟨by omega,by omega⟩)]
 have hfirst:firstK (cCode (p.flat 0)) p.count 0=0:=firstK_all _ _ fun j _ hj=>by
  have:=Pt.fair_codes p 0 hw hf j (by omega)
  rwa [Nat.zero_add] at this
 have hbeg:begM (nmC (p.flat 0)) (p.count - 1)=0:=begM_zero.2 (by rw[h1,List.range_eq_range',show p.count - 1+1=p.count by omega])
 rw[hl] at h3
 rw[hfirst,if_neg (by simp),hbeg,if_neg (by simp),h3,if_neg (by simp),if_neg (by omega)]
def srtL (l:List ByteArray):List (List UInt8):=(l.map fun x=>x.data.toList).mergeSort fun x y=>decide (x≤y)
def srt (l:List ByteArray):List ByteArray:=(srtL l).map fun b=>⟨b.toArray⟩
theorem srtL_length (l:List ByteArray):(srtL l).length=l.length:=by simp[srtL]
theorem srt_length (l:List ByteArray):(srt l).length=l.length:=by simp[srt,srtL]
theorem bytes_back (l:List ByteArray):(l.map fun x=>x.data.toList).map (fun b=>(⟨b.toArray⟩:ByteArray))=l:=by
 rw[List.map_map]
 exact(List.map_congr_left fun x _=>by simp).trans (List.map_id l)
theorem srt_perm (l:List ByteArray):(srt l).Perm l:=by
 have h:=(List.mergeSort_perm (l.map fun x=>x.data.toList) fun x y=>decide (x≤y)).map fun b=>(⟨b.toArray⟩:ByteArray)
 rwa [bytes_back] at h
theorem lessK_lt (a b:ByteArray):lessK a b=decide (a.data.toList<b.data.toList):=by rw[lessK,bytesLess_eq]
theorem lessK_trans {a b c:ByteArray}(h1:lessK a b=true)(h2:lessK b c=true):lessK a c=true:=less_trans _ _ _ h1 h2
theorem lessK_irrefl (a:ByteArray):lessK a a=false:=less_irrefl _
theorem lessK_tri {a b:ByteArray}(h1:lessK a b=false)(h2:lessK b a=false):a=b:=by
 have:=less_tri _ _ h1 h2
 cases a;cases b;simp_all [Array.toList_inj]
theorem incr_pair : ∀ {l:List ByteArray},incr l↔l.Pairwise fun a b=>lessK a b=true
 |[]=>by simp[incr]
 |a::r=>by rw[incr_cons,List.pairwise_cons,incr_pair]
theorem srt_incr {l:List ByteArray}(hn:l.Nodup):incr (srt l):=by
 rw[incr_pair]
 have hn2:(srt l).Nodup:=(srt_perm l).nodup_iff.2 hn
 have hs:(srt l).Pairwise fun a b=>lessK b a=false:=by
  unfold srt
  rw[List.pairwise_map]
  have:=List.pairwise_mergeSort (le:=fun x y:List UInt8=>decide (x≤y))
   (fun a b c h1 h2=>by simp only[decide_eq_true_eq] at *;exact List.le_trans h1 h2)
   (fun a b=>by simp only[Bool.or_eq_true,decide_eq_true_eq];exact List.le_total a b) (l.map fun x=>x.data.toList)
  refine this.imp fun {a b} h=>?_
  rw[lessK_lt]
  simp only[decide_eq_true_eq] at h
  simpa using h
 exact(hs.and hn2).imp fun {a b} ⟨h1,h2⟩=>by
  cases h:lessK a b with
  |true=>rfl
  |false=>exact absurd (lessK_tri h h1) h2
theorem incr_ext : ∀ {a b:List ByteArray},incr a→incr b→(∀x,x∈a↔x∈b)→a=b
 |[],[],_,_,_=>rfl
 |[],y::s,_,_,h=>by have:=(h y).2 (List.mem_cons_self ..);simp at this
 |x::r,[],_,_,h=>by have:=(h x).1 (List.mem_cons_self ..);simp at this
 |x::r,y::s,ha,hb,h=>by
  obtain⟨a1,a2⟩:=incr_cons.1 ha
  obtain⟨b1,b2⟩:=incr_cons.1 hb
  have hxy:x=y:=by
   rcases List.mem_cons.1 ((h x).1 (List.mem_cons_self ..)) with e|e
   ·exact e
   ·rcases List.mem_cons.1 ((h y).2 (List.mem_cons_self ..)) with e2|e2
    ·exact e2.symm
    ·have h3:=lessK_trans (a1 y e2) (b1 x e)
     rw[lessK_irrefl] at h3;cases h3
  subst hxy
  rw[incr_ext a2 b2 fun z=>?_]
  constructor
  ·intro hz
   rcases List.mem_cons.1 ((h z).1 (List.mem_cons_of_mem _ hz)) with e|e
   ·subst e;have h3:=a1 z hz;rw[lessK_irrefl] at h3;cases h3
   ·exact e
  ·intro hz
   rcases List.mem_cons.1 ((h z).2 (List.mem_cons_of_mem _ hz)) with e|e
   ·subst e;have h3:=b1 z hz;rw[lessK_irrefl] at h3;cases h3
   ·exact e
theorem posK_cons (key a:ByteArray)(r:List ByteArray):posK key (a::r)=if lessK a key=true then posK key r+1 else 0:=by
 rw[posK]
theorem insK_nil (key:ByteArray):insK key []=[key]:=by simp[insK,hasK,posK]
theorem insK_cons (key a:ByteArray)(r:List ByteArray):insK key (a::r)=if lessK a key=true then a::insK key r else if a=key then a::r else key::a::r:=by
 unfold insK hasK
 rw[posK_cons]
 by_cases h:lessK a key=true
 ·simp only[h,if_true,List.length_cons,Nat.add_lt_add_iff_right,List.getD_cons_succ,List.take_succ_cons,List.drop_succ_cons,List.cons_append]
  split<;>rfl
 ·simp only[if_neg h,List.length_cons,List.getD_cons_zero,List.take_zero,List.drop_zero,List.nil_append]
  by_cases e:a=key<;>simp[e]
theorem insK_mem (key:ByteArray): ∀(ks:List ByteArray) (x:ByteArray),x∈insK key ks↔x=key∨x∈ks
 |[],x=>by simp[insK_nil]
 |a::r,x=>by
  rw[insK_cons]
  split
  ·rw[List.mem_cons,insK_mem key r x,List.mem_cons];constructor<;>(intro h;rcases h with h|h|h<;>simp[h])
  ·split
   ·rename_i e;subst e;simp
   ·simp
theorem insK_incr (key:ByteArray): ∀ {ks:List ByteArray},incr ks→incr (insK key ks)
 |[],_=>by rw[insK_nil];exact incr_cons.2 ⟨fun b hb=>by simp at hb,trivial⟩
 |a::r,h=>by
  obtain⟨h1,h2⟩:=incr_cons.1 h
  rw[insK_cons]
  split
  ·rename_i hl
   refine incr_cons.2 ⟨fun b hb=>?_,insK_incr key h2⟩
   rcases(insK_mem key r b).1 hb with e|e
   ·subst e;exact hl
   ·exact h1 b e
  ·rename_i hl
   split
   ·exact h
   ·rename_i hne
    have hk:lessK key a=true:=by
     cases e:lessK key a with
     |true=>rfl
     |false=>exact absurd (lessK_tri (by simpa using hl) e) hne
    refine incr_cons.2 ⟨fun b hb=>?_,h⟩
    rcases List.mem_cons.1 hb with e|e
    ·subst e;exact hk
    ·exact lessK_trans hk (h1 b e)
theorem among_iff2 {s:ByteArray}: ∀ {l:List ByteArray},among l s=true↔s∈l
 |[]=>by simp[among]
 |x::r=>by simp[among,among_iff2 (l:=r)]
def gD (p:Nat→Option ByteArray):Nat→List ByteArray
 |0=>[]
 |i+1=>match p i with
  |none=>gD p i
  |some t=>if among (gD p i) t=true then gD p i else gD p i++[t]
def gI (p:Nat→Option ByteArray):Nat→List ByteArray
 |0=>[]
 |i+1=>match p i with
  |none=>gI p i
  |some t=>insK t (gI p i)
theorem gD_mem (p:Nat→Option ByteArray): ∀i x,x∈gD p i↔ ∃j,j<i∧p j=some x
 |0,x=>by simp[gD]
 |i+1,x=>by
  have ih:=gD_mem p i x
  rw[gD]
  cases hp:p i with
  |none=>
   rw[show(match (none:Option ByteArray) with|none=>gD p i|some t=>if among (gD p i) t=true then gD p i else gD p i++[t])=gD p i from rfl,ih]
   constructor
   ·rintro⟨j,h1,h2⟩;exact⟨j,by omega,h2⟩
   ·rintro⟨j,h1,h2⟩
    by_cases e:j=i
    ·subst e;rw[hp] at h2;cases h2
    ·exact⟨j,by omega,h2⟩
  |some t=>
   have hx:x∈(if among (gD p i) t=true then gD p i else gD p i++[t])↔x∈gD p i∨x=t:=by
    split
    ·rename_i h;rw[among_iff2] at h;exact⟨.inl,fun h2=>h2.elim id fun e=>by rw[e];exact h⟩
    ·simp
   show x∈(if among (gD p i) t=true then gD p i else gD p i++[t])↔_
   rw[hx,ih]
   constructor
   ·rintro(⟨j,h1,h2⟩|rfl)
    ·exact⟨j,by omega,h2⟩
    ·exact⟨i,by omega,hp⟩
   ·rintro⟨j,h1,h2⟩
    by_cases e:j=i
    ·subst e;rw[hp] at h2;cases h2;exact .inr rfl
    ·exact .inl ⟨j,by omega,h2⟩
theorem gI_mem (p:Nat→Option ByteArray): ∀i x,x∈gI p i↔ ∃j,j<i∧p j=some x
 |0,x=>by simp[gI]
 |i+1,x=>by
  have ih:=gI_mem p i x
  rw[gI]
  cases hp:p i with
  |none=>
   show x∈gI p i↔_
   rw[ih]
   constructor
   ·rintro⟨j,h1,h2⟩;exact⟨j,by omega,h2⟩
   ·rintro⟨j,h1,h2⟩
    by_cases e:j=i
    ·subst e;rw[hp] at h2;cases h2
    ·exact⟨j,by omega,h2⟩
  |some t=>
   show x∈insK t (gI p i)↔_
   rw[insK_mem,ih]
   constructor
   ·rintro(rfl|⟨j,h1,h2⟩)
    ·exact⟨i,by omega,hp⟩
    ·exact⟨j,by omega,h2⟩
   ·rintro⟨j,h1,h2⟩
    by_cases e:j=i
    ·subst e;rw[hp] at h2;cases h2;exact .inl rfl
    ·exact .inr ⟨j,by omega,h2⟩
theorem gD_nodup (p:Nat→Option ByteArray): ∀i,(gD p i).Nodup
 |0=>by simp[gD]
 |i+1=>by
  have ih:=gD_nodup p i
  rw[gD]
  cases p i with
  |none=>exact ih
  |some t=>
   show(if among (gD p i) t=true then gD p i else gD p i++[t]).Nodup
   split
   ·exact ih
   ·rename_i h
    rw[among_iff2] at h
    rw[List.nodup_append]
    refine⟨ih,by simp,fun a ha b hb=>?_⟩
    simp only[List.mem_singleton] at hb
    subst hb
    exact fun e=>h (e▸ha)
theorem gI_incr (p:Nat→Option ByteArray): ∀i,incr (gI p i)
 |0=>trivial
 |i+1=>by
  have ih:=gI_incr p i
  rw[gI]
  cases p i with
  |none=>exact ih
  |some t=>exact insK_incr t ih
theorem gD_len (p:Nat→Option ByteArray): ∀i,(gD p i).length≤i
 |0=>by simp[gD]
 |i+1=>by
  have ih:=gD_len p i
  rw[gD]
  cases p i with
  |none=>exact Nat.le_succ_of_le ih
  |some t=>
   show(if among (gD p i) t=true then gD p i else gD p i++[t]).length≤_
   split
   ·omega
   ·simp;omega
theorem srt_gD (p:Nat→Option ByteArray)(i:Nat):srt (gD p i)=gI p i:=
 incr_ext (srt_incr (gD_nodup p i)) (gI_incr p i) fun x=>by rw[(srt_perm _).mem_iff,gD_mem,gI_mem]
theorem gD_step {p:Nat→Option ByteArray}{i:Nat}{t:ByteArray}(h:p i=some t)(ha:among (gD p i) t=false):gD p (i+1)=gD p i++[t]:=by
 rw[gD,h];simp[ha]
theorem gD_same {p:Nat→Option ByteArray}{i:Nat}{t:ByteArray}(h:p i=some t)(ha:among (gD p i) t=true):gD p (i+1)=gD p i:=by
 rw[gD,h];simp[ha]
theorem gD_none {p:Nat→Option ByteArray}{i:Nat}(h:p i=none):gD p (i+1)=gD p i:=by rw[gD,h]
theorem gI_len (p:Nat→Option ByteArray): ∀i,(gI p i).length≤i
 |0=>by simp[gI]
 |i+1=>by
  have ih:=gI_len p i
  rw[gI]
  cases p i with
  |none=>exact Nat.le_succ_of_le ih
  |some t=>exact Nat.le_trans (insK_length t _) (by omega)
theorem entersL {P:Program}{f:FuncId}{fn:Func}{c:Code}(hf:P.funcs[f]? =some fn)(hb:fn.body=some c)(hname:(fn.name== "runtime.NumGoroutine")=false)(vals:Array Value)(w:World):
 (callFunc f vals).run P w=.ok (.enter f vals) w:=by
 unfold callFunc
 simp only[Sem.run_bind,run_program,Result.andThen_ok,hf,hname,hb,Bool.false_eq_true,if_false,Option.isNone_some,Sem.run_pure]
theorem FunQ.sorts {P:Program}{f:FuncId}{e:TypeId}(he: ∀(vals:Array Value) (w:World),(callFunc f vals).run P w=.ok (.enter f vals) w)(xs:List ByteArray)(hx:xs.length≤1048576)
 (raw: ∀(blk off cap:Nat) (ss:List (List UInt8)) (w:World),Sort.Holds encStr w blk off ss.toArray→blk<w.heap.size→ss.length<4611686018427387904→
   Calls P f #[.slice (some ⟨blk,off,none⟩) ss.length cap] w fun e w'=>e=.returned (.tuple #[])∧ ∃n os,w'=Sort.grow (Sort.putRow encStr (Sort.ahead w n) blk off (ss.mergeSort fun x y=>decide (x≤y)).toArray) os)
 (raw0: ∀(A:Option Addr) (cap:Nat) (w:World),Calls P f #[.slice A 0 cap] w fun e w'=>e=.returned (.tuple #[])∧w'=w):
 FunQ P f [.og 0 0] [.gr 1 e (xs.map keyRow) 0 false] (just (.tup []) [.gr 1 e ((srt xs).map keyRow) 0 false]):=by
 refine⟨he,fun w g vals I hl hr=>?_⟩
 match vals,hl with
 |[u],_=>
  obtain⟨hlim0,hu⟩:=(hr 0 (.og 0 0) u rfl rfl).inv_og
  subst hu
  obtain⟨hlim,xv,⟨hown,hmine⟩,hz,hrel,hone,hsig⟩:=I.obs 0 _ rfl
  have hxl:xv.length=xs.length:=by have:=hown.1;simpa using this
  have hxv:xv=(xs.map fun x=>x.data.toList).map encStr:=by
   apply List.ext_getElem?
   intro i
   by_cases hi:i<xs.length
   ·obtain⟨u,hu,hd⟩:=hrel i 0 (keyRow xs[i]) (dS xs[i]) (by simp[hi]) rfl
    rw[Nat.mul_one,Nat.add_zero] at hu
    rw[hu]
    cases hd
    simp[hi]
   ·rw[List.getElem?_eq_none (by omega),List.getElem?_eq_none (by simp;omega)]
  rcases hown.2 with⟨hv,hn⟩|⟨b,cap,cur,hv,hb,hh,hc,hmm,hs,ht⟩
  ·have h0:xs=[]:=List.eq_nil_of_length_eq_zero (by simpa using hn)
   subst h0
   rw[hv]
   refine(raw0 none 0 w).mono fun e' w' ⟨h1,h2⟩=>?_
   subst h2
   have e0:srt []=[]:=by simp[srt,srtL]
   exact⟨_,_,_,g,h1,⟨rfl,by rw[e0]⟩,I,.tup [] [] rfl fun i x u hx=>by simp at hx⟩
  ·rw[List.length_map] at hv hc ht
   rw[hv]
   have ht':cur.toList.take (xs.map fun x=>x.data.toList).length=(xs.map fun x=>x.data.toList).map encStr:=by
    rw[List.length_map,←hxv,←ht,Nat.mul_one]
   have hH:=holds_of_block hh ht'
   have hbs:b<w.heap.size:=(Array.getElem?_eq_some_iff.1 hh).1
   have hcall:=raw b 0 cap (xs.map fun x=>x.data.toList) w hH hbs (by simp;omega)
   rw[List.length_map] at hcall
   refine hcall.mono fun e' w' ⟨h1,n,os,h2⟩=>?_
   have hsl:=srtL_length xs
   change w'=Sort.grow (Sort.putRow encStr (Sort.ahead w n) b 0 (srtL xs).toArray) os at h2
   have hgr:w.grownBy w' (some b):=by rw[h2];exact grownBy_sorted _
   have hnew:w'.ownsRow 0 e 1 (.slice (some ⟨b,0,none⟩) xs.length cap) xs.length ((srtL xs).map encStr):=by
    have:=ownsRow_sorted (n:=n) (os:=os) (ss:=xs.map fun x=>x.data.toList) (ts:=srtL xs) (by simp[hsl]) (Nat.zero_le b) hh (by simpa using hc) hmm hs
    rw[List.length_map] at this
    rw[h2]
    exact this
   have hob: ∀b',(g.γ 0 0).ownBlock=some b'↔b'=b:=fun b'=>by rw[hv];simp[Value.ownBlock,eq_comm]
   have hsb: ∀o,g.σ b o=none:=by have:=hsig b ((hob b).2 rfl);simpa using this
   refine⟨_,_,_,g,h1,⟨rfl,rfl⟩,⟨?_,I.old,fun b' o u hu=>?_,fun k o ho=>?_,fun k hk=>I.lim k (by simpa using hk),fun k k' o o' b' hne ho ho' hb'=>?_,I.ext⟩,.tup [] [] rfl fun i x u hx=>by simp at hx⟩
   ·refine I.below.then hgr.os hgr.tape hgr.output hgr.size fun k hk hno=>hgr.block k hk fun e=>hno ⟨0,_,rfl,?_⟩
    injection e with e
    exact(hob k).2 e
   ·have hne:b'≠b:=fun e=>by rw[e,hsb o] at hu;cases hu
    have h3:=I.con b' o u hu
    rw[World.cell?_of_block (w:=w) (w':=w') (hgr.block b' (World.block_lt_of_cell? w ⟨b',o,none⟩ h3) fun e=>by injection e with e;exact hne e)]
    exact h3
   ·cases k with
    |succ k=>simp at ho
    |zero=>
     simp only[List.getElem?_cons_zero,Option.some.injEq] at ho
     subst ho
     refine⟨hlim,(srtL xs).map encStr,⟨?_,hmine⟩,?_,?_,?_,hsig⟩
     ·rw[hv,List.length_map,srt_length];exact hnew
     ·intro r hr;obtain⟨x,_,rfl⟩:=List.mem_map.1 hr;rfl
     ·intro i j r x hi hj
      simp only[srt,List.map_map,List.getElem?_map,Option.map_eq_some_iff] at hi
      obtain⟨y,hy,rfl⟩:=hi
      have hj0:j=0:=by
       have:=(List.getElem?_eq_some_iff.1 hj).1
       simpa [keyRow] using this
      subst hj0
      have:x=dS ⟨y.toArray⟩:=by simpa [keyRow] using hj.symm
      subst this
      exact⟨encStr y,by simp[hy],.v _⟩
     ·intro u hu
      obtain⟨y,_,rfl⟩:=List.mem_map.1 hu
      rfl
   ·cases k with
    |succ k=>simp at ho
    |zero=>
     cases k' with
     |zero=>exact absurd rfl hne
     |succ k'=>simp at ho'
theorem slicesSort_fn (xs:List ByteArray)(hx:xs.length≤1048576):
 FunQ env.P 28 [.og 0 0] [.gr 1 9 (xs.map keyRow) 0 false] (just (.tup []) [.gr 1 9 ((srt xs).map keyRow) 0 false]):=
 FunQ.sorts (entersL Tryz.func28 (c:=_) rfl (by kernel_rfl)) xs hx
  (fun blk off cap ss w hH hb hs=>Any.slices_Sort_string lays190 blk off cap ss w hH hb hs) (fun A cap w=>Any.slices_Sort_string_none lays190 A cap w)
def pubdO (k n:Nat)(x:D):Ob→Ob
 |.pv cs=>.pv (cs.map (pubd k n x))
 |o=>o
theorem St.imp.pubP {N:Nm}{S:St}(k:Nat){z n:Nat}{e:TypeId}{rows:List (List D)}(hk:S.ob[k]? =some (.gr z e rows n true)):
 St.imp N S ⟨fun i=>pubd k n (.sl z rows) (S.tm i),S.ob.map (pubdO k n (.sl z rows))⟩:=fun w0 σ0 a w g r=>by
 have I:=r.inv
 have hget: ∀(j:Nat) (p:Ob),(S.ob.map (pubdO k n (.sl z rows)))[j]? =some p→ ∃q,S.ob[j]? =some q∧p=pubdO k n (.sl z rows) q:=fun j p hp=>by
  simp only[List.getElem?_map,Option.map_eq_some_iff] at hp
  obtain⟨q,hq,rfl⟩:=hp
  exact⟨q,hq,rfl⟩
 have hat: ∀(j:Nat) (q:Ob) (b:Nat),g.at j (pubdO k n (.sl z rows) q) b→g.at j q b:=fun j q b hb=>by
  cases q<;>exact hb
 refine⟨g,⟨⟨I.below,I.old,I.con,fun j p hp=>?_,fun j hj=>I.lim j (by simpa using hj),fun i j p p' b hne hp hp' hb hb'=>?_,I.ext⟩,r.defers,r.size,r.hm,by simpa using r.hl,fun i=>(r.tm i).pubd I hk⟩⟩
 ·obtain⟨q,hq,rfl⟩:=hget j p hp
  have:=I.obs j q hq
  cases q with
  |pv cs=>
   obtain⟨h1,b,vs,e',h2,h3,h4,h5,h6,h7,h8⟩:=this
   refine⟨h1,b,vs,e',h2,h3,h4,by simpa using h5,fun i x u hx hu=>?_,h7,h8⟩
   simp only[List.getElem?_map,Option.map_eq_some_iff] at hx
   obtain⟨y,hy,rfl⟩:=hx
   exact(h6 i y u hy hu).pubd I hk
  |gr=>exact this
  |x=>exact this
  |dead=>exact this
  |new=>exact this
 ·obtain⟨q,hq,rfl⟩:=hget i p hp
  obtain⟨q',hq',rfl⟩:=hget j p' hp'
  exact I.dis i j q q' b hne hq hq' (hat i q b hb) (hat j q' b hb')
def varP (ns:List Nd)(i:Nat):Option ByteArray:=if(ns.getD i default).op=20∨(ns.getD i default).op=19 then some (ns.getD i default).text else none
noncomputable def varsL (ns:List Nd):List ByteArray:=if treeM ns=0 then gI (varP ns) ns.length else []
theorem VarsOf_fn (ns:List Nd)(hf:fitsT ns):Fun env.P 11 [nodesD ns] (.agg [vI .i64 (treeM ns),.og 0 0]) [.gr 1 9 ((varsL ns).map keyRow) 0 false]:=by
 have ht:=TreeFault_fn ns hf.2 hf.1
 have hl:=hf.2
 unfold varsL
 generalize treeM ns=c at ht
 by_cases hc:c=0
 ·subst hc
  rw[if_pos rfl]
  refine Fun.intro Tryz.func11 rfl (by kernel_rfl) rfl ?_
  repeat'(first|refine Z1 ?_|refine WG.c (E:=env) rfl rfl (ht) rfl rfl ?_|((refine SP (fun h=>?_) fun h=>?_)<;>(try(exfalso;first|contradiction|omega))))
  refine W.loopI (fun m S=> ∃(i:Nat) (rv:List (List D)),m=ns.length - i∧(i≤ns.length∧rv=(gD (varP ns) i).map keyRow)∧S=⟨ofL [(2,.lp 0 0),(4,.og 1 0),(14,.d (nodesD ns)),(15,vI .i64 (ns.map Nd.row).length),(16,vI .i64 i)],[.pv [.d (dI 0),.d (.nl 1)],.gr 1 9 rv 0 false]⟩) _ _ ⟨0,[],rfl,⟨by omega,rfl⟩,rfl⟩ (St.imp.of_le lE) ?_
  rintro m S ⟨i,rv,rfl,⟨hi,rfl⟩,rfl⟩
  have hdl:=gD_len (varP ns) i
  by_cases hin:i<ns.length
  ·have hn:ns.getD (Int.toNat (i:Int)) default=ns.getD i default:=by simp
   have hps:(ns.getD (Int.toNat (i:Int)) default).op=20∨(ns.getD (Int.toNat (i:Int)) default).op=19→varP ns i=some (ns.getD (Int.toNat (i:Int)) default).text:=by rw[hn];exact fun h=>if_pos h
   have hpn:¬(ns.getD (Int.toNat (i:Int)) default).op=20→¬(ns.getD (Int.toNat (i:Int)) default).op=19→varP ns i=none:=by rw[hn];exact fun h1 h2=>if_neg fun h=>h.elim h1 h2
   have hct:=containsS_fn (gD (varP ns) i) (ns.getD (Int.toNat (i:Int)) default).text (by omega)
   repeat'(first|refine Z1 ?_|refine WG.cL (E:=env) rfl rfl (hct) rfl rfl rfl rfl ?_|((refine SP (fun h=>?_) fun h=>?_)<;>(try(exfalso;first|contradiction|omega))))
   all_goals first
    |(refine⟨_,_,by omega,⟨i+1,(gD (varP ns) i).map keyRow++[keyRow (ns.getD (Int.toNat (i:Int)) default).text],rfl,⟨by omega,?_⟩,rfl⟩,(St.imp.rev 1 1 rfl).trans (St.imp.of_le lE)⟩
      rw[gD_step (hps (by first|exact .inl (by assumption)|exact .inr (by assumption))) (by assumption),List.map_append]
      rfl)
    |(refine⟨_,_,by omega,⟨i+1,(gD (varP ns) i).map keyRow,rfl,⟨by omega,?_⟩,rfl⟩,(St.imp.of_le lE)⟩
      first|rw[gD_same (hps (by first|exact .inl (by assumption)|exact .inr (by assumption))) (by assumption)]|rw[gD_none (hpn (by assumption) (by assumption))])
  ·obtain rfl:i=ns.length:=by omega
   have hso:=slicesSort_fn (gD (varP ns) ns.length) (by omega)
   rw[srt_gD] at hso
   repeat'(first|refine Z1 ?_|refine WG.cq (E:=env) [1] [0] false rfl rfl (hso) rfl rfl rfl rfl rfl rfl rfl (by first|exact trivial|exact⟨rfl,trivial⟩|exact⟨rfl,rfl,trivial⟩) (.inl rfl) rfl (fun h=>nomatch h) rfl rfl ?_|((refine SP (fun h=>?_) fun h=>?_)<;>(try(exfalso;first|contradiction|omega))))
   (refine W.ret ?_;first|refine RetR.g' ?_|refine RetR.ag' ?_ ?_|refine RetR.agn' ?_|exact RetR.gn'|refine RetR.ag3' ?_ ?_ ?_|refine RetR.agn3' ?_ ?_)
   all_goals rfl
 ·rw[if_neg hc]
  refine Fun.intro Tryz.func11 rfl (by kernel_rfl) rfl ?_
  repeat'(first|refine Z1 ?_|refine WG.c (E:=env) rfl rfl (ht) rfl rfl ?_|((refine SP (fun h=>?_) fun h=>?_)<;>(try(exfalso;first|contradiction|omega))))
  all_goals (refine W.ret ?_;first|refine RetR.g' ?_|refine RetR.ag' ?_ ?_|refine RetR.agn' ?_|exact RetR.gn'|refine RetR.ag3' ?_ ?_ ?_|refine RetR.agn3' ?_ ?_)
  all_goals rfl
theorem bnd_in {cs:List Co}(hok:NcOK cs): ∀(f k:Nat) (sl:List Int),k<cs.length→bndF cs f k sl=true→k<f→ ∀j∈full (nmC cs) k,(cs.getD j default).op=15→
 (cs.getD j default).num∈sl∨ ∃n∈cs,(n.op=14∨n.op=13)∧n.num=(cs.getD j default).num
 |0,k,sl,hk,h,hkf,j,hj,h15=>by omega
 |f+1,k,sl,hk,h,hkf,j,hj,h15=>by
  rw[bndF,Bool.and_eq_true] at h
  rw[full_eq,List.mem_append] at hj
  rcases hj with hj|hj
  ·obtain⟨m,hm,hjm⟩:=List.mem_flatMap.1 hj
   obtain⟨i,hi,rfl⟩:=List.getElem_of_mem hm
   have hlt:(kidsOf (nmC cs) k)[i]<k:=kidsOf_lt hm
   have hb:bndF cs f (kidsOf (nmC cs) k)[i] (inC (cs.getD k default) i sl)=true:=by
    cases hq:bndF cs f (kidsOf (nmC cs) k)[i] (inC (cs.getD k default) i sl) with
    |true=>rfl
    |false=>
     have:=allK_false (f:=fun i j=>bndF cs f j (inC (cs.getD k default) i sl)) (l:=kidsOf (nmC cs) k) (q:=0) (i:=i) hi (by simp only[Nat.zero_add];rw[show(kidsOf (nmC cs) k).getD i default=(kidsOf (nmC cs) k)[i] by simp[hi]];exact hq)
     rw[this] at h
     exact absurd h.2 (by simp)
   rcases bnd_in hok f _ _ (by omega) hb (by omega) j hjm h15 with h1|h1
   ·unfold inC at h1
    split at h1
    ·rename_i hc
     rcases List.mem_append.1 h1 with h2|h2
     ·exact .inl h2
     ·refine .inr ⟨cs.getD k default,getD_mem' hk,?_,(List.mem_singleton.1 h2).symm⟩
      rcases hc with hc|hc
      ·exact .inl hc.1
      ·exact .inr hc.1
    ·exact .inl h1
   ·exact .inr h1
  ·have:j=k:=by simpa using hj
   subst this
   have h1:=h.1
   rw[h15] at h1
   exact .inl (by simpa [hasI] using h1)
def maxK (p:Int→Bool)(cs:List Co):Int:=cs.foldl (fun x n=>if p n.op=true then max x (n.num+1) else x) 0
theorem maxK_take (p:Int→Bool)(cs:List Co)(k:Nat)(h:k<cs.length):maxK p (cs.take (k+1))=if p (cs.getD k default).op=true then max (maxK p (cs.take k)) ((cs.getD k default).num+1) else maxK p (cs.take k):=by
 rw[take_step h]
 simp[maxK]
theorem maxK_le' (p:Int→Bool)(b:Int): ∀(cs:List Co) (x:Int),cs.foldl (fun x n=>if p n.op=true then max x (n.num+1) else x) x≤b↔x≤b∧ ∀n∈cs,p n.op=true→n.num+1≤b
 |[],x=>by simp
 |n::r,x=>by
  rw[List.foldl_cons,maxK_le' p b r]
  by_cases h:p n.op=true
  ·rw[if_pos h]
   constructor
   ·intro⟨h1,h2⟩
    refine⟨by omega,fun m hm hp=>?_⟩
    rcases List.mem_cons.1 hm with rfl|hm
    ·omega
    ·exact h2 m hm hp
   ·intro⟨h1,h2⟩
    exact⟨by have:=h2 n (List.mem_cons_self ..) h;omega,fun m hm hp=>h2 m (List.mem_cons_of_mem _ hm) hp⟩
  ·rw[if_neg h]
   constructor
   ·intro⟨h1,h2⟩
    refine⟨h1,fun m hm hp=>?_⟩
    rcases List.mem_cons.1 hm with rfl|hm
    ·exact absurd hp h
    ·exact h2 m hm hp
   ·intro⟨h1,h2⟩
    exact⟨h1,fun m hm hp=>h2 m (List.mem_cons_of_mem _ hm) hp⟩
theorem maxK_le (p:Int→Bool)(b:Int)(cs:List Co):maxK p cs≤b↔0≤b∧ ∀n∈cs,p n.op=true→n.num+1≤b:=maxK_le' p b cs 0
def pI (op:Int):Bool:=decide (op=13∨op=14∨op=15)
def pS (op:Int):Bool:=decide (op=14∨op=13)
theorem coreM_ok {cs:List Co}(h:coreM cs=0):(1≤cs.length∧cs.length≤900)∧firstK (cCode cs) cs.length 0=0∧full (nmC cs) (cs.length - 1)=List.range cs.length∧bndF cs cs.length (cs.length - 1) []=true∧nestM (nmC cs) (cs.length - 1)≤120:=by
 unfold coreM at h
 split at h
 ·cases h
 rename_i h1
 have h1:=Classical.not_not.1 h1
 split at h
 ·rename_i h2;exact absurd h h2
 rename_i h2
 split at h
 ·cases h
 rename_i h3
 split at h
 ·cases h
 rename_i h4
 split at h
 ·cases h
 rename_i h5
 refine⟨h1,Classical.not_not.1 h2,?_,by simpa using h4,by omega⟩
 have:=begM_zero.1 (Classical.not_not.1 h3)
 rw[this,show cs.length - 1+1=cs.length by omega]
theorem coreC_num {n:Co}{k:Nat}(h:coreC n k=0):numOkC n=true:=by
 unfold coreC at h
 split at h
 ·cases h
 split at h
 ·cases h
 split at h
 ·rename_i h1;exact absurd h h1.2
 split at h
 ·cases h
 split at h
 ·cases h
 rename_i h1
 simpa using h1
theorem numOkC_var {n:Co}(h:numOkC n=true)(hp:pI n.op=true):0≤n.num∧n.num≤59:=by
 have hp':n.op=13∨n.op=14∨n.op=15:=by simpa [pI] using hp
 unfold numOkC numLoC numHiC hasNc at h
 rcases hp' with e|e|e<;>simpa [e] using h
theorem cores_num {cs:List Co}(h:coreM cs=0): ∀n∈cs,pI n.op=true→0≤n.num∧n.num≤59:=fun n hn hp=>by
 obtain⟨k,hk,rfl⟩:=List.getElem_of_mem hn
 have:=coreC_num (firstK_zero (coreM_ok h).2.1 k (by omega) (by omega))
 rw[show cs.getD k default=cs[k] by simp[hk]] at this
 exact numOkC_var this hp
theorem slots_eq {cs:List Co}(h:coreM cs=0):maxK pI cs=maxK pS cs:=by
 have hn:=cores_num h
 obtain⟨⟨h1,h2⟩,h3,h4,h5,h6⟩:=coreM_ok h
 have hok:=ncOK_of h3
 apply Int.le_antisymm
 ·refine(maxK_le _ _ _).2 ⟨((maxK_le pS _ cs).1 (Int.le_refl _)).1,fun n hm hp=>?_⟩
  have hle:=((maxK_le pS _ cs).1 (Int.le_refl _)).2
  by_cases hs:pS n.op=true
  ·exact hle n hm hs
  ·have h15:n.op=15:=by
    have:n.op=13∨n.op=14∨n.op=15:=by simpa [pI] using hp
    have:¬(n.op=14∨n.op=13):=by simpa [pS] using hs
    omega
   obtain⟨k,hk,rfl⟩:=List.getElem_of_mem hm
   have hj:k∈full (nmC cs) (cs.length - 1):=by rw[h4];exact List.mem_range.2 hk
   have e:cs.getD k default=cs[k]:=by simp[hk]
   rcases bnd_in hok _ _ _ (by omega) h5 (by omega) k hj (by rw[e];exact h15) with q|⟨m,hm2,ho,he⟩
   ·cases q
   ·have:=hle m hm2 (by simpa [pS] using ho)
    rw[e] at he
    omega
 ·refine(maxK_le _ _ _).2 ⟨((maxK_le pI _ cs).1 (Int.le_refl _)).1,fun n hm hp=>((maxK_le pI _ cs).1 (Int.le_refl _)).2 n hm ?_⟩
  have:n.op=14∨n.op=13:=by simpa [pS] using hp
  have:n.op=13∨n.op=14∨n.op=15:=by omega
  simpa [pI] using this
noncomputable def slotsM (cs:List Co):Int:=if coreM cs=0 then maxK pS cs else 0
theorem SlotsOf_fn (cs:List Co)(hf:fitsK cs):Fun env.P 10 [coresD cs] (.d (.agg [dI (coreM cs),dI (slotsM cs)])) []:=by
 have ht:=CoreFault_fn cs hf.2 hf.1
 have hl:=hf.2
 have hnm:=@cores_num cs
 have hse:=@slots_eq cs
 unfold slotsM
 generalize coreM cs=c at ht hnm hse
 by_cases hc:c=0
 ·subst hc
  rw[if_pos rfl,←hse rfl]
  replace hnm:=hnm rfl
  refine Fun.intro Tryz.func10 rfl (by kernel_rfl) rfl ?_
  repeat'(first|refine Z1 ?_|refine WG.c (E:=env) rfl rfl (ht) rfl rfl ?_|((refine SP (fun h=>?_) fun h=>?_)<;>(try(exfalso;first|contradiction|omega))))
  refine W.loopI (fun m S=> ∃(i:Nat) (x:Int),m=cs.length - i∧(i≤cs.length∧x=maxK pI (cs.take i))∧S=⟨ofL [(2,.lp 0 0),(4,.lp 1 0),(14,.d (coresD cs)),(15,vI .i64 (cs.map Co.row).length),(16,vI .i64 i)],[.pv [.d (dI 0),.d (dI 0)],.pv [.d (dI 0),.d (dI x)]]⟩) _ _ ⟨0,0,rfl,⟨by omega,by simp[maxK]⟩,rfl⟩ (St.imp.of_le lE) ?_
  rintro m S ⟨i,x,rfl,⟨hi,hx⟩,rfl⟩
  by_cases hin:i<cs.length
  ·have hu:=maxK_take pI cs i hin
   have hn:pI (cs.getD (Int.toNat (i:Int)) default).op=true→0≤(cs.getD (Int.toNat (i:Int)) default).num∧(cs.getD (Int.toNat (i:Int)) default).num≤59:=by
    rw[Int.toNat_natCast]
    exact hnm _ (getD_mem' hin)
   simp only[pI,decide_eq_true_eq] at hn
   repeat'(first|refine Z1 ?_|((refine SP (fun h=>?_) fun h=>?_)<;>(try(exfalso;first|contradiction|omega))))
   all_goals (try simp only[Int.toNat_natCast] at *)
   all_goals first
    |exact⟨_,_,by omega,⟨i+1,max x ((cs.getD i default).num+1),rfl,⟨by omega,by rw[hu,if_pos (by simp only[pI,decide_eq_true_eq];omega),hx]⟩,rfl⟩,(St.imp.of_le lE)⟩
    |exact⟨_,_,by omega,⟨i+1,x,rfl,⟨by omega,by rw[hu,if_neg (by simp only[pI,decide_eq_true_eq];omega),hx]⟩,rfl⟩,(St.imp.of_le lE)⟩
  ·repeat'(first|refine Z1 ?_|((refine SP (fun h=>?_) fun h=>?_)<;>(try(exfalso;first|contradiction|omega))))
   (refine W.ret ?_;(first|refine RetQ.d' ?_))
   rw[hx,show i=cs.length by omega,List.take_length]
   rfl
 ·rw[if_neg hc]
  refine Fun.intro Tryz.func10 rfl (by kernel_rfl) rfl ?_
  repeat'(first|refine Z1 ?_|refine WG.c (E:=env) rfl rfl (ht) rfl rfl ?_|((refine SP (fun h=>?_) fun h=>?_)<;>(try(exfalso;first|contradiction|omega))))
  all_goals (refine W.ret ?_;(first|refine RetQ.d' ?_))
  all_goals rfl
mutual
def Pt.all (q:Int→Int→Prop):Pt→Prop
 |.mk n kids=>q n.op n.num∧Pt.alls q kids
def Pt.alls (q:Int→Int→Prop):List Pt→Prop
 |[]=>True
 |p::r=>p.all q∧Pt.alls q r
end
mutual
theorem Pt.all_flat {q:Int→Int→Prop}: ∀(p:Pt) (b:Nat),p.all q→ ∀n∈p.flat b,q n.op n.num
 |.mk n kids,b,h,x,hx=>by
  simp only[Pt.flat,List.mem_append,List.mem_singleton] at hx
  rcases hx with hx|rfl
  ·exact Pt.alls_flat kids b h.2 x hx
  ·exact h.1
theorem Pt.alls_flat {q:Int→Int→Prop}: ∀(l:List Pt) (b:Nat),Pt.alls q l→ ∀n∈Pt.flats l b,q n.op n.num
 |[],b,h,x,hx=>by cases hx
 |p::r,b,h,x,hx=>by
  simp only[Pt.flats,List.mem_append] at hx
  rcases hx with hx|hx
  ·exact Pt.all_flat p b h.1 x hx
  ·exact Pt.alls_flat r _ h.2 x hx
end
theorem valOf_cell {k num:Int}{t:ByteArray}(hc:cellCode ⟨k,num,t,noS,0⟩=0):(valOfM [⟨k,num,t,noS,0⟩]).2=0∧(valOfM [⟨k,num,t,noS,0⟩]).1.kind=k:=by
 have h1:cellsCode [⟨k,num,t,noS,0⟩]=0:=by simp[cellsCode,hc]
 have h2:valAtM [⟨k,num,t,noS,0⟩] 2 0=some (.mk k num t [] [],1):=rfl
 unfold valOfM
 rw[if_neg (by simp),h1,if_neg (by simp)]
 rw[show([⟨k,num,t,noS,0⟩]:List Cell).length+1=2 from rfl,h2]
 simp[V.depth,V.depths,V.kind]
theorem cellCode_kind {k:Int}(h0:0≤k)(h6:k≤6):cellCode ⟨k,0,noS,noS,0⟩=0:=by
 have:k=0∨k=1∨k=2∨k=3∨k=4∨k=5∨k=6:=by omega
 rcases this with rfl|rfl|rfl|rfl|rfl|rfl|rfl<;>rfl
theorem cellCode_num {n:Int}(h0:0≤n)(h1:n≤1000000000000000):cellCode ⟨3,n,noS,noS,0⟩=0:=by
 have e:okText noS=true:=rfl
 unfold cellCode
 simp[holdsK,e]
 omega
theorem cellCode_text {t:ByteArray}(h:okText t=true):cellCode ⟨4,0,t,noS,0⟩=0:=by
 have e:okText noS=true:=rfl
 unfold cellCode
 simp[holdsK,e,h]
structure PtOK (q:Int→Int→Prop) (p:Pt) (sl:List Int) (d:Nat):Prop where
 wf:p.wf
 fair:p.fair
 bnd:p.bnd sl
 all:p.all q
 deep:p.depth≤d
section
variable {q:Int→Int→Prop}{sl:List Int}{d d1 d2 d3:Nat}{A B C:Pt}
theorem PtOK.mono (h:PtOK q A sl d){d':Nat}(hd:d≤d'):PtOK q A sl d':=⟨h.wf,h.fair,h.bnd,h.all,by have:=h.deep;omega⟩
theorem PtOK.cv {cs:List Cell}(hq:q 2 0)(hc:(valOfM cs).2=0):PtOK q (.cv cs) sl 1:=
 ⟨⟨rfl,trivial⟩,⟨⟨⟨show(1:Int)≤2 by decide,show(2:Int)≤17 by decide⟩,⟨rfl,rfl,rfl⟩,.inr rfl,by rw[if_pos (show hasVl 2=true from rfl)];exact⟨hc,fun h=>absurd (show(2:Int)=11 from h) (by decide)⟩,rfl⟩,trivial⟩,⟨fun h=>absurd (show(2:Int)=15 from h) (by decide),trivial⟩,⟨hq,trivial⟩,Nat.le_refl _⟩
theorem PtOK.lf0 {op:Int}(hop:op=1∨op=17)(hq:q op 0):PtOK q (.lf op 0) sl 1:=by
 rcases hop with rfl|rfl<;>
 exact⟨⟨rfl,trivial⟩,⟨⟨⟨by decide,by decide⟩,⟨rfl,rfl,rfl⟩,.inr rfl,rfl,rfl⟩,trivial⟩,⟨fun h=>absurd h (by decide),trivial⟩,⟨hq,trivial⟩,Nat.le_refl _⟩
theorem PtOK.do_ {num:Int}(hn:num=1∨num=2∨num=3∨num=4∨num=5∨num=6∨num=7∨num=8)(hq:q 16 num):PtOK q (.lf 16 num) sl 1:=by
 rcases hn with rfl|rfl|rfl|rfl|rfl|rfl|rfl|rfl<;>
 exact⟨⟨rfl,trivial⟩,⟨⟨⟨by decide,by decide⟩,⟨rfl,rfl,rfl⟩,.inl rfl,rfl,rfl⟩,trivial⟩,⟨fun h=>absurd h (by decide),trivial⟩,⟨hq,trivial⟩,Nat.le_refl _⟩
theorem PtOK.n1 {op:Int}(hop:op=8∨op=9∨op=10)(hq:q op 0)(hA:PtOK q A sl d1)(hd:d1+1≤d):PtOK q (.n1 op A) sl d:=by
 have h1:=hA.deep
 refine⟨⟨?_,hA.wf,trivial⟩,⟨?_,hA.fair,trivial⟩,⟨fun h=>absurd h (by show ¬op=15;omega),?_⟩,⟨hq,hA.all,trivial⟩,?_⟩
 ·rcases hop with rfl|rfl|rfl<;>rfl
 ·rcases hop with rfl|rfl|rfl<;>exact⟨⟨by decide,by decide⟩,⟨rfl,rfl,rfl⟩,.inr rfl,rfl,rfl⟩
 ·refine⟨?_,trivial⟩
  have:inC ⟨op,0,0,0,0,[]⟩ 0 sl=sl:=by
   unfold inC
   rw[if_neg]
   rintro(⟨h,_⟩|⟨h,_⟩)
   ·have h:op=14:=h;omega
   ·have h:op=13:=h;omega
  rw[this]
  exact hA.bnd
 ·simp only[Pt.n1,Pt.depth,Pt.depths];omega
theorem PtOK.pipe (hq:q 3 0)(hA:PtOK q A sl d1)(hB:PtOK q B sl d2)(h1:d1+1≤d)(h2:d2+1≤d):PtOK q (.n2 3 0 [] A B) sl d:=by
 have h3:=hA.deep
 have h4:=hB.deep
 refine⟨⟨rfl,hA.wf,hB.wf,trivial⟩,⟨⟨⟨by decide,by decide⟩,⟨rfl,rfl,rfl⟩,.inr rfl,rfl,rfl⟩,hA.fair,hB.fair,trivial⟩,⟨fun h=>absurd h (by decide),hA.bnd,hB.bnd,trivial⟩,⟨hq,hA.all,hB.all,trivial⟩,?_⟩
 simp only[Pt.n2,Pt.depth,Pt.depths];omega
theorem PtOK.if_ (hq:q 12 0)(hA:PtOK q A sl d1)(hB:PtOK q B sl d2)(hC:PtOK q C sl d3)(h1:d1+1≤d)(h2:d2+1≤d)(h3:d3+1≤d):PtOK q (.n3 12 0 A B C) sl d:=by
 have h4:=hA.deep
 have h5:=hB.deep
 have h6:=hC.deep
 refine⟨⟨rfl,hA.wf,hB.wf,hC.wf,trivial⟩,⟨⟨⟨by decide,by decide⟩,⟨rfl,rfl,rfl⟩,.inr rfl,rfl,rfl⟩,hA.fair,hB.fair,hC.fair,trivial⟩,⟨fun h=>absurd h (by decide),hA.bnd,hB.bnd,hC.bnd,trivial⟩,⟨hq,hA.all,hB.all,hC.all,trivial⟩,?_⟩
 simp only[Pt.n3,Pt.depth,Pt.depths];omega
theorem PtOK.tru (b:Bool)(hq:q 2 0):PtOK q (truP b) sl 1:=by
 refine PtOK.cv hq ?_
 cases b
 ·exact(valOf_cell (cellCode_kind (by decide) (by decide))).1
 ·exact(valOf_cell (cellCode_kind (by decide) (by decide))).1
end
theorem callP_ok {q:Int→Int→Prop}(hq: ∀op num,op≠13→op≠14→q op num){sl:List Int}(t:ByteArray):PtOK q (callP t) sl 3:=by
 unfold callP
 split
 ·exact .if_ (hq _ _ (by decide) (by decide)) (.lf0 (.inl rfl) (hq _ _ (by decide) (by decide))) (.tru _ (hq _ _ (by decide) (by decide))) (.tru _ (hq _ _ (by decide) (by decide))) (by omega) (by omega) (by omega)
 split
 ·exact(PtOK.lf0 (.inr rfl) (hq _ _ (by decide) (by decide))).mono (by omega)
 refine(PtOK.do_ ?_ (hq _ _ (by decide) (by decide))).mono (by omega)
 unfold doM
 repeat' split
 all_goals simp
theorem oneP_ok {q:Int→Int→Prop}(hq: ∀op num,op≠13→op≠14→q op num){sl:List Int}{A:Pt}{d1 d:Nat}(t:ByteArray)(hA:PtOK q A sl d1)(h:d1+2≤d)(h4:4≤d):PtOK q (oneP t A) sl d:=by
 unfold oneP
 split
 ·exact .if_ (hq _ _ (by decide) (by decide)) hA (.lf0 (.inl rfl) (hq _ _ (by decide) (by decide))) (.lf0 (.inr rfl) (hq _ _ (by decide) (by decide))) (by omega) (by omega) (by omega)
 split
 ·exact .n1 (.inr (.inr rfl)) (hq _ _ (by decide) (by decide)) (.pipe (d:=d - 1) (hq _ _ (by decide) (by decide)) (.n1 (d:=2) (.inl rfl) (hq _ _ (by decide) (by decide)) (.lf0 (.inl rfl) (hq _ _ (by decide) (by decide))) (by omega)) hA (by omega) (by omega)) (by omega)
 ·exact .pipe (hq _ _ (by decide) (by decide)) hA (.n1 (d:=2) (.inl rfl) (hq _ _ (by decide) (by decide)) (.do_ (by simp) (hq _ _ (by decide) (by decide))) (by omega)) (by omega) (by omega)
theorem slotL_in {t:ByteArray}{names:List ByteArray}: ∀i,0≤slotL t names i∧(0<i→slotL t names i<i)
 |0=>⟨Int.le_refl _,fun h=>by omega⟩
 |i+1=>by
  have ih:=slotL_in (t:=t) (names:=names) i
  unfold slotL
  split
  ·exact⟨by omega,fun _=>by omega⟩
  ·refine⟨ih.1,fun _=>?_⟩
   rcases i with _|i
   ·show(0:Int)<_;omega
   ·have:=ih.2 (by omega);omega
def slN (n:Nat):List Int:=(List.range n).map fun(j:Nat)=>(j:Int)
theorem slN_mem {n:Nat}{x:Int}(h0:0≤x)(h:x<n):x∈slN n:=List.mem_map.2 ⟨x.toNat,List.mem_range.2 (by omega),by omega⟩
theorem slN_succ (n:Nat):slN (n+1)=slN n++[(n:Int)]:=by simp[slN,List.range_succ]
theorem arC_plain {op:Int}(h1:1≤op)(h2:op≤24)(h:0<plainM op):arC (plainM op)=arN op∧1≤plainM op∧plainM op≤15:=by
 have:op=1∨op=2∨op=3∨op=4∨op=5∨op=6∨op=7∨op=8∨op=9∨op=10∨op=11∨op=12∨op=13∨op=14∨op=15∨op=16∨op=17∨op=18∨op=19∨op=20∨op=21∨op=22∨op=23∨op=24:=by omega
 rcases this with rfl|rfl|rfl|rfl|rfl|rfl|rfl|rfl|rfl|rfl|rfl|rfl|rfl|rfl|rfl|rfl|rfl|rfl|rfl|rfl|rfl|rfl|rfl|rfl<;>first|exact absurd h (by decide)|exact⟨rfl,by decide,by decide⟩
theorem plainM_inv {op:Int}(h1:1≤op)(h2:op≤24):(plainM op=14→op=20)∧(plainM op=13→op=19)∧(plainM op=15→op=21):=by
 have:op=1∨op=2∨op=3∨op=4∨op=5∨op=6∨op=7∨op=8∨op=9∨op=10∨op=11∨op=12∨op=13∨op=14∨op=15∨op=16∨op=17∨op=18∨op=19∨op=20∨op=21∨op=22∨op=23∨op=24:=by omega
 clear h1 h2
 rcases this with rfl|rfl|rfl|rfl|rfl|rfl|rfl|rfl|rfl|rfl|rfl|rfl|rfl|rfl|rfl|rfl|rfl|rfl|rfl|rfl|rfl|rfl|rfl|rfl<;>refine⟨fun h=>?_,fun h=>?_,fun h=>?_⟩<;>first|rfl|exact absurd h (by decide)
theorem inC_plain (n:Nd)(names:List ByteArray)(i:Nat)(h1:1≤n.op)(h2:n.op≤24)(h:0<plainM n.op):inC (plainN n names) i (slN names.length)=slN (inT n i names).length:=by
 have e20:plainM n.op=14↔n.op=20:=⟨(plainM_inv h1 h2).1,fun h=>by rw[h];rfl⟩
 have e19:plainM n.op=13↔n.op=19:=⟨(plainM_inv h1 h2).2.1,fun h=>by rw[h];rfl⟩
 unfold inC inT
 have eo:(plainN n names).op=plainM n.op:=rfl
 rw[eo]
 by_cases hb:(n.op=20∧i=1)∨(n.op=19∧i=2)
 ·rw[if_pos hb,if_pos (hb.elim (fun h=>.inl ⟨e20.2 h.1,h.2⟩) fun h=>.inr ⟨e19.2 h.1,h.2⟩),List.length_append,List.length_singleton,slN_succ]
  congr 1
  have:(plainN n names).num=names.length:=by
   unfold plainN
   simp only
   rw[if_neg (by omega),if_pos (by omega)]
  rw[this]
 ·rw[if_neg hb,if_neg (fun h=>hb (h.elim (fun h=>.inl ⟨e20.1 h.1,h.2⟩) fun h=>.inr ⟨e19.1 h.1,h.2⟩))]
theorem plainN_fair (n:Nd)(names:List ByteArray)(h1:1≤n.op)(h2:n.op≤24)(h:0<plainM n.op)(hl:names.length≤59)(hk:knownB n names=true)(hx:n.op=17→okText n.text=true)(hn:n.op=10→1≤n.num∧n.num≤11):(plainN n names).fair:=by
 have hs:=slotL_in (t:=n.text) (names:=names) names.length
 have hp:=arC_plain h1 h2 h
 refine⟨⟨hp.2.1,by have:=hp.2.2;show plainM n.op≤17;omega⟩,⟨rfl,rfl,rfl⟩,?_⟩
 obtain⟨nop,na,nb,nc,nnum,ntext⟩:=n
 simp only at h1 h2 h hk hx hn hs hp
 have:nop=1∨nop=2∨nop=3∨nop=4∨nop=5∨nop=6∨nop=7∨nop=8∨nop=9∨nop=10∨nop=11∨nop=12∨nop=13∨nop=14∨nop=15∨nop=16∨nop=17∨nop=18∨nop=19∨nop=20∨nop=21∨nop=22∨nop=23∨nop=24:=by omega
 clear h1 h2
 rcases this with rfl|rfl|rfl|rfl|rfl|rfl|rfl|rfl|rfl|rfl|rfl|rfl|rfl|rfl|rfl|rfl|rfl|rfl|rfl|rfl|rfl|rfl|rfl|rfl<;>first|exact absurd h (by decide)|exact⟨.inr rfl,rfl,rfl⟩|skip
 ·obtain⟨q1,q2⟩:=hn rfl
  refine⟨.inl rfl,rfl,?_⟩
  show(if hasNc 6 then decide (numLoC 6≤nnum)&&decide (nnum≤numHiC 6) else true)=true
  simp[hasNc,numLoC,numHiC]
  exact⟨q1,q2⟩
 ·refine⟨.inr rfl,?_,rfl⟩
  show if hasVl 11=true then(valOfM (cellT ntext)).2=0∧((11:Int)=11→(valOfM (cellT ntext)).1.kind=4) else cellT ntext=[]
  have:=valOf_cell (cellCode_text (hx rfl))
  split
  ·exact⟨this.1,fun _=>this.2⟩
  ·rename_i h;exact absurd rfl h
 ·refine⟨.inl rfl,rfl,?_⟩
  show(if hasNc 13 then decide (numLoC 13≤(names.length:Int))&&decide ((names.length:Int)≤numHiC 13) else true)=true
  simp[hasNc,numLoC,numHiC]
  omega
 ·refine⟨.inl rfl,rfl,?_⟩
  show(if hasNc 14 then decide (numLoC 14≤(names.length:Int))&&decide ((names.length:Int)≤numHiC 14) else true)=true
  simp[hasNc,numLoC,numHiC]
  omega
 ·refine⟨.inl rfl,rfl,?_⟩
  show(if hasNc 15 then decide (numLoC 15≤slotM names ntext)&&decide (slotM names ntext≤numHiC 15) else true)=true
  have hlt:slotM names ntext≤59:=by
   unfold slotM
   by_cases h0:0<names.length
   ·have:=hs.2 h0;omega
   ·have:names.length=0:=by omega
    rw[this];show(0:Int)≤59;decide
  have h0:0≤slotM names ntext:=hs.1
  simp[hasNc,numLoC,numHiC]
  omega
theorem lowP_ok {ns:List Nd}(hok: ∀j,j<ns.length→TdK ns j)(q:Int→Int→Prop)(hq: ∀op num,op≠13→op≠14→q op num)(hqb: ∀k,k<ns.length→(ns.getD k default).op=19∨(ns.getD k default).op=20→ ∀(op:Int) (m:Nat),m≤29→q op m):
 ∀(f k:Nat) (names:List ByteArray),k<f→k<ns.length→badM ns f k names=[]→names.length+nestM (nmT ns) k≤30→PtOK q (lowP ns f k names) (slN names.length) (2*nestM (nmT ns) k+1)
 |0,k,names,h,_,_,_=>by omega
 |f+1,k,names,h,hk,hbad,hlen=>by
  have hn:=hok k hk
  obtain⟨n1,n24⟩:=hn.op
  have hke:=kidsT hn
  have hnest: ∀j∈kidsOf (nmT ns) k,nestM (nmT ns) j+1≤nestM (nmT ns) k:=fun j hj=>by
   have:=maxL_mem (f:=nestM (nmT ns)) hj
   rw[nestM_eq (nmT ns) k]
   omega
  have hone:1≤nestM (nmT ns) k:=by rw[nestM_eq];omega
  unfold badM at hbad
  rw[List.append_eq_nil_iff] at hbad
  obtain⟨hb1,hb2⟩:=hbad
  have hknown:knownB (ns.getD k default) names=true:=by
   by_cases h:knownB (ns.getD k default) names=true
   ·exact h
   ·rw[if_neg h] at hb2;cases hb2
  have hin: ∀i,(inT (ns.getD k default) i names).length≤names.length+1:=fun i=>by unfold inT;split<;>simp
  have hbk:(1≤arN (ns.getD k default).op→badM ns f (ns.getD k default).a.toNat (inT (ns.getD k default) 0 names)=[])∧(2≤arN (ns.getD k default).op→badM ns f (ns.getD k default).b.toNat (inT (ns.getD k default) 1 names)=[])∧(3≤arN (ns.getD k default).op→badM ns f (ns.getD k default).c.toNat (inT (ns.getD k default) 2 names)=[]):=by
   rw[hke] at hb1
   have hle:=arN_le (ns.getD k default).op
   generalize arN (ns.getD k default).op=r at*
   have:r=0∨r=1∨r=2∨r=3:=by omega
   rcases this with rfl|rfl|rfl|rfl
   ·exact⟨fun h=>by omega,fun h=>by omega,fun h=>by omega⟩
   ·simp[flatI] at hb1
    exact⟨fun _=>hb1,fun h=>by omega,fun h=>by omega⟩
   ·simp[flatI] at hb1
    exact⟨fun _=>hb1.1,fun _=>hb1.2,fun h=>by omega⟩
   ·simp[flatI] at hb1
    exact⟨fun _=>hb1.1,fun _=>hb1.2.1,fun _=>hb1.2.2⟩
  have hA:1≤arN (ns.getD k default).op→ ∃d,3≤d∧d+2≤2*nestM (nmT ns) k+1∧PtOK q (lowP ns f (ns.getD k default).a.toNat (inT (ns.getD k default) 0 names)) (slN (inT (ns.getD k default) 0 names).length) d:=fun h1=>by
   have ha:=hn.a h1
   have hm:(ns.getD k default).a.toNat∈kidsOf (nmT ns) k:=by
    rw[hke]
    generalize arN (ns.getD k default).op=r at*
    obtain⟨r,rfl⟩: ∃r',r=r'+1:=⟨r - 1,by omega⟩
    simp
   have:=hnest _ hm
   have:=hin 0
   have:=nestM_eq (nmT ns)
   exact⟨_,by rw[this];omega,by omega,lowP_ok hok q hq hqb f _ _ (by omega) (by omega) (hbk.1 h1) (by omega)⟩
  have hB:2≤arN (ns.getD k default).op→ ∃d,3≤d∧d+2≤2*nestM (nmT ns) k+1∧PtOK q (lowP ns f (ns.getD k default).b.toNat (inT (ns.getD k default) 1 names)) (slN (inT (ns.getD k default) 1 names).length) d:=fun h1=>by
   have ha:=hn.b h1
   have hm:(ns.getD k default).b.toNat∈kidsOf (nmT ns) k:=by
    rw[hke]
    generalize arN (ns.getD k default).op=r at*
    obtain⟨r,rfl⟩: ∃r',r=r'+2:=⟨r - 2,by omega⟩
    simp
   have:=hnest _ hm
   have:=hin 1
   have:=nestM_eq (nmT ns)
   exact⟨_,by rw[this];omega,by omega,lowP_ok hok q hq hqb f _ _ (by omega) (by omega) (hbk.2.1 h1) (by omega)⟩
  have hC:3≤arN (ns.getD k default).op→ ∃d,3≤d∧d+2≤2*nestM (nmT ns) k+1∧PtOK q (lowP ns f (ns.getD k default).c.toNat (inT (ns.getD k default) 2 names)) (slN (inT (ns.getD k default) 2 names).length) d:=fun h1=>by
   have ha:=hn.c h1
   have hm:(ns.getD k default).c.toNat∈kidsOf (nmT ns) k:=by
    rw[hke]
    generalize arN (ns.getD k default).op=r at*
    obtain⟨r,rfl⟩: ∃r',r=r'+3:=⟨r - 3,by omega⟩
    simp
   have:=hnest _ hm
   have:=hin 2
   have:=nestM_eq (nmT ns)
   exact⟨_,by rw[this];omega,by omega,lowP_ok hok q hq hqb f _ _ (by omega) (by omega) (hbk.2.2 h1) (by omega)⟩
  have hqb:=hqb k hk
  have t3:=hn.tx
  have m2:=hn.num2
  have m4:=hn.num4
  have m10:=hn.num10
  unfold lowP
  generalize lowP ns f (ns.getD k default).a.toNat _=A at*
  generalize lowP ns f (ns.getD k default).b.toNat _=B at*
  generalize lowP ns f (ns.getD k default).c.toNat _=C at*
  clear hn hke hb1 hb2 hbk
  generalize ns.getD k default=n at*
  have hl59:names.length≤29:=by omega
  generalize nestM (nmT ns) k=e at*
  have hin0:inT n 0 names=names:=by unfold inT;rw[if_neg (by omega)]
  have hin1:n.op≠20→inT n 1 names=names:=fun h=>by unfold inT;rw[if_neg (by omega)]
  have hin2:n.op≠19→inT n 2 names=names:=fun h=>by unfold inT;rw[if_neg (by omega)]
  unfold lowB
  by_cases hpl:0<plainM n.op
  ·rw[if_pos hpl]
   obtain⟨p1,p2,p3⟩:=arC_plain n1 n24 hpl
   have hf:=plainN_fair n names n1 n24 hpl (by omega) hknown (fun h=>t3 (.inr h)) m10
   have hic:=fun i=>inC_plain n names i n1 n24 hpl
   have hqn:q (plainN n names).op (plainN n names).num:=by
    by_cases hb:n.op=19∨n.op=20
    ·have:(plainN n names).num=(names.length:Nat):=by
      unfold plainN
      simp only
      rw[if_neg (by omega),if_pos hb]
     rw[this]
     exact hqb hb _ _ hl59
    ·refine hq _ _ ?_ ?_
     ·show plainM n.op≠13
      intro h;exact hb (.inl ((plainM_inv n1 n24).2.1 h))
     ·show plainM n.op≠14
      intro h;exact hb (.inr ((plainM_inv n1 n24).1 h))
   have h15:(plainN n names).op=15→(plainN n names).num∈slN names.length:=fun h=>by
    have h:plainM n.op=15:=h
    have e21:n.op=21:=(plainM_inv n1 n24).2.2 h
    have:(plainN n names).num=slotM names n.text:=by
     unfold plainN
     simp only
     rw[if_neg (by omega),if_neg (by omega),if_pos e21]
    rw[this]
    have hkn:n.text∈names:=by
     unfold knownB at hknown
     rw[if_pos e21] at hknown
     exact among_iff2.1 hknown
    have h0:0<names.length:=List.length_pos_of_mem hkn
    have hs:=slotL_in (t:=n.text) (names:=names) names.length
    exact slN_mem hs.1 (hs.2 h0)
   have hle:=arN_le n.op
   have hlen2:([A,B,C].take (arN n.op)).length=arC (plainN n names).op:=by
    show _=arC (plainM n.op)
    rw[p1];simp;omega
   have h012:arN n.op=0∨arN n.op=1∨arN n.op=2∨arN n.op=3:=by omega
   rcases h012 with h|h|h|h
   ·rw[h] at hlen2 ⊢
    exact⟨⟨hlen2,trivial⟩,⟨hf,trivial⟩,⟨h15,trivial⟩,⟨hqn,trivial⟩,by simp[Pt.depth,Pt.depths]⟩
   ·obtain⟨d1,f1,e1,a1⟩:=hA (by omega)
    rw[←hic] at a1
    rw[h] at hlen2 ⊢
    refine⟨⟨hlen2,a1.wf,trivial⟩,⟨hf,a1.fair,trivial⟩,⟨h15,a1.bnd,trivial⟩,⟨hqn,a1.all,trivial⟩,?_⟩
    have:=a1.deep
    simp only[List.take_succ_cons,List.take_zero,Pt.depth,Pt.depths];omega
   ·obtain⟨d1,f1,e1,a1⟩:=hA (by omega)
    obtain⟨d2,f2,e2,a2⟩:=hB (by omega)
    rw[←hic] at a1 a2
    rw[h] at hlen2 ⊢
    refine⟨⟨hlen2,a1.wf,a2.wf,trivial⟩,⟨hf,a1.fair,a2.fair,trivial⟩,⟨h15,a1.bnd,a2.bnd,trivial⟩,⟨hqn,a1.all,a2.all,trivial⟩,?_⟩
    have:=a1.deep
    have:=a2.deep
    simp only[List.take_succ_cons,List.take_zero,Pt.depth,Pt.depths];omega
   ·obtain⟨d1,f1,e1,a1⟩:=hA (by omega)
    obtain⟨d2,f2,e2,a2⟩:=hB (by omega)
    obtain⟨d3,f3,e3,a3⟩:=hC (by omega)
    rw[←hic] at a1 a2 a3
    rw[h] at hlen2 ⊢
    refine⟨⟨hlen2,a1.wf,a2.wf,a3.wf,trivial⟩,⟨hf,a1.fair,a2.fair,a3.fair,trivial⟩,⟨h15,a1.bnd,a2.bnd,a3.bnd,trivial⟩,⟨hqn,a1.all,a2.all,a3.all,trivial⟩,?_⟩
    have:=a1.deep
    have:=a2.deep
    have:=a3.deep
    simp only[List.take_succ_cons,List.take_zero,Pt.depth,Pt.depths];omega
  rw[if_neg hpl]
  have hq': ∀ {op num:Int},op≠13→op≠14→q op num:=fun h1 h2=>hq _ _ h1 h2
  have q2:q 2 0:=hq _ _ (by decide) (by decide)
  by_cases g2:n.op=2
  ·rw[if_pos g2]
   have:=m2 g2
   exact(PtOK.cv q2 (valOf_cell (cellCode_num this.1 this.2)).1).mono (by omega)
  rw[if_neg g2]
  by_cases g3:n.op=3
  ·rw[if_pos g3]
   exact(PtOK.cv q2 (valOf_cell (cellCode_text (t3 (.inl g3)))).1).mono (by omega)
  rw[if_neg g3]
  by_cases g4:n.op=4
  ·rw[if_pos g4]
   have:=m4 g4
   exact(PtOK.cv q2 (valOf_cell (cellCode_kind this.1 (by omega))).1).mono (by omega)
  rw[if_neg g4]
  by_cases g15:n.op=15
  ·rw[if_pos g15]
   exact(PtOK.cv q2 (valOf_cell (cellCode_kind (by decide) (by decide))).1).mono (by omega)
  rw[if_neg g15]
  by_cases g16:n.op=16
  ·rw[if_pos g16]
   exact(PtOK.cv q2 (valOf_cell (cellCode_kind (by decide) (by decide))).1).mono (by omega)
  rw[if_neg g16]
  by_cases g24:n.op=24
  ·rw[if_pos g24]
   exact .n1 (.inl rfl) (hq' (by decide) (by decide)) (.do_ (by simp) (hq' (by decide) (by decide))) (by omega)
  rw[if_neg g24]
  have q12:q 12 0:=hq _ _ (by decide) (by decide)
  by_cases g8:n.op=8
  ·rw[if_pos g8]
   have ar:arN n.op=2:=by rw[g8];rfl
   obtain⟨d1,f1,e1,a1⟩:=hA (by omega)
   obtain⟨d2,f2,e2,a2⟩:=hB (by omega)
   rw[hin0] at a1
   rw[hin1 (by omega)] at a2
   by_cases he:2≤e
   ·exact .if_ q12 a1 (.tru _ q2) (.if_ (d:=2*e) q12 a2 (.tru _ q2) (.tru _ q2) (by omega) (by omega) (by omega)) (by omega) (by omega) (by omega)
   ·omega
  rw[if_neg g8]
  by_cases g9:n.op=9
  ·rw[if_pos g9]
   have ar:arN n.op=2:=by rw[g9];rfl
   obtain⟨d1,f1,e1,a1⟩:=hA (by omega)
   obtain⟨d2,f2,e2,a2⟩:=hB (by omega)
   rw[hin0] at a1
   rw[hin1 (by omega)] at a2
   exact .if_ q12 a1 (.if_ (d:=2*e) q12 a2 (.tru _ q2) (.tru _ q2) (by omega) (by omega) (by omega)) (.tru _ q2) (by omega) (by omega) (by omega)
  rw[if_neg g9]
  by_cases g23:n.op=23
  ·rw[if_pos g23]
   have ar:arN n.op=1:=by rw[g23];rfl
   obtain⟨d1,f1,e1,a1⟩:=hA (by omega)
   rw[hin0] at a1
   exact oneP_ok hq _ a1 (by omega) (by omega)
  rw[if_neg g23]
  exact(callP_ok hq _).mono (by omega)
end Go.Proofs.YtmmjbpgdkokjgaaGreatDoor
