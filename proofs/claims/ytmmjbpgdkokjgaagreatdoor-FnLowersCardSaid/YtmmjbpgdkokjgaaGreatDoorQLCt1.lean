/-
  A text of this claim. Conditions: none.
-/
import Derived.Test.YtmmjbpgdkokjgaaGreatDoorQLOnD
import Derived.Test.YtmmjbpgdkokjgaaGreatDoorQLV2
import Derived.Test.YtmmjbpgdkokjgaaGreatDoorQLOn0
import Derived.Test.YtmmjbpgdkokjgaaGreatDoorQLPgF
import Derived.Test.YtmmjbpgdkokjgaaGreatDoorQLPgE
import Derived.Shelf.Strings.Builder1
import Derived.Lib.AppendStr
import Derived.Test.YtmmjbpgdkokjgaaGreatDoorQLPgC
import Derived.Lib.UnsafeStr
import Derived.Lib.AppendIntMem
import Derived.Test.YtmmjbpgdkokjgaaGreatDoorQLOr1
import Derived.Test.YtmmjbpgdkokjgaaGreatDoorQLPgG
set_option linter.unusedVariables false
set_option linter.unusedSimpArgs false
set_option maxRecDepth 100000
set_option maxHeartbeats 16000000
namespace Go.Proofs.YtmmjbpgdkokjgaaGreatDoor
open Go.RowKit
def qN (s:ByteArray)(k:Nat):ByteArray:=⟨(34::escL (s.data.toList.take k)).toArray⟩
def quoted (s:ByteArray):ByteArray:=⟨(34::escL s.data.toList++[34]).toArray⟩
theorem toBA_app (l m:List UInt8):(⟨l.toArray⟩:ByteArray)++⟨m.toArray⟩=⟨(l++m).toArray⟩:=by
 apply ByteArray.ext
 rw[ByteArray.data_append]
 simp
theorem qN_zero (s:ByteArray):qN s 0=⟨#[34]⟩:=by simp[qN,escL]
theorem qN_all (s:ByteArray):qN s s.size++⟨#[34]⟩=quoted s:=by
 unfold qN quoted
 rw[show s.data.toList.take s.size=s.data.toList from List.take_length]
 exact toBA_app _ [34]
theorem quoted_esc (s:ByteArray):(⟨#[34]⟩++escS s)++⟨#[34]⟩=quoted s:=by
 unfold escS quoted
 rw[show(⟨#[34]⟩:ByteArray)++⟨(escL s.data.toList).toArray⟩=⟨([34]++escL s.data.toList).toArray⟩ from toBA_app [34] _]
 exact toBA_app _ [34]
theorem extract_one {s:ByteArray}{i:Nat}(h:i<s.data.toList.length):s.extract (Int.toNat (i:Int)) (Int.toNat ((i:Int)+1))=⟨[s.data.toList[i]].toArray⟩:=by
 rw[show Int.toNat (i:Int)=i by omega,show Int.toNat ((i:Int)+1)=i+1 by omega]
 apply ByteArray.ext
 rw[ByteArray.data_extract]
 apply Array.ext'
 rw[Array.toList_extract]
 simp only[List.extract_eq_take_drop]
 rw[show i+1 - i=1 by omega,List.drop_eq_getElem_cons h]
 rfl
theorem qN_sp {s:ByteArray}{i:Nat}(h:i<s.data.toList.length)(hs:spB s.data.toList[i]=true):(qN s i++⟨#[92]⟩)++⟨[s.data.toList[i]].toArray⟩=qN s (i+1):=by
 unfold qN
 rw[show(⟨(34::escL (s.data.toList.take i)).toArray⟩:ByteArray)++⟨#[92]⟩=⟨((34::escL (s.data.toList.take i))++[92]).toArray⟩ from toBA_app _ [92],toBA_app,escL_step h]
 unfold escC
 rw[if_pos hs]
 simp
theorem qN_plain {s:ByteArray}{i:Nat}(h:i<s.data.toList.length)(hs:spB s.data.toList[i]=false):qN s i++⟨[s.data.toList[i]].toArray⟩=qN s (i+1):=by
 unfold qN
 rw[toBA_app,escL_step h]
 unfold escC
 rw[if_neg (by rw[hs];decide)]
 simp
theorem qN_size (s:ByteArray)(i:Nat):(qN s i).size=eN s i+1:=by
 show(List.toArray _).size=_
 rw[List.size_toArray,List.length_cons]
 rfl
theorem ba_size (a b:ByteArray):(a++b).size=a.size+b.size:=ByteArray.size_append
theorem l2Quote_fn (s:ByteArray)(hs:s.size≤1048576):Fun env.P 97 [dS s] (.d (dS (quoted s))) []:=by
 have s92:(⟨#[92]⟩:ByteArray).size=1:=rfl
 have s34:(⟨#[34]⟩:ByteArray).size=1:=rfl
 refine Fun.intro Tryz.func97 rfl (by kernel_rfl) rfl ?_
 repeat'(first|refine Z1 ?_|((refine SP (fun h=>?_) fun h=>?_)<;>(try(exfalso;first|contradiction|omega))))
 refine W.loop (fun m S=> ∃(i:Nat) (b:ByteArray),m=s.size - i∧(i≤s.size∧b=qN s i)∧S=⟨ofL [(0,vS s),(3,vS b),(4,vI .i64 i)],[]⟩) _ _ ⟨0,⟨#[34]⟩,rfl,⟨by omega,(qN_zero s).symm⟩,rfl⟩ lE ?_
 rintro m S ⟨i,b,rfl,⟨hi,hb⟩,rfl⟩
 have hge:=eN_ge s i hi
 have hbz:b.size=eN s i+1:=by rw[hb,qN_size]
 by_cases hlt:i<s.size
 ·have hby:byteAt s (Int.toNat (i:Int))=((s.data.toList[i]'hlt).toNat:Int):=byte_at hlt
  have hex:=extract_one (s:=s) (i:=i) hlt
  have hq1:=qN_sp (s:=s) (i:=i) hlt
  have hq2:=qN_plain (s:=s) (i:=i) hlt
  have hxz:(s.extract (Int.toNat (i:Int)) (Int.toNat ((i:Int)+1))).size=1:=by rw[hex];rfl
  have hbz2:=ba_size b ⟨#[92]⟩
  rw[←hb,←hex] at hq1 hq2
  generalize s.data.toList[i]'hlt=c at*
  repeat'(first|refine Z1 ?_|((refine SP (fun h=>?_) fun h=>?_)<;>(try(exfalso;first|contradiction|omega))))
  ·refine⟨_,_,by omega,⟨i+1,(b++⟨#[92]⟩)++s.extract (Int.toNat (i:Int)) (Int.toNat ((i:Int)+1)),rfl,⟨by omega,hq1 ?_⟩,rfl⟩,lE⟩
   have:c=34:=UInt8.toNat_inj.1 (by rw[hby] at h;exact_mod_cast h)
   rw[this];rfl
  ·refine⟨_,_,by omega,⟨i+1,(b++⟨#[92]⟩)++s.extract (Int.toNat (i:Int)) (Int.toNat ((i:Int)+1)),rfl,⟨by omega,hq1 ?_⟩,rfl⟩,lE⟩
   have:c=92:=UInt8.toNat_inj.1 (by rw[hby] at h;exact_mod_cast h)
   rw[this];rfl
  ·refine⟨_,_,by omega,⟨i+1,b++s.extract (Int.toNat (i:Int)) (Int.toNat ((i:Int)+1)),rfl,⟨by omega,hq2 ?_⟩,rfl⟩,lE⟩
   rename_i h0 _
   have e1:¬c=34:=fun e=>by subst e;exact absurd hby (by assumption)
   have e2:¬c=92:=fun e=>by subst e;exact absurd hby (by assumption)
   simp[spB,e1,e2]
 ·obtain rfl:i=s.size:=by omega
  repeat'(first|refine Z1 ?_|((refine SP (fun h=>?_) fun h=>?_)<;>(try(exfalso;first|contradiction|omega))))
  all_goals first|(exfalso;omega)|skip
  rw[hb,qN_all]
  (refine W.ret ?_;(first|refine RetQ.d' ?_))
  rfl
theorem escS_size (s:ByteArray):(escS s).size=eN s s.size:=by
 rw[eN_all]
 show(List.toArray _).size=_
 rw[List.size_toArray]
theorem encodeString_fn (s:ByteArray)(hs:s.size≤1048576):Fun env.P 144 [dS s] (.d (dS (quoted s))) []:=by
 have h1:=NewReplacer_fn
 have h2:=Replace_fn s (escS s) (bsr_fn s hs)
 have s34:(⟨#[34]⟩:ByteArray).size=1:=rfl
 have hge:=eN_ge s s.size (Nat.le_refl _)
 have hz:=escS_size s
 have hbz:=ba_size ⟨#[34]⟩ (escS s)
 refine Fun.intro Tryz.func144 rfl (by kernel_rfl) rfl ?_
 repeat'(first|refine WG.bsD (E:=env) ?_|refine Z1 ?_|refine WG.co (E:=env) rfl rfl (h1) rfl rfl rfl rfl ?_|refine WG.cq (E:=env) [0] [0] false rfl rfl (h2) rfl rfl rfl rfl rfl rfl rfl (by first|exact trivial|exact⟨rfl,trivial⟩|exact⟨rfl,rfl,trivial⟩) (.inl rfl) rfl (fun h=>nomatch h) rfl rfl ?_)
 rw[quoted_esc]
 (refine W.ret ?_;(first|refine RetQ.d' ?_))
 rfl
theorem quoted_size (s:ByteArray):(quoted s).size=eN s s.size+2:=by
 rw[←qN_all,ba_size,qN_size]
 rfl
theorem okText_size {s:ByteArray}(h:okText s=true):s.size≤60:=by
 unfold okText at h
 simp only[Bool.and_eq_true,decide_eq_true_eq] at h
 exact h.2
theorem quoted_small {s:ByteArray}(h:okText s=true):(quoted s).size≤122:=by
 have h1:=okText_size h
 have h2:=eN_ge s s.size (Nat.le_refl _)
 rw[quoted_size]
 omega
theorem noS_ok :okText noS=true:=by decide
theorem ba_assoc (a b c:ByteArray):(a++b)++c=a++(b++c):=ba_eq (by simp[ba_app])
theorem ba_nil (a:ByteArray):(⟨#[]⟩:ByteArray)++a=a:=ba_eq (by simp[ba_app])
def partT (o:Bool)(key t:ByteArray):ByteArray:=if o then(quoted key++⟨#[58]⟩)++t else t
abbrev commaS :ByteArray:=⟨#[44]⟩
mutual
def V.enc :V→ByteArray
 |.mk k n t ks kids=>
  if k=0 then⟨#[110,117,108,108]⟩ else if k=1 then⟨#[102,97,108,115,101]⟩ else if k=2 then⟨#[116,114,117,101]⟩
  else if k=3 then itoaS n else if k=4 then quoted t
  else if k=5 then(⟨#[91]⟩++joinS (V.encs (decide (k=6)) ks kids) commaS)++⟨#[93]⟩ else(⟨#[123]⟩++joinS (V.encs (decide (k=6)) ks kids) commaS)++⟨#[125]⟩
def V.encs (o:Bool):List ByteArray→List V→List ByteArray
 |_,[]=>[]
 |ks,v::r=>partT o (ks.headD noS) (V.enc v)::V.encs o ks.tail r
end
def V.parts (v:V):List ByteArray:=V.encs (decide (v.kind=6)) v.keys v.kids
theorem V.enc_eq (v:V):v.enc=if v.kind=0 then⟨#[110,117,108,108]⟩ else if v.kind=1 then⟨#[102,97,108,115,101]⟩ else if v.kind=2 then⟨#[116,114,117,101]⟩
 else if v.kind=3 then itoaS v.num else if v.kind=4 then quoted v.text
 else if v.kind=5 then(⟨#[91]⟩++joinS v.parts commaS)++⟨#[93]⟩ else(⟨#[123]⟩++joinS v.parts commaS)++⟨#[125]⟩:=by
 cases v
 simp only[V.enc]
 rfl
theorem V.encs_at (o:Bool): ∀(l:List V) (ks:List ByteArray) (i:Nat),i<l.length→(V.encs o ks l)[i]? =some (partT o (ks.getD i noS) (l.getD i default).enc)
 |[],_,i,h=>by simp at h
 |v::r,ks,0,h=>by
  simp only[V.encs,List.getElem?_cons_zero]
  cases ks<;>rfl
 |v::r,ks,i+1,h=>by
  simp only[V.encs,List.getElem?_cons_succ]
  rw[V.encs_at o r ks.tail i (by simpa using h)]
  cases ks<;>rfl
theorem V.encs_length (o:Bool): ∀(l:List V) (ks:List ByteArray),(V.encs o ks l).length=l.length
 |[],_=>by simp[V.encs]
 |v::r,ks=>by simp[V.encs,V.encs_length o r]
theorem V.parts_length (v:V):v.parts.length=v.kids.length:=V.encs_length _ _ _
theorem V.parts_take (v:V){i:Nat}(h:i<v.kids.length):v.parts.take (i+1)=v.parts.take i++[partT (decide (v.kind=6)) (v.keys.getD i noS) (v.kids.getD i default).enc]:=by
 rw[List.take_add_one,show v.parts[i]? =_ from V.encs_at _ v.kids v.keys i h]
 rfl
theorem joinS_size (xs:List ByteArray)(sep:ByteArray):(joinS xs sep).size≤(xs.map fun x=>x.size+sep.size).sum:=by
 show(List.toArray _).size≤_
 rw[List.size_toArray]
 cases xs with
 |nil=>simp[Lib.join_nil]
 |cons y r=>
  simp only[List.map_cons]
  rw[Lib.join_cons,List.length_append,List.sum_cons]
  have h1:y.data.toList.length=y.size:=rfl
  have h2: ∀r:List ByteArray,(Lib.joinTail sep.data.toList (r.map (·.data.toList))).length≤(r.map fun x=>x.size+sep.size).sum:=by
   intro r
   induction r with
   |nil=>simp[Lib.joinTail]
   |cons z r ih=>
    have hz:z.data.toList.length=z.size:=rfl
    have hsp:sep.data.toList.length=sep.size:=rfl
    simp only[Lib.joinTail,List.map_cons,List.flatten_cons,List.length_append,List.sum_cons] at ih ⊢
    omega
  have:=h2 r
  omega
theorem partT_size (o:Bool)(key t:ByteArray)(h:okText key=true):(partT o key t).size≤t.size+123:=by
 have:=quoted_small h
 have h1:(⟨#[58]⟩:ByteArray).size=1:=rfl
 unfold partT
 cases o
 ·simp
 ·rw[if_pos rfl,ba_size,ba_size]
  omega
mutual
theorem V.enc_size : ∀v:V,v.good→v.enc.size+130≤300*v.count
 |.mk k n t ks kids,h=>by
  obtain⟨g1,g2,g3,g4,g5,g6,g7,g8,g9,g10,g11⟩:=h
  have h1:=V.encs_size (decide (k=6)) kids ks g11 g9
  have h2:=joinS_size (V.encs (decide (k=6)) ks kids) commaS
  have h3:=quoted_small g6
  have h4:=itoaS_size n (by omega) (by omega)
  have c1:commaS.size=1:=rfl
  rw[c1] at h2
  simp only[V.enc,V.count]
  repeat' split
  ·show 4+130≤_;omega
  ·show 5+130≤_;omega
  ·show 4+130≤_;omega
  ·omega
  ·omega
  ·rw[ba_size,ba_size]
   show 1+_+1+130≤_
   omega
  ·rw[ba_size,ba_size]
   show 1+_+1+130≤_
   omega
theorem V.encs_size (o:Bool): ∀(l:List V) (ks:List ByteArray),V.goods l→(∀key∈ks,okText key=true)→((V.encs o ks l).map fun x=>x.size+1).sum≤300*V.counts l
 |[],ks,_,_=>by simp[V.encs]
 |v::r,ks,h,hk=>by
  have h1:=V.enc_size v h.1
  have h2:=V.encs_size o r ks.tail h.2 fun key hkey=>hk key (List.mem_of_mem_tail hkey)
  have h3:okText (ks.headD noS)=true:=by
   cases ks with
   |nil=>exact noS_ok
   |cons k r=>exact hk k (List.mem_cons_self ..)
  have h4:=partT_size o (ks.headD noS) v.enc h3
  simp only[V.encs,V.counts,List.map_cons,List.sum_cons]
  omega
end
theorem sum_take_le (l:List Nat)(i:Nat):(l.take i).sum≤l.sum:=by
 induction l generalizing i with
 |nil=>simp
 |cons x r ih=>
  cases i with
  |zero=>simp
  |succ i=>simp;exact ih i
theorem V.parts_size (v:V)(h:v.good)(i:Nat):(joinS (v.parts.take i) commaS).size≤300*v.count:=by
 have h1:=joinS_size (v.parts.take i) commaS
 have c1:commaS.size=1:=rfl
 rw[c1,List.map_take] at h1
 have h2:=sum_take_le (v.parts.map fun x=>x.size+1) i
 obtain⟨k,n,t,ks,kids⟩:=v
 have h3:=V.encs_size (decide (k=6)) kids ks h.2.2.2.2.2.2.2.2.2.2 h.2.2.2.2.2.2.2.2.1
 have h4:((V.mk k n t ks kids).parts.map fun x=>x.size+1).sum≤300*V.counts kids:=h3
 have h5:(V.mk k n t ks kids).count=V.counts kids+1:=rfl
 omega
theorem V.enc_le {v:V}(h:v.fine):v.enc.size≤60000:=by
 have h1:=V.enc_size v h.1
 have h2:=h.2.1
 omega
theorem V.key_ok {v:V}(h:v.good)(j:Nat):okText (v.keys.getD j default)=true:=by
 obtain⟨k,n,t,ks,kids⟩:=v
 obtain⟨g1,g2,g3,g4,g5,g6,g7,g8,g9,g10,g11⟩:=h
 show okText (ks.getD j default)=true
 by_cases hj:j<ks.length
 ·exact g9 _ (getD_mem' hj)
 ·rw[List.getD_eq_getElem?_getD,List.getElem?_eq_none (by omega)]
  exact noS_ok
theorem V.num_le {v:V}(h:v.good): -1000000000000000≤v.num∧v.num≤1000000000000000:=by
 obtain⟨k,n,t,ks,kids⟩:=v
 obtain⟨g1,g2,g3,g4,g5,g6,g7,g8,g9,g10,g11⟩:=h
 show -1000000000000000≤n∧n≤1000000000000000
 omega
theorem V.text_ok {v:V}(h:v.good):okText v.text=true:=by
 obtain⟨k,n,t,ks,kids⟩:=v
 obtain⟨g1,g2,g3,g4,g5,g6,g7,g8,g9,g10,g11⟩:=h
 exact g6
theorem V.keys_len {v:V}(h:v.good):v.kind=6→v.keys.length=v.kids.length:=by
 obtain⟨k,n,t,ks,kids⟩:=v
 obtain⟨g1,g2,g3,g4,g5,g6,g7,g8,g9,g10,g11⟩:=h
 exact g7
theorem V.kids_le {v:V}(h:v.fine):v.kids.length≤200:=by
 have h1:=V.length_counts v.kids
 have h2:=V.count_eq v
 have h3:=h.2.1
 omega
theorem V.parts_take6 (v:V)(h:v.kind=6)(i:Nat)(hi:i<v.kids.length):v.parts.take (i+1)=v.parts.take i++[(quoted (v.keys.getD i noS)++⟨#[58]⟩)++(v.kids.getD i default).enc]:=by
 rw[V.parts_take v hi,decide_eq_true h,partT,if_pos rfl]
theorem V.parts_take5 (v:V)(h:¬v.kind=6)(i:Nat)(hi:i<v.kids.length):v.parts.take (i+1)=v.parts.take i++[(v.kids.getD i default).enc]:=by
 rw[V.parts_take v hi,decide_eq_false h,partT,if_neg (fun h=>by cases h)]
theorem encode_fn (q:TypeId×(Nat×Nat)): ∀(n:Nat) (v:V),v.count≤n→v.fine→FunQ env.P 87 [.d (.agg v.rowP)] [tabO q] (just (.d (dS v.enc)) [tabO q])
 |0,v,h,_=>by
  have:=V.depth_le v
  omega
 |n+1,v,h,hv=>by
  have ih:=encode_fn q n
  have hkd:=V.fine_kids hv
  have hen:=V.enc_eq v
  have hpl:=V.parts_length v
  have hp6:=V.parts_take6 v
  have hp5:=V.parts_take5 v
  have hps:=V.parts_size v hv.1
  have hko:=V.key_ok hv.1
  have hnum:=V.num_le hv.1
  have hkl:=V.keys_len hv.1
  have hll:=V.kids_le hv
  have hc:=hv.2.1
  have fi:=FormatInt_fn q v.num (by omega) (by omega)
  have ft:=encodeString_fn v.text (by have:=okText_size (V.text_ok hv.1);omega)
  generalize v.enc=R at*
  generalize v.parts=ps at*
  obtain⟨k,nm,t,ks,kids⟩:=v
  simp only[V.kind,V.num,V.text,V.keys,V.kids] at hkd hpl hp6 hp5 hko hnum hkl hll fi ft
  refine FunQ.intro Tryz.func87 rfl (by kernel_rfl) rfl ?_
  repeat'(first|refine Z1 ?_|refine WG.cq (E:=env) [0] [0] false rfl rfl (fi) rfl rfl rfl rfl rfl rfl rfl (by first|exact trivial|exact⟨rfl,trivial⟩|exact⟨rfl,rfl,trivial⟩) (.inl rfl) rfl (fun h=>nomatch h) rfl rfl ?_|refine WG.c (E:=env) rfl rfl (ft) rfl rfl ?_|((refine SP (fun h=>?_) fun h=>?_)<;>(try(exfalso;first|contradiction|omega))))
  ·(refine W.ret ?_;refine RetR.tb' ?_)
   rw[hen,if_pos (by assumption)]
   rfl
  ·(refine W.ret ?_;refine RetR.tb' ?_)
   rw[hen,if_neg (by assumption),if_pos (by assumption)]
   rfl
  ·(refine W.ret ?_;refine RetR.tb' ?_)
   rw[hen,if_neg (by assumption),if_neg (by assumption),if_pos (by assumption)]
   rfl
  ·(refine W.ret ?_;refine RetR.tb' ?_)
   rw[hen,if_neg (by assumption),if_neg (by assumption),if_neg (by assumption),if_pos (by assumption)]
   rfl
  ·(refine W.ret ?_;refine RetR.tb' ?_)
   rw[hen,if_neg (by assumption),if_neg (by assumption),if_neg (by assumption),if_neg (by assumption),if_pos (by assumption)]
   rfl
  rw[if_neg (by assumption),if_neg (by assumption),if_neg (by assumption),if_neg (by assumption),if_neg (by assumption)] at hen
  refine W.loopI (fun m S=> ∃(i:Nat) (rv:List (List D)),m=kids.length - i∧(i≤kids.length∧rv.length=i∧rv=(ps.take i).map keyRow)∧S=⟨ofL [(1,.lp 1 0),(3,.og 2 0),(27,.d (.sl 5 (kids.map V.row))),(28,vI .i64 (kids.map V.row).length),(29,vI .i64 i)],[tabO q,.pv ((V.mk k nm t ks kids).rowP.map .d),.gr 1 9 rv 0 false]⟩) _ _ ⟨0,[],rfl,⟨by omega,rfl,rfl⟩,rfl⟩ (St.imp.of_le lE) ?_
  rintro m S ⟨i,rv,rfl,⟨hi,hrl,hrv⟩,rfl⟩
  by_cases hlt:i<kids.length
  ·have hmem:=hkd _ (getD_mem' (show Int.toNat (i:Int)<kids.length by rw[Int.toNat_natCast];exact hlt))
   have hih:=ih (kids.getD (Int.toNat (i:Int)) default) (by have:=hmem.2;omega) hmem.1
   have hes:=V.enc_le hmem.1
   have hqs:=quoted_small (hko (Int.toNat (i:Int)))
   have hqe:=encodeString_fn (ks.getD (Int.toNat (i:Int)) default) (by have:=okText_size (hko (Int.toNat (i:Int)));omega)
   have hq0:quoted (ks.getD i noS)=quoted (ks.getD (Int.toNat (i:Int)) default):=by rw[Int.toNat_natCast];rfl
   have he0:(kids.getD i default).enc=(kids.getD (Int.toNat (i:Int)) default).enc:=by rw[Int.toNat_natCast]
   replace hp6:=fun h=>hp6 h i hlt
   replace hp5:=fun h=>hp5 h i hlt
   rw[hq0,he0] at hp6
   rw[he0] at hp5
   generalize quoted (ks.getD (Int.toNat (i:Int)) default)=qk at*
   generalize (kids.getD (Int.toNat (i:Int)) default).enc=e at*
   have z1:(qk++⟨#[58]⟩).size=qk.size+1:=by rw[ByteArray.size_append];rfl
   have z2:(⟨#[58]⟩:ByteArray).size=1:=rfl
   repeat'(first|refine WG.ixm (E:=env) (f':=V.rowP) rfl rfl rfl rfl rfl rfl rfl (fun x=>V.row_eq x) (by(first|exact trivial|(simp only[inRange,List.length_map];omega)|omega|assumption)) ?_|refine Z1 ?_|refine WG.cq (E:=env) [0] [0] false rfl rfl (hih) rfl rfl rfl rfl rfl rfl rfl (by first|exact trivial|exact⟨rfl,trivial⟩|exact⟨rfl,rfl,trivial⟩) (.inl rfl) rfl (fun h=>nomatch h) rfl rfl ?_|refine WG.c (E:=env) rfl rfl (hqe) rfl rfl ?_|((refine SP (fun h=>?_) fun h=>?_)<;>(try(exfalso;first|contradiction|omega))))
   ·have hk6:k=6:=by assumption
    have hkl2:(V.mk k nm t ks kids).keys.length=kids.length:=hkl hk6
    repeat'(first|refine Z1 ?_|refine WG.c (E:=env) rfl rfl (hqe) rfl rfl ?_|((refine SP (fun h=>?_) fun h=>?_)<;>(try(exfalso;first|contradiction|omega))))
    refine⟨_,_,by omega,⟨i+1,rv++[keyRow ((qk++⟨#[58]⟩)++e)],rfl,⟨by omega,by simp[hrl],?_⟩,rfl⟩,(St.imp.rev 2 1 rfl).trans (St.imp.of_le lE)⟩
    rw[hp6 hk6,List.map_append,←hrv]
    rfl
   ·have hk5:¬k=6:=by assumption
    refine⟨_,_,by omega,⟨i+1,rv++[keyRow e],rfl,⟨by omega,by simp[hrl],?_⟩,rfl⟩,(St.imp.rev 2 1 rfl).trans (St.imp.of_le lE)⟩
    rw[hp5 hk5,List.map_append,←hrv]
    rfl
  ·obtain rfl:i=kids.length:=by omega
   rw[←hpl,List.take_length] at hrv
   have hjs:=hps ps.length
   rw[List.take_length] at hjs
   have hj:=Join_fn ps commaS (by omega) (by omega)
   have z3:(⟨#[91]⟩:ByteArray).size=1:=rfl
   have z4:(⟨#[123]⟩:ByteArray).size=1:=rfl
   have z5:(⟨#[93]⟩:ByteArray).size=1:=rfl
   have z6:(⟨#[125]⟩:ByteArray).size=1:=rfl
   generalize joinS ps commaS=js at*
   have z7:(⟨#[91]⟩++js).size=js.size+1:=by rw[ByteArray.size_append,z3];omega
   have z8:(⟨#[123]⟩++js).size=js.size+1:=by rw[ByteArray.size_append,z4];omega
   subst hrv
   refine W.pubD 2 rfl ?_
   repeat'(first|refine Z1 ?_|refine WG.c (E:=env) rfl rfl (hj) rfl rfl ?_|((refine SP (fun h=>?_) fun h=>?_)<;>(try(exfalso;first|contradiction|omega))))
   ·(refine W.ret ?_;refine RetR.tb' ?_)
    rw[hen,if_pos (by assumption)]
    rfl
   ·(refine W.ret ?_;refine RetR.tb' ?_)
    rw[hen,if_neg (by assumption)]
    rfl
theorem l2Decimal_fn (n:Int)(h0: -1000000000000000≤n)(h1:n≤1000000000000000):Fun env.P 96 [dI n] (.d (dS (itoaS n))) []:=by
 by_cases h:n<0
 ·obtain⟨m,rfl⟩: ∃m:Nat,n= -(m:Int):=⟨n.natAbs,by omega⟩
  have hd:=l2Digits_fn m (by omega)
  rw[itoaS_neg m (by omega)]
  have hs:=decS_size m (by omega)
  have z1:(⟨#[45]⟩:ByteArray).size=1:=rfl
  generalize decS m=b at*
  rw[show((m:Int))= - (-(m:Int)) by omega] at hd
  refine Fun.intro Tryz.func96 rfl (by kernel_rfl) rfl ?_
  repeat'(first|refine Z1 ?_|refine WG.c (E:=env) rfl rfl (hd) rfl rfl ?_|((refine SP (fun h=>?_) fun h=>?_)<;>(try(exfalso;first|contradiction|omega))))
  all_goals (refine W.ret ?_;(first|refine RetQ.d' ?_))
  all_goals rfl
 ·obtain⟨m,rfl⟩: ∃m:Nat,n=(m:Int):=⟨n.toNat,by omega⟩
  have hd:=l2Digits_fn m (by omega)
  rw[itoaS_nat]
  refine Fun.intro Tryz.func96 rfl (by kernel_rfl) rfl ?_
  repeat'(first|refine Z1 ?_|refine WG.c (E:=env) rfl rfl (hd) rfl rfl ?_|((refine SP (fun h=>?_) fun h=>?_)<;>(try(exfalso;first|contradiction|omega))))
  all_goals (refine W.ret ?_;(first|refine RetQ.d' ?_))
  all_goals rfl
theorem V.keysL_at (v:V){n i:Nat}(h:i<n):(v.keysL n).getD i default=v.keys.getD i noS:=by
 simp[V.keysL,List.getD_eq_getElem?_getD,h]
theorem V.keysL_length (v:V)(n:Nat):(v.keysL n).length=n:=by simp[V.keysL]
theorem l2Encode_fn : ∀(n:Nat) (v:V),v.count≤n→v.fine→Fun env.P 37 [cellsD v.cells] (.d (dS v.enc)) []
 |0,v,h,_=>by
  have:=V.depth_le v
  omega
 |n+1,v,h,hv=>by
  have ih:=l2Encode_fn n
  have hkd:=V.fine_kids hv
  have hen:=V.enc_eq v
  have hpl:=V.parts_length v
  have hp6:=V.parts_take6 v
  have hp5:=V.parts_take5 v
  have hps:=V.parts_size v hv.1
  have hko:=V.key_ok hv.1
  have hnum:=V.num_le hv.1
  have hll:=V.kids_le hv
  have hc:=hv.2.1
  have hdm:=l2Decimal_fn v.num (by omega) (by omega)
  have hqt:=l2Quote_fn v.text (by have:=okText_size (V.text_ok hv.1);omega)
  have p1:=FunQ.pubG (l1Parts_fn v hv)
  have k1:=FunQ.pubG (l1Keys_fn v hv)
  have hka:=fun i (hi:i<v.kids.length)=>V.keysL_at v hi
  have hkn:=V.keysL_length v v.kids.length
  obtain⟨r1,e1⟩:=V.cells_cons v
  rw[e1] at p1 k1 ⊢
  generalize v.enc=R at*
  generalize v.parts=ps at*
  generalize v.keysL v.kids.length=kl at*
  have hcl:1≤((⟨v.kind,v.num,v.text,noS,(v.kids.length:Int)⟩::r1:List Cell)).length:=by simp
  generalize v.kind=vk at*
  generalize v.num=vn at*
  generalize v.text=vt at*
  generalize v.keys=ks at*
  generalize v.kids=kids at*
  refine Fun.intro Tryz.func37 rfl (by kernel_rfl) rfl ?_
  repeat'(first|refine Z1 ?_|refine WG.c (E:=env) rfl rfl (hdm) rfl rfl ?_|refine WG.c (E:=env) rfl rfl (hqt) rfl rfl ?_|refine WG.c (E:=env) rfl rfl (p1) rfl rfl ?_|refine WG.c (E:=env) rfl rfl (k1) rfl rfl ?_|((refine SP (fun h=>?_) fun h=>?_)<;>(try(exfalso;first|contradiction|omega))))
  ·(refine W.ret ?_;(first|refine RetQ.d' ?_))
   have hh:vk=0:=by assumption
   rw[hen,if_pos hh]
   rfl
  ·(refine W.ret ?_;(first|refine RetQ.d' ?_))
   have n0:¬vk=0:=by assumption
   have hh:vk=1:=by assumption
   rw[hen,if_neg n0,if_pos hh]
   rfl
  ·(refine W.ret ?_;(first|refine RetQ.d' ?_))
   have n0:¬vk=0:=by assumption
   have n1:¬vk=1:=by assumption
   have hh:vk=2:=by assumption
   rw[hen,if_neg n0,if_neg n1,if_pos hh]
   rfl
  ·(refine W.ret ?_;(first|refine RetQ.d' ?_))
   have n0:¬vk=0:=by assumption
   have n1:¬vk=1:=by assumption
   have n2:¬vk=2:=by assumption
   have hh:vk=3:=by assumption
   rw[hen,if_neg n0,if_neg n1,if_neg n2,if_pos hh]
   rfl
  ·(refine W.ret ?_;(first|refine RetQ.d' ?_))
   have n0:¬vk=0:=by assumption
   have n1:¬vk=1:=by assumption
   have n2:¬vk=2:=by assumption
   have n3:¬vk=3:=by assumption
   have hh:vk=4:=by assumption
   rw[hen,if_neg n0,if_neg n1,if_neg n2,if_neg n3,if_pos hh]
   rfl
  have n0:¬vk=0:=by assumption
  have n1:¬vk=1:=by assumption
  have n2:¬vk=2:=by assumption
  have n3:¬vk=3:=by assumption
  have n4:¬vk=4:=by assumption
  rw[if_neg n0,if_neg n1,if_neg n2,if_neg n3,if_neg n4] at hen
  refine W.loop (fun m S=> ∃(i:Nat) (b:ByteArray),m=kids.length - i∧(i≤kids.length∧b=joinS (ps.take i) commaS)∧S=⟨ofL [(0,.d (cellsD (⟨vk,vn,vt,noS,(kids.length:Int)⟩::r1))),(3,.d (.sl 1 (kids.map partR))),(4,.d (.sl 1 (kl.map keyRow))),(5,vS b),(6,vI .i64 i)],[]⟩) _ _ ⟨0,_,rfl,⟨by omega,rfl⟩,rfl⟩ lE ?_
  rintro m S ⟨i,b,rfl,⟨hi,hb⟩,rfl⟩
  have hbs:=hps i
  rw[←hb] at hbs
  by_cases hlt:i<kids.length
  ·have hmem:=hkd _ (getD_mem' (show Int.toNat (i:Int)<kids.length by rw[Int.toNat_natCast];exact hlt))
   have hih:=ih (kids.getD (Int.toNat (i:Int)) default) (by have:=hmem.2;omega) hmem.1
   have hes:=V.enc_le hmem.1
   have hki:=hka i hlt
   have hk0:kl.getD (Int.toNat (i:Int)) default=ks.getD i noS:=by rw[Int.toNat_natCast];exact hki
   have hok:okText (ks.getD i noS)=true:=hko i
   have hqs:=quoted_small hok
   have hqe:Fun env.P 97 [dS (kl.getD (Int.toNat (i:Int)) default)] (.d (dS (quoted (ks.getD i noS)))) []:=by
    have h:=l2Quote_fn (ks.getD i noS) (by have:=okText_size hok;omega)
    rw[hk0]
    exact h
   replace hp6:=fun h=>hp6 h i hlt
   replace hp5:=fun h=>hp5 h i hlt
   have he0:(kids.getD i default).enc=(kids.getD (Int.toNat (i:Int)) default).enc:=by rw[Int.toNat_natCast]
   rw[he0] at hp6 hp5
   generalize quoted (ks.getD i noS)=qk at*
   generalize (kids.getD (Int.toNat (i:Int)) default).enc=e at*
   have z0:(⟨#[44]⟩:ByteArray).size=1:=rfl
   have z1:(⟨#[58]⟩:ByteArray).size=1:=rfl
   have z2:(b++⟨#[44]⟩).size=b.size+1:=by rw[ByteArray.size_append];rfl
   have z3:((b++⟨#[44]⟩)++qk).size=b.size+1+qk.size:=by rw[ByteArray.size_append,z2]
   have z4:(((b++⟨#[44]⟩)++qk)++⟨#[58]⟩).size=b.size+1+qk.size+1:=by rw[ByteArray.size_append,z3];rfl
   have z5:(b++qk).size=b.size+qk.size:=ByteArray.size_append ..
   have z6:((b++qk)++⟨#[58]⟩).size=b.size+qk.size+1:=by rw[ByteArray.size_append,z5];rfl
   have hne:0<i→ps.take i≠[]:=fun h0 e=>by
    have:=congrArg List.length e
    rw[List.length_take,List.length_nil] at this
    omega
   repeat'(first|refine Z1 ?_|refine WG.c (E:=env) rfl rfl (hih) rfl rfl ?_|refine WG.c (E:=env) rfl rfl (hqe) rfl rfl ?_|((refine SP (fun h=>?_) fun h=>?_)<;>(try(exfalso;first|contradiction|omega))))
   ·have hh:vk=6:=by assumption
    refine⟨_,_,by omega,⟨i+1,(((b++⟨#[44]⟩)++qk)++⟨#[58]⟩)++e,rfl,⟨by omega,?_⟩,rfl⟩,lE⟩
    rw[hp6 hh,joinS_snoc _ _ _ (hne (by omega)),←hb]
    simp only[ba_assoc]
   ·have hh:¬vk=6:=by assumption
    refine⟨_,_,by omega,⟨i+1,(b++⟨#[44]⟩)++e,rfl,⟨by omega,?_⟩,rfl⟩,lE⟩
    rw[hp5 hh,joinS_snoc _ _ _ (hne (by omega)),←hb]
   ·have hh:vk=6:=by assumption
    have hi0:i=0:=by omega
    refine⟨_,_,by omega,⟨i+1,((b++qk)++⟨#[58]⟩)++e,rfl,⟨by omega,?_⟩,rfl⟩,lE⟩
    rw[hp6 hh,hb,hi0]
    simp only[List.take_zero,List.nil_append]
    rw[joinS_one,joinS_nil,ba_nil]
   ·have hh:¬vk=6:=by assumption
    have hi0:i=0:=by omega
    refine⟨_,_,by omega,⟨i+1,b++e,rfl,⟨by omega,?_⟩,rfl⟩,lE⟩
    rw[hp5 hh,hb,hi0]
    simp only[List.take_zero,List.nil_append]
    rw[joinS_one,joinS_nil,ba_nil]
  ·obtain rfl:i=kids.length:=by omega
   rw[←hpl,List.take_length] at hb
   have z3:(⟨#[91]⟩:ByteArray).size=1:=rfl
   have z4:(⟨#[123]⟩:ByteArray).size=1:=rfl
   have z5:(⟨#[93]⟩:ByteArray).size=1:=rfl
   have z6:(⟨#[125]⟩:ByteArray).size=1:=rfl
   rw[←hb] at hen
   have z7:(⟨#[91]⟩++b).size=b.size+1:=by rw[ByteArray.size_append,z3];omega
   have z8:(⟨#[123]⟩++b).size=b.size+1:=by rw[ByteArray.size_append,z4];omega
   repeat'(first|refine Z1 ?_|((refine SP (fun h=>?_) fun h=>?_)<;>(try(exfalso;first|contradiction|omega))))
   ·have hh:vk=5:=by assumption
    rw[hen,if_pos hh]
    (refine W.ret ?_;(first|refine RetQ.d' ?_))
    rfl
   ·have hh:¬vk=5:=by assumption
    rw[hen,if_neg hh]
    (refine W.ret ?_;(first|refine RetQ.d' ?_))
    rfl
section
open Go.Shelf Go.RowKit Go.Lib
section
variable {P:Program}{ρ:Ren}
theorem str_at {w:World}{t u ty e:TypeId}{i:TypeInfo}(ht:P.underlying t=some (.slice e))(hu:P.underlying u=some .string)(hi:P.info? e=some i)(hz:i.zero=some (.int .u8 0))(hsize:i.size=1)(hby:i.bytes=1)
 {v v':Value} {n:Nat} {xs:List Value} {w':World} (hown:w.ownsRow 0 e 1 v n xs) (s:ByteArray) (hbytes:n+s.size≤140737488355328)
 (hr:(Builtin.append_ #[t,u] ty #[v,.string s]).run P w=.ok v' w'):v'.ownBlock=v.ownBlock∨v'.ownBlock=some w.heap.size:=by
 have hxl:xs.length=n:=by simpa using hown.1
 rcases hown.2 with⟨rfl,rfl⟩|⟨g,cap,cur,rfl,hbg,hg,hnc,hcm,hcs,htake⟩
 ·by_cases hm:s.size=0
  ·have hf:=run_firstCells_string (P:=P) w 1 s
   rw[hm] at hf
   have h2:(Builtin.append_ #[t,u] ty #[.slice none 0 0,.string s]).run P w=.ok (.slice none 0 0) w:=by
    simp[Builtin.append_,run_underlying ht,run_underlying hu,sizeOf,typeInfo,hi,hsize,Builtin.lenOf,hm,hf]
   rw[h2] at hr
   injection hr with e1 _
   exact .inl (by rw[←e1])
  ·have h2:=run_append_nil_string (P:=P) w t u ty e i (.int .u8 0) ht hu hi hz s (by omega) (by omega) (by rw[hby];omega)
   rw[h2] at hr
   injection hr with e1 _
   exact .inr (by rw[←e1];rfl)
 ·by_cases hroom:n+s.size≤cap
  ·have hcs':cur.size=cap:=by simpa using hcs
   have h2:=run_append_room_string (P:=P) w t u ty e i ht hu hi hsize g n cap cur hg s hroom (by omega)
   rw[h2] at hr
   injection hr with e1 _
   exact .inl (by rw[←e1];rfl)
  ·have holds: ∀j u,xs[j]? =some u→w.cell? ((⟨g,0,none⟩:Addr).add j)=some u:=hown.cells (g:=g) rfl
   have h2:=run_append_grow_string (P:=P) w t u ty e i (.int .u8 0) ht hu hi hz ⟨g,0,none⟩ n cap xs (by rw[hsize];simpa using hxl) holds s (by omega) (by omega) (by rw[hby];exact growslice_fits (by omega) (by omega))
   rw[h2] at hr
   injection hr with e1 _
   exact .inr (by rw[←e1];rfl)
theorem wp_append_str {w:World}{ops:Array Oper}{rest:List Oper}{o:Oper}{a:Act}{Q:Exit→Act→World→Prop}(hgd:o.guard=none)(sl x:Operand)(t u:TypeId)
 (ho:o.op=.call { callee:=.builtin .append,args:= #[sl,x],argTypes:= #[t,u] })
 (e:TypeId) (i:TypeInfo) (ht:P.underlying t=some (.slice e)) (hu:P.underlying u=some .string) (hi:P.info? e=some i) (hz:i.zero=some (.int .u8 0)) (hsize:i.size=1) (hby:i.bytes=1)
 (v:Value) (n:Nat) (xs:List Value) (hs:a.eval sl=v) (hown:w.ownsRow 0 e 1 v n xs) (s:ByteArray) (hx:a.eval x=.string s) (hbytes:n+s.size≤140737488355328)
 (h: ∀v' w',w'.ownsRow 0 e 1 v' (n+s.size) (xs++strCells s)→w.grownBy w' v.ownBlock→(v'.ownBlock=v.ownBlock∨v'.ownBlock=some w.heap.size)→wpList P ops Q rest (a.put o.dst v') w'):wpList P ops Q (o::rest) a w:=by
 refine wpList_plain hgd fun K hK=>?_
 obtain⟨v',w',hr,h2,h3,_⟩:=run_append_own_string (P:=P) w 0 t u o.type e i ht hu hi hz hsize hby v n xs hown s (by unfold maxLen;omega) hbytes (Nat.zero_le _)
 have h4:=str_at ht hu hi hz hsize hby hown s hbytes hr
 unfold Oper.wp execOp
 simp only[ho,resolve,invoke,builtin,Sem.run_bind,Sem.run_pure,Result.andThen_ok,List.map_toArray,List.map_cons,List.map_nil,hs,hx,hr]
 exact hK _ _ (h v' w' h2 h3 h4)
theorem check_raw (L:Lays.n240 P ρ)(X:Builder.X72 P ρ){b:Nat}{w:World}{p u:Value}(hp:p=.pointer none∨p=.pointer (some ⟨b,0,none⟩))(hb:w.heap[b]? =some (.cells #[p,u] (ρ.t 72) (0,0))):
 ∃w1,(Calls P (ρ.f 240) #[.pointer (some ⟨b,0,none⟩)] w fun e w'=>e=.returned (.tuple #[])∧w'=w1)∧w1.heap[b]? =some (.cells #[.pointer (some ⟨b,0,none⟩),u] (ρ.t 72) (0,0))∧(∀k,k≠b→w1.heap[k]? =w.heap[k]?)∧
  w1.heap.size=w.heap.size∧w1.os=w.os∧w1.tape=w.tape∧w1.output=w.output:=by
 have c0:w.cell? ⟨b,0,none⟩=some p:=by rw[Lib.cell_of_heap hb];rfl
 rcases hp with rfl|rfl
 ·refine⟨w.setCell ⟨b,0,none⟩ (.pointer (some ⟨b,0,none⟩)),Any.Builder_copyCheck_fresh L X b w c0 (by simp[World.shape?,hb]) (Lib.frozen_of_heap hb 0),?_,fun k hk=>Below.heap_setCell _ _ _ _ hk,by simp[World.setCell],rfl,rfl,rfl⟩
  simp[World.setCell,Array.getElem?_modify,hb]
 ·exact⟨w,Any.Builder_copyCheck_used L X b w c0,hb,fun _ _=>rfl,rfl,rfl,rfl,rfl⟩
set_option maxRecDepth 100000 in
theorem write_raw (L:Lays.n166 P ρ)(X:Builder.Extra P ρ){b:Nat}{w:World}{p u:Value}{xs:List Value}{n:Nat}(s:ByteArray)(hp:p=.pointer none∨p=.pointer (some ⟨b,0,none⟩))(hb:w.heap[b]? =some (.cells #[p,u] (ρ.t 72) (0,0)))
 (hown:w.ownsRow 0 (ρ.t 5) 1 u n xs) (hne:u.ownBlock≠some b) (hlen:n+s.size≤140737488355328):
 Calls P (ρ.f 166) #[.pointer (some ⟨b,0,none⟩),.string s] w fun e w'=>e=.returned (.tuple #[.int .i64 s.size,.nilIface])∧ ∃u',w'.heap[b]? =some (.cells #[.pointer (some ⟨b,0,none⟩),u'] (ρ.t 72) (0,0))∧
  w'.ownsRow 0 (ρ.t 5) 1 u' (n+s.size) (xs++strCells s)∧u'.ownBlock≠some b∧(u'.ownBlock=u.ownBlock∨u'.ownBlock=some w.heap.size)∧w.heap.size≤w'.heap.size∧w'.os=w.os∧w'.tape=w.tape∧w'.output=w.output∧
  ∀k,k<w.heap.size→k≠b→u.ownBlock≠some k→w'.heap[k]? =w.heap[k]? :=by
 obtain⟨i0,hi,hz0,hz1,hz2⟩:=info_parts X.infoByte
 obtain⟨w1,hcc,hb1,hk1,hs1,ho1,ht1,hu1⟩:=check_raw { L with } X.toX72 hp hb
 have hown1:w1.ownsRow 0 (ρ.t 5) 1 u n xs:=hown.kept (row:=some b) ⟨ho1,ht1,hu1,by omega,fun k _ hk=>hk1 k fun e=>hk (by rw[e])⟩ (Or.inr hne)
 have hlt:b<w1.heap.size:=by
  rcases Nat.lt_or_ge b w1.heap.size with h'|h'
  ·exact h'
  ·simp[Array.getElem?_eq_none h'] at hb1
 have mixed:=L.mixed
 have t72:=L.t72;have a72:=L.a72;have z72:=L.z72;have v72:=L.v72;have u72:=run_underlying L.t72
 have t70:=L.t70;have a70:=L.a70;have z70:=L.z70;have v70:=L.v70;have u70:=run_underlying L.t70
 have t37:=L.t37;have a37:=L.a37;have z37:=L.z37;have v37:=L.v37;have u37:=run_underlying L.t37
 have t3:=L.t3;have a3:=L.a3;have z3:=L.z3;have v3:=L.v3;have u3:=run_underlying L.t3
 have t9:=L.t9;have a9:=L.a9;have z9:=L.z9;have v9:=L.v9;have u9:=run_underlying L.t9
 have t4:=L.t4;have a4:=L.a4;have z4:=L.z4;have v4:=L.v4;have u4:=run_underlying L.t4
 have t164:=L.t164;have a164:=L.a164;have z164:=L.z164;have v164:=L.v164;have u164:=run_underlying L.t164
 have t5:=X.t5;have a5:=X.a5;have z5:=X.z5;have v5:=X.v5;have u5:=run_underlying X.t5
 have e240: ∀args w,(callFunc (ρ.f 240) args).run P w=.ok (.enter (ρ.f 240) args) w:=enters_of L.f240 (by kernel_rfl) rfl
 go_enter L.f166,Body.n166_ntmps ρ
 go_wp2_with (go_at_fn (ρ.f 240);refine hcc.mono ?_)
 rintro e w' ⟨rfl,rfl⟩
 have c0:w'.cell? ⟨b,0,none⟩=some (.pointer (some ⟨b,0,none⟩)):=by rw[Lib.cell_of_heap hb1];rfl
 have c1:w'.cell? ⟨b,1,none⟩=some u:=by rw[Lib.cell_of_heap hb1];rfl
 go_wp2_with (at_builtin;refine wp_append_str rfl _ _ (ρ.t 37) (ρ.t 9) rfl (ρ.t 5) i0 L.t37 L.t9 hi hz0 hz1 hz2 _ _ _ rfl hown1 s rfl hlen ?_)
 intro v' w2 hown' hgrow hat
 have hb2:w2.heap[b]? =some (.cells #[.pointer (some ⟨b,0,none⟩),u] (ρ.t 72) (0,0)):=by
  rw[hgrow.block b hlt (fun e=>hne e.symm)]
  exact hb1
 have d0:w2.cell? ⟨b,0,none⟩=some (.pointer (some ⟨b,0,none⟩)):=by rw[Lib.cell_of_heap hb2];rfl
 have d1:w2.cell? ⟨b,1,none⟩=some u:=by rw[Lib.cell_of_heap hb2];rfl
 have f1:w2.frozen? ⟨b,1,none⟩=false:=Lib.frozen_of_heap hb2 1
 have hne':v'.ownBlock≠some b:=by
  rcases hat with e|e
  ·rw[e];exact hne
  ·rw[e];intro e2;injection e2 with e2;omega
 obtain⟨ao,n',cap,rfl⟩: ∃ao n' cap,v'=.slice ao n' cap:=by
  rcases hown'.2 with⟨hv,_⟩|⟨g,cap,cur,hv,_⟩
  ·exact⟨_,_,_,hv⟩
  ·exact⟨_,_,_,hv⟩
 go_wp2
 go_ret2
 refine⟨rfl,.slice ao n' cap,?_,?_,hne',?_,?_,?_,?_,?_,fun k hk hkb hku=>?_⟩
 ·simp[World.setCell,Array.getElem?_modify,hb2]
 ·exact hown'.kept (row:=some b) ⟨rfl,rfl,rfl,by simp[World.setCell],fun k _ hk=>Below.heap_setCell _ _ _ _ (fun e=>hk (by simp[e]))⟩ (Or.inr hne')
 ·exact hat
 ·have:=hgrow.size
  simp only[World.setCell,Array.size_modify]
  omega
 ·exact hgrow.os.trans ho1
 ·exact hgrow.tape.trans ht1
 ·exact hgrow.output.trans hu1
 ·rw[Below.heap_setCell _ _ _ _ hkb,hgrow.block k (by omega) (fun e=>hku e.symm),hk1 k hkb]
end
end
section
open Go.Shelf Go.RowKit Go.Lib
def bdX (tB tb:TypeId)(s:ByteArray):ObX where
 ok _ h F v:= ∃(b:Nat) (p u:Value) (w:World),v=.pointer (some ⟨b,0,none⟩)∧(p=.pointer none∨p=.pointer (some ⟨b,0,none⟩))∧h b=some (.cells #[p,u] tB (0,0))∧(∀k,u.ownBlock=some k→w.heap[k]? =h k)∧
  w.ownsRow 0 tb 1 u s.size (strCells s)∧u.ownBlock≠some b∧(s.size=0→u=.slice none 0 0)∧ ∀c,F c↔(c=b∨u.ownBlock=some c)
 mono:=by
  rintro σ σ' h h' F v _ hF ⟨b,p,u,w,h1,h2,h3,h4,h5,h6,h7,h8⟩
  exact⟨b,p,u,w,h1,h2,by rw[hF b ((h8 b).2 (.inl rfl))];exact h3,fun k hk=>by rw[hF k ((h8 k).2 (.inr hk))];exact h4 k hk,h5,h6,h7,h8⟩
 one:=by rintro σ h F v ⟨b,_,_,_,h1,_⟩;rw[h1];rfl
theorem strCells_app (a b:ByteArray):strCells (a++b)=strCells a++strCells b:=by
 unfold strCells
 rw[ByteArray.data_append]
 simp
theorem freeze_heap (w:World)(p:Addr)(n:Nat){k:Nat}(hk:k≠p.block):(w.freeze p n).heap[k]? =w.heap[k]? :=by
 unfold World.freeze
 split
 ·rfl
 ·simp only[Array.getElem?_modify]
  rw[if_neg (fun e=>hk e.symm)]
theorem freeze_size (w:World)(p:Addr)(n:Nat):(w.freeze p n).heap.size=w.heap.size:=by
 unfold World.freeze
 split
 ·rfl
 ·simp
section
variable {P:Program}{ρ:Ren}
theorem owns_swap {w w':World}{e:TypeId}{z n:Nat}{u:Value}{xs:List Value}(hk: ∀k,u.ownBlock=some k→w'.heap[k]? =w.heap[k]?)(h:w.ownsRow 0 e z u n xs):w'.ownsRow 0 e z u n xs:=by
 refine⟨h.1,?_⟩
 rcases h.2 with h1|⟨g,cap,cur,hv,hb,hh,r⟩
 ·exact .inl h1
 ·exact .inr ⟨g,cap,cur,hv,hb,(hk g (by rw[hv];rfl)).trans hh,r⟩
theorem owns_lt {w:World}{e:TypeId}{z n:Nat}{u:Value}{xs:List Value}(h:w.ownsRow 0 e z u n xs){k:Nat}(hk:u.ownBlock=some k):k<w.heap.size:=by
 rcases h.2 with⟨h1,_⟩|⟨g,cap,cur,hv,hb,hh,r⟩
 ·rw[h1] at hk;cases hk
 ·rw[hv] at hk
  have:g=k:=by simpa [Value.ownBlock] using hk
  subst this
  rcases Nat.lt_or_ge g w.heap.size with h|h
  ·exact h
  ·rw[Array.getElem?_eq_none h] at hh;cases hh
set_option maxRecDepth 100000 in
theorem string_raw (L:Lays.n169 P ρ)(X:Builder.Extra P ρ){b g cap:Nat}{p:Value}(l:List UInt8)(w:World)(h0:l≠[])(hbk:w.heap[b]? =some (.cells #[p,.slice (some ⟨g,0,none⟩) l.length cap] (ρ.t 72) (0,0)))
 (hown:w.ownsRow 0 (ρ.t 5) 1 (.slice (some ⟨g,0,none⟩) l.length cap) l.length (Lib.byteCells l)):
 Calls P (ρ.f 169) #[.pointer (some ⟨b,0,none⟩)] w fun e w'=>e=.returned (.string ⟨l.toArray⟩)∧(∀k,k≠g→w'.heap[k]? =w.heap[k]?)∧w'.heap.size=w.heap.size∧Below 0 w w':=by
 have hl0:l.length≠0:=by simpa using h0
 obtain⟨cur,hg,hnc,hcm,hcs,htake⟩: ∃cur,w.heap[g]? =some (.cells cur (ρ.t 5) (0,0))∧l.length≤cap∧cap≤maxLen∧cur.size=cap*1∧cur.toList.take (l.length*1)=Lib.byteCells l:=by
  rcases hown.2 with⟨_,hz⟩|⟨g',cap',cur,hv,hb,r⟩
  ·exact absurd hz hl0
  ·injection hv with h1 h2 h3
   injection h1 with h1
   injection h1 with h1
   subst h1;subst h3
   exact⟨cur,r⟩
 have c1:w.drew.cell? ⟨b,1,none⟩=some (.slice (some ⟨g,0,none⟩) l.length cap):=by
  have:w.drew.heap[b]? =some (.cells #[p,.slice (some ⟨g,0,none⟩) l.length cap] (ρ.t 72) (0,0)):=hbk
  rw[Lib.cell_of_heap this];rfl
 have hSD:(Builtin.unsafeSliceData_ #[(ρ.t 37)] (ρ.t 127) #[.slice (some ⟨g,0,none⟩) l.length cap]).run P w.drew=.ok (.pointer (some ⟨g,0,none⟩)) w.drew:=
  Lib.run_unsafeSliceData_row _ _ _ _ _ _ (by omega)
 have hUS:(Builtin.unsafeString_ #[(ρ.t 127),(ρ.t 3)] (ρ.t 9) #[.pointer (some ⟨g,0,none⟩),.int .i64 l.length]).run P w.drew=.ok (.string ⟨l.toArray⟩) (w.drew.freeze ⟨g,0,none⟩ l.length):=by
  refine Lib.run_unsafeString_row w.drew (ρ.t 127) (ρ.t 3) (ρ.t 9) (ρ.t 5) L.t127 X.cellsByte g cur.size (by have hg':w.drew.heap[g]? =some (.cells cur (ρ.t 5) (0,0)):=hg;simp[World.shape?,hg']) l h0 (by omega) (by unfold maxLen at hcm;omega) ?_
  intro j x hx
  have:=hown.cells (g:=g) rfl j (.int .u8 x.toNat) (by simp[Lib.byteCells,hx])
  exact this
 have mixed:=L.mixed
 have t72:=L.t72;have a72:=L.a72;have z72:=L.z72;have v72:=L.v72;have u72:=run_underlying L.t72
 have t70:=L.t70;have a70:=L.a70;have z70:=L.z70;have v70:=L.v70;have u70:=run_underlying L.t70
 have t37:=L.t37;have a37:=L.a37;have z37:=L.z37;have v37:=L.v37;have u37:=run_underlying L.t37
 have t127:=L.t127;have a127:=L.a127;have z127:=L.z127;have v127:=L.v127;have u127:=run_underlying L.t127
 have t3:=L.t3;have a3:=L.a3;have z3:=L.z3;have v3:=L.v3;have u3:=run_underlying L.t3
 have t9:=L.t9;have a9:=L.a9;have z9:=L.z9;have v9:=L.v9;have u9:=run_underlying L.t9
 have t5:=X.t5;have a5:=X.a5;have z5:=X.z5;have v5:=X.v5;have u5:=run_underlying X.t5
 go_enter L.f169,Body.n169_ntmps ρ
 go_wp2
 go_region_o
 all_goals (go_wp2;go_ret;exact⟨rfl,fun k hk=>freeze_heap w.drew ⟨g,0,none⟩ _ hk,freeze_size w.drew ⟨g,0,none⟩ _,Lib.below_freeze (Below.drew (Below.refl 0 w)) (p:=⟨g,0,none⟩) (Nat.zero_le _) _⟩)
theorem WriteString_at (L:Lays.n166 P ρ)(X:Builder.Extra P ρ)(he: ∀(vals:Array Value) (w:World),(callFunc (ρ.f 166) vals).run P w=.ok (.enter (ρ.f 166) vals) w)(s x:ByteArray)(h0:0<x.size)(hlen:s.size+x.size≤140737488355328):
 FunQ P (ρ.f 166) [.lp 0 0,.d (.v (.string x))] [.x (bdX (ρ.t 72) (ρ.t 5) s) 0] (just (.tup [.d (.v (.int .i64 x.size)),.d (.v .nilIface)]) [.x (bdX (ρ.t 72) (ρ.t 5) (s++x)) 0]):=by
 refine⟨he,fun w g vals hI hl hr=>?_⟩
 match vals,hl with
 |[v0,v1],_=>
  have r0:=hr 0 _ v0 rfl rfl
  have r1:=(hr 1 _ v1 rfl rfl).inv_v
  obtain⟨ho1,⟨b,p,u,wa,e1,e2,e3,e4,e5,e6,e7,e8⟩,ho4⟩:=hI.obs 0 _ rfl
  have hv0:v0=.pointer (some ⟨b,0,none⟩):=by
   cases r0 with
   |lp _ _ b' h0' h'=>
    rw[e1] at h'
    injection h' with h'
    injection h' with h'
    injection h' with h'
    subst h'
    rfl
  subst hv0
  subst r1
  have hown:w.ownsRow 0 (ρ.t 5) 1 u s.size (strCells s):=owns_swap (fun k hk=>(e4 k hk).symm) e5
  refine(write_raw L X x e2 e3 hown e6 hlen).mono fun e w' ⟨he',u',hb',hown',hne',hat',hsz,hos,ht,hout,hkeep⟩=>?_
  have hblt:=(ho4 b ((e8 b).2 (.inl rfl)))
  have hsx:(s++x).size=s.size+x.size:=ByteArray.size_append ..
  have J:=hI.turn (k:=0) (o':=.x (bdX (ρ.t 72) (ρ.t 5) (s++x)) 0) (g':={ g with foot:=fun k=>if k=0 then(fun c=>c=b∨u'.ownBlock=some c) else g.foot k }) rfl (fun z e rows n h=>by cases h) (by rw[ho1];exact Nat.zero_lt_one)
   ⟨fun _ _ _ h=>h,fun _ _ h=>⟨h,rfl⟩⟩ rfl (fun j hj=>⟨rfl,by simp[hj]⟩) hos ht hout hsz
   (fun c hc hn=>hkeep c hc (fun e=>hn ((e8 c).2 (.inl e))) (fun e=>hn ((e8 c).2 (.inr e))))
   ⟨ho1,⟨b,_,u',w',e1,.inr rfl,hb',fun _ _=>rfl,by rw[hsx,strCells_app];exact hown',hne',fun h=>by omega,fun c=>Iff.rfl⟩,fun c hc=>by
     rcases hc with rfl|hc
     ·exact⟨hblt.1,Nat.lt_of_lt_of_le hblt.2.1 hsz,hblt.2.2⟩
     ·refine⟨?_,owns_lt hown' hc,?_⟩
      ·rcases hat' with h|h
       ·exact(ho4 c ((e8 c).2 (.inr (h.symm.trans hc)))).1
       ·rw[h] at hc
        injection hc with hc
        exact .inl (by omega)
      ·rcases hat' with h|h
       ·exact(ho4 c ((e8 c).2 (.inr (h.symm.trans hc)))).2.2
       ·rw[h] at hc
        injection hc with hc
        exact fun o=>hI.new_none (by omega) o⟩
   (fun c hc=>by
     rcases hc with rfl|hc
     ·exact .inl ((e8 _).2 (.inl rfl))
     ·rcases hat' with h|h
      ·exact .inl ((e8 c).2 (.inr (h.symm.trans hc)))
      ·rw[h] at hc
       injection hc with hc
       exact .inr (by omega))
  refine⟨_,_,_,_,he',⟨rfl,rfl⟩,J,?_⟩
  refine RT.tup _ [.int .i64 x.size,.nilIface] rfl fun i t y h1 h2=>?_
  match i with
  |0=>simp at h1 h2;subst h1;subst h2;exact .d _ _ (.v _)
  |1=>simp at h1 h2;subst h1;subst h2;exact .d _ _ (.v _)
  |i+2=>simp at h1
theorem String_at (L:Lays.n169 P ρ)(X:Builder.Extra P ρ)(he: ∀(vals:Array Value) (w:World),(callFunc (ρ.f 169) vals).run P w=.ok (.enter (ρ.f 169) vals) w)(s:ByteArray):
 FunQ P (ρ.f 169) [.lp 0 0] [.x (bdX (ρ.t 72) (ρ.t 5) s) 0] (just (.d (.v (.string s))) [.dead]):=by
 refine⟨he,fun w g vals hI hl hr=>?_⟩
 match vals,hl with
 |[v0],_=>
  have r0:=hr 0 _ v0 rfl rfl
  obtain⟨ho1,⟨b,p,u,wa,e1,e2,e3,e4,e5,e6,e7,e8⟩,ho4⟩:=hI.obs 0 _ rfl
  have hv0:v0=.pointer (some ⟨b,0,none⟩):=by
   cases r0 with
   |lp _ _ b' h0' h'=>
    rw[e1] at h'
    injection h' with h'
    injection h' with h'
    injection h' with h'
    subst h'
    rfl
  subst hv0
  have hown:w.ownsRow 0 (ρ.t 5) 1 u s.size (strCells s):=owns_swap (fun k hk=>(e4 k hk).symm) e5
  suffices h:Calls P (ρ.f 169) #[.pointer (some ⟨b,0,none⟩)] w fun e w'=>e=.returned (.string s)∧(∀k,k<w.heap.size→u.ownBlock≠some k→w'.heap[k]? =w.heap[k]?)∧w.heap.size≤w'.heap.size∧w'.os=w.os∧w'.tape=w.tape∧w'.output=w.output by
   refine h.mono fun e w' ⟨he',hk,hsz,hos,ht,hout⟩=>?_
   have J:=hI.turn (k:=0) (o':=.dead) (g':=g) rfl (fun z e rows n h=>by cases h) (by rw[ho1];exact Nat.zero_lt_one)
    ⟨fun _ _ _ h=>h,fun _ _ h=>⟨h,rfl⟩⟩ rfl (fun j hj=>⟨rfl,rfl⟩) hos ht hout hsz (fun c hc hn=>hk c hc fun e=>hn ((e8 c).2 (.inr e))) trivial (fun c hc=>hc.elim)
   exact⟨_,_,_,_,he',⟨rfl,rfl⟩,J,.d _ _ (.v _)⟩
  by_cases hs:s.size=0
  ·obtain rfl:=e7 hs
   have:s=⟨#[]⟩:=by
    apply ByteArray.ext
    have:s.data.size=0:=hs
    exact Array.eq_empty_of_size_eq_zero this
   subst this
   refine(Any.Builder_String_nil L X w.heap.size b p w e3).mono fun e w' ⟨h1,h2⟩=>⟨h1,fun k hk _=>h2.block k hk,h2.size,h2.os,h2.tape,h2.output⟩
  ·obtain⟨g0,cap,rfl⟩: ∃g0 cap,u=.slice (some ⟨g0,0,none⟩) s.size cap:=by
    rcases hown.2 with⟨_,hz⟩|⟨g0,cap,cur,hv,_⟩
    ·exact absurd hz hs
    ·exact⟨g0,cap,hv⟩
   have hne:s.data.toList≠[]:=fun h=>hs (by
    have:=congrArg List.length h
    simpa using this)
   have:=string_raw L X (b:=b) (p:=p) s.data.toList w hne e3 (by exact hown)
   refine this.mono fun e w' ⟨h1,h2,h3,h4⟩=>⟨by rw[h1],fun k hk hn=>h2 k fun e=>hn (by rw[e];rfl),h4.size,h4.os,h4.tape,h4.output⟩
end
section
variable {E:Env}{N:Nm}{Q:Exit→St→Prop}{S:St}{ops l:List Oper}{ty:TypeId}{pos:String}{after:Array Edge}{gd:Option (Nat×Bool)}{d:Nat}
theorem bdX_new {tB tb:TypeId}{b:Nat}{h:Nat→Option Obj}{σ:Sto}{F:Nat→Prop}(hb:h b=some (.cells #[.pointer none,.slice none 0 0] tB (0,0)))(hF: ∀c,F c↔c=b):(bdX tB tb ⟨#[]⟩).ok σ h F (.pointer (some ⟨b,0,none⟩)):=
 ⟨b,_,_,default,rfl,.inl rfl,hb,fun k hk=>(by cases hk),⟨rfl,.inl ⟨rfl,rfl⟩⟩,fun h=>(by cases h),fun _=>rfl,fun c=>(hF c).trans ⟨fun h=>.inl h,fun h=>h.elim id fun h=>(by cases h)⟩⟩
theorem zero_builder {t:TypeId}(hk:(E.ty t).known=true)(hz:(E.ty t).zero=[.v (.pointer none),.nl 1]): ∃inf z,E.P.info? t=some inf∧inf.zero=some z∧z.cells= #[.pointer none,.slice none 0 0]∧inf.size=2:=by
 obtain⟨inf,z,hinf,hsz,_,hzz,hzs,hzc⟩:=E.info hk
 refine⟨inf,z,hinf,hzz,?_,?_⟩
 ·obtain⟨h1,h2,h3⟩:=zerosAre_ok hzs
  rw[hz] at h1 h3
  have e:z.cells.toList=[.pointer none,.slice none 0 0]:=by
   match hc:z.cells.toList,h1 with
   |[a,b],_=>
    rw[hc] at h3
    have ha:=h3 (fun _ _=>none) 0 _ _ rfl rfl
    have hb:=h3 (fun _ _=>none) 1 _ _ rfl rfl
    cases ha
    cases hb
    rfl
  rw[←Array.toArray_toList (xs:=z.cells),e]
 ·obtain⟨h1,h2,h3⟩:=zerosAre_ok hzs
  rw[hz] at h1
  have:z.cells.size=2:=by rw[←Array.length_toList];exact h1.symm
  omega
theorem WL.allocB {t tb:TypeId}(hw:S.want ops ⟨some d,.alloc t,ty,pos,after,gd⟩=some true)(hd:Nat.blt d N.n=true)(hk:(E.ty t).known=true)(hz:(E.ty t).zero=[.v (.pointer none),.nl 1])
 (k:WL E.P N ops l Q ⟨(S.set d (.lp S.ob.length 0)).tm,S.ob++[.x (bdX t tb ⟨#[]⟩) 0]⟩):WL E.P N ops (⟨some d,.alloc t,ty,pos,after,gd⟩::l) Q S:=
 WL.eff (by simp) hw hd (fun w0 σ0 a w g r=>by
  obtain⟨inf,z,hinf,hzz,hzc,_⟩:=zero_builder hk hz
  obtain⟨g',hle,hσ,hl1,hγ,I'⟩:=r.inv.addF (below_alloc w (.cells #[.pointer none,.slice none 0 0] t)) (.x (bdX t tb ⟨#[]⟩) 0) (.pointer (some ⟨w.heap.size,0,none⟩)) (fun c=>c=w.heap.size) (fun g' hle hσ hl1 hγ hf=>by
   refine⟨⟨hl1,by rw[hγ];exact bdX_new (heap_alloc_new w _) fun c=>by rw[hf],fun b hb=>?_⟩,fun b hb=>?_⟩
   ·rw[hf] at hb
    have hb':b=w.heap.size:=hb
    subst hb'
    exact⟨.inl r.inv.below.size,(Array.getElem?_eq_some_iff.1 (heap_alloc_new w (.cells #[.pointer none,.slice none 0 0] t))).1,fun o=>by rw[hσ];exact r.inv.new_none (Nat.le_refl _) o⟩
   ·have hb':g'.foot _ b:=hb
    rw[hf] at hb'
    exact Nat.le_of_eq hb'.symm) (by rw[r.hm];exact r.hl)
  refine⟨_,_,g',?_,hle,I',.lp _ _ _ (by rw[hl1];exact Nat.zero_lt_one) hγ⟩
  simp[execOp,Instr.alloc,zeroValue,typeInfo,hinf,hzz,newVar,newRow,hzc]) k
theorem WL.storeB {t tb:TypeId}{x v:Operand}{j:Nat}{s:ByteArray}(hw:S.want ops ⟨none,.store t x v,ty,pos,after,gd⟩=some true)(hk:(E.ty t).known=true)(hz:(E.ty t).zero=[.v (.pointer none),.nl 1])
 (hx:S.ev x=.lp j 0) (hj:S.ob[j]? =some (.x (bdX t tb s) 0)) (hv:S.ev v=.d (.agg [.v (.pointer none),.nl 1]))
 (k:WL E.P N ops l Q ⟨S.tm,S.ob.set j (.x (bdX t tb ⟨#[]⟩) 0)⟩):WL E.P N ops (⟨none,.store t x v,ty,pos,after,gd⟩::l) Q S:=
 WL.effskip (by simp) hw (fun w0 σ0 a w g r=>by
  obtain⟨inf,z,hinf,hzz,hzc,hsz⟩:=zero_builder hk hz
  have hxr:=r.ev x
  rw[hx] at hxr
  obtain⟨b,h0,hγ,hxv⟩:=hxr.inv_lp
  have hvr:=r.ev v
  rw[hv] at hvr
  have hvv:a.eval v=.agg #[.pointer none,.slice none 0 0]:=by
   generalize a.eval v=y at hvr
   cases hvr with
   |d _ _ h=>
    cases h with
    |agg _ vs hl hh=>
     match vs,hl with
     |[p,q],_=>
      have hp:=hh 0 _ p rfl rfl
      have hq:=hh 1 _ q rfl rfl
      cases hp
      cases hq
      rfl
  obtain⟨ho1,⟨b',p,u,wa,e1,e2,e3,e4,e5,e6,e7,e8⟩,ho4⟩:=r.inv.obs j _ hj
  rw[hγ] at e1
  injection e1 with e1;injection e1 with e1;injection e1 with e1 _ _
  subst e1
  obtain⟨w',hrun,hh',g1,g2,g3,g4,g5⟩:=run_storeCells (P:=E.P) [.pointer none,.slice none 0 0] [p,u] 0 0 w e3 (by simp) (by simp[Value.oneCell'])
  have J:=r.inv.turn (k:=j) (o':=.x (bdX t tb ⟨#[]⟩) 0) (g':={ g with foot:=fun k=>if k=j then(fun c=>c=b) else g.foot k }) hj (fun z e rows n h=>by cases h) (by rw[ho1];exact Nat.zero_lt_one)
   ⟨fun _ _ _ h=>h,fun _ _ h=>⟨h,rfl⟩⟩ rfl (fun i hi=>⟨rfl,by simp[hi]⟩) g1 g2 g3 (by omega)
   (fun c hc hn=>g5 c fun e=>hn ((e8 c).2 (.inl e)))
   ⟨ho1,by
     show(bdX t tb ⟨#[]⟩).ok _ _ _ (g.γ j 0)
     rw[hγ]
     exact bdX_new hh' fun c=>by simp,fun c hc=>by
     have hc':c=b:=by simpa using hc
     subst hc'
     obtain⟨q1,q2,q3⟩:=ho4 _ ((e8 _).2 (.inl rfl))
     exact⟨q1,by omega,q3⟩⟩
   (fun c hc=>.inl ((e8 c).2 (.inl (by simpa [Gh.at] using hc))))
  refine⟨w',{ g with foot:=fun k=>if k=j then(fun c=>c=b) else g.foot k },?_,⟨fun _ _ _ h=>h,fun _ _ h=>⟨h,rfl⟩⟩,J⟩
  simp[execOp,Instr.storeAt,Instr.sureAddr,hxv,storeVar,sizeOf,typeInfo,hinf,hsz,hvv,Value.cells,hrun]) k
end
section
variable {P:Program}{E:Env}{N:Nm}{Q:Exit→St→Prop}{tm:Nat→T}{ob:List Ob}{ops l:List Oper}{ty:TypeId}{pos:String}{after:Array Edge}{gd:Option (Nat×Bool)}{d:Nat}{G:List Nat}
theorem WG.alB {t:TypeId}(tb:TypeId){K:Nat}(hw:St.want ⟨tm,ob⟩ ops ⟨some d,.alloc t,ty,pos,after,gd⟩=some true)(hd:Nat.blt d N.n=true)(hk:(E.ty t).known=true)(hz:(E.ty t).zero=[.v (.pointer none),.nl 1])(hK:ob.length=K)
 (k:WG G E.P N ops l Q ⟨upd tm d (.lp K 0),ob++[.x (bdX t tb ⟨#[]⟩) 0]⟩):WG G E.P N ops (⟨some d,.alloc t,ty,pos,after,gd⟩::l) Q ⟨tm,ob⟩:=by
 subst hK;exact WL.allocB hw hd hk hz k
theorem WG.stB {t tb:TypeId}{x v:Operand}{j:Nat}{s:ByteArray}(hw:St.want ⟨tm,ob⟩ ops ⟨none,.store t x v,ty,pos,after,gd⟩=some true)(hk:(E.ty t).known=true)(hz:(E.ty t).zero=[.v (.pointer none),.nl 1])
 (hx:St.ev ⟨tm,ob⟩ x=.lp j 0) (hj:ob[j]? =some (.x (bdX t tb s) 0)) (hv:St.ev ⟨tm,ob⟩ v=.d (.agg [.v (.pointer none),.nl 1]))
 (k:WG G E.P N ops l Q ⟨tm,ob.set j (.x (bdX t tb ⟨#[]⟩) 0)⟩):WG G E.P N ops (⟨none,.store t x v,ty,pos,after,gd⟩::l) Q ⟨tm,ob⟩:=WL.storeB (S:=⟨tm,ob⟩) hw hk hz hx hj hv k
end
end
abbrev bdO (s:ByteArray):Ob:=.x (bdX 69 5 s) 0
theorem WriteString_fn (s x:ByteArray)(h0:0<x.size)(hlen:s.size+x.size≤140737488355328):FunQ env.P 31 [.lp 0 0,.d (dS x)] [bdO s] (just (.tup [.d (dI x.size),.d (.v .nilIface)]) [bdO (s++x)]):=
 WriteString_at (ρ:=lays156_ren) { lays156 with } lays156_X (entersT Tryz.func31 (c:=_) rfl (by kernel_rfl)) s x h0 hlen
theorem String_fn (s:ByteArray):FunQ env.P 33 [.lp 0 0] [bdO s] (just (.d (dS s)) [.dead]):=
 String_at (ρ:=lays156_ren) { lays156 with } lays156_X (entersT Tryz.func33 (c:=_) rfl (by kernel_rfl)) s
abbrev nlS :ByteArray:=⟨#[10]⟩
section
variable {P:Program}{E:Env}{N:Nm}{tm tm':Nat→T}{ob ob':List Ob}{ops l:List Oper}{ty:TypeId}{pos:String}{after:Array Edge}{gd:Option (Nat×Bool)}{d:Nat}
theorem OpS1.cq {f:FuncId}{fop:Operand}{xs:List Operand}{tys:List TypeId}{cap args:List T}{obA obB:List Ob}{t t':T}(idx off:List Nat){KK:Nat}(lend:Bool)(hw:St.want ⟨tm,ob⟩ ops ⟨some d,.call ⟨.value fop,xs.toArray,tys.toArray⟩,ty,pos,after,gd⟩=some true)(hd:Nat.blt d N.n=true)
 (hc:FunQ E.P f args obA (just t obB)) (hclo:cloOf (norm ob (St.ev ⟨tm,ob⟩ fop))=some (f,cap)) (hK:KK=ob.length) (ha:argsT E ⟨tm,ob⟩ lend xs tys++cap=T.renL ⟨idx,off,KK⟩ args) (hlp:T.lpOKL ⟨idx,off,KK⟩ args=true) (hnd:nodupB idx=true)
 (hA:Nat.beq obA.length idx.length=true) (hs:startL ⟨idx,off,KK⟩ 0 obA=true) (hmt:matchO ⟨idx,off,KK⟩ ob 0 obA) (hno:lend=false∨idx=[]) (hal:aliveN idx.length obB=true) (hfl:lend=true→t.flat=true∧ ∀o∈obB,o.flat)
 (ht:T.ren ⟨idx,off,KK⟩ t=t') (ho:mergeO ⟨idx,off,KK⟩ 0 ob idx obB=ob'):
 OpS1 E.P N ops ⟨some d,.call ⟨.value fop,xs.toArray,tys.toArray⟩,ty,pos,after,gd⟩ tm t' ob ob':=fun tm' hag l Q k'=>by
 have hfo:St.ev ⟨tm',ob⟩ fop=St.ev ⟨tm,ob⟩ fop:=ev_agree hag (by simp only[Op.operands,Call.operands,Array.toList_append,List.mem_append];exact .inl (by simp))
 refine WG.cq (G:=[]) idx off lend (by rw[want_agree hag];exact hw) hd hc (by rw[hfo];exact hclo) hK ?_ hlp hnd hA hs hmt hno hal hfl ht ho k'
 rw[argsT_agree (S:=⟨tm,ob⟩) (S':=⟨tm',ob⟩) rfl lend fun x hx=>ev_agree hag (by simp only[Op.operands,Call.operands,Array.toList_append,List.mem_append];exact .inr (by simpa using hx))]
 exact ha
theorem WD.cq {K:St→Prop}{f:FuncId}{fop:Operand}{xs:List Operand}{tys:List TypeId}{cap args:List T}{obA obB:List Ob}{t t':T}(idx off:List Nat){KK:Nat}(lend:Bool)(hw:St.want ⟨tm,ob⟩ ops ⟨some d,.call ⟨.value fop,xs.toArray,tys.toArray⟩,ty,pos,after,gd⟩=some true)(hd:Nat.blt d N.n=true)
 (hc:FunQ E.P f args obA (just t obB)) (hclo:cloOf (norm ob (St.ev ⟨tm,ob⟩ fop))=some (f,cap)) (hK:KK=ob.length) (ha:argsT E ⟨tm,ob⟩ lend xs tys++cap=T.renL ⟨idx,off,KK⟩ args) (hlp:T.lpOKL ⟨idx,off,KK⟩ args=true) (hnd:nodupB idx=true)
 (hA:Nat.beq obA.length idx.length=true) (hs:startL ⟨idx,off,KK⟩ 0 obA=true) (hmt:matchO ⟨idx,off,KK⟩ ob 0 obA) (hno:lend=false∨idx=[]) (hal:aliveN idx.length obB=true) (hfl:lend=true→t.flat=true∧ ∀o∈obB,o.flat)
 (ht:T.ren ⟨idx,off,KK⟩ t=t') (ho:mergeO ⟨idx,off,KK⟩ 0 ob idx obB=ob)
 (k:WD E.P N ops ob K l (upd tm d t')):WD E.P N ops ob K (⟨some d,.call ⟨.value fop,xs.toArray,tys.toArray⟩,ty,pos,after,gd⟩::l) tm:=
 .cons t' (OpS1.cq idx off lend hw hd hc hclo hK ha hlp hnd hA hs hmt hno hal hfl ht ho) k
end
def numsK (n:Co)(i:Nat):List Int:=[(i:Int),n.op,n.a,n.b,n.c,n.num]
def wordK (n:Co)(i:Nat):List ByteArray:=(numsK n i).map itoaS
abbrev dashS :ByteArray:=⟨#[45]⟩
noncomputable def valT (n:Co):ByteArray:=if hasVl n.op=true then(valOfM n.val).1.enc else dashS
noncomputable def lineK (n:Co)(i:Nat):ByteArray:=joinS (wordK n i++[valT n]) ⟨#[32]⟩++nlS
noncomputable def coreT (cs:List Co):Nat→ByteArray
 |0=>⟨#[]⟩
 |i+1=>coreT cs i++lineK (cs.getD i default) i
theorem kidCB_bnd {n:Co}{k i:Nat}(h:kidCB n k i=true):0≤kidC n i∧kidC n i≤k:=by
 unfold kidCB at h
 split at h
 ·simp only[Bool.and_eq_true,decide_eq_true_eq] at h
  omega
 ·rw[decide_eq_true_eq] at h
  omega
theorem coreC_zero {n:Co}{k:Nat}(h:coreC n k=0):(1≤n.op∧n.op≤17)∧formC3 n k=true∧(hasVl n.op=true→(valOfM n.val).2=0)∧numOkC n=true:=by
 unfold coreC at h
 split at h
 ·exact absurd h (by decide)
 ·rename_i h1
  split at h
  ·exact absurd h (by decide)
  ·rename_i h2
   split at h
   ·rename_i h3
    exact absurd h h3.2
   ·rename_i h3
    split at h
    ·exact absurd h (by decide)
    ·split at h
     ·exact absurd h (by decide)
     ·rename_i h5
      exact⟨Classical.not_not.1 h1,by simpa using h2,fun hv=>Classical.not_not.1 fun e=>h3 ⟨hv,e⟩,by simpa using h5⟩
theorem numsK_bound {n:Co}{k:Nat}(h:coreC n k=0)(hk:k≤1048576): ∀x∈numsK n k,0≤x∧x≤1048576:=by
 obtain⟨h1,h2,h3,h4⟩:=coreC_zero h
 unfold formC3 at h2
 simp only[Bool.and_eq_true,Bool.or_eq_true,decide_eq_true_eq] at h2
 obtain⟨⟨⟨⟨k0,k1⟩,k2⟩,kn⟩,kv⟩:=h2
 have b0:=kidCB_bnd k0
 have b1:=kidCB_bnd k1
 have b2:=kidCB_bnd k2
 have e0:kidC n 0=n.a:=rfl
 have e1:kidC n 1=n.b:=rfl
 have e2:kidC n 2=n.c:=rfl
 have hn:0≤n.num∧n.num≤59:=by
  unfold numOkC at h4
  split at h4
  ·simp only[Bool.and_eq_true,decide_eq_true_eq] at h4
   have l0:0≤numLoC n.op:=by unfold numLoC;split<;>omega
   have l1:numHiC n.op≤59:=by unfold numHiC;(repeat' split)<;>omega
   omega
  ·rename_i hh
   rcases kn with kn|kn
   ·exact absurd kn hh
   ·omega
 intro x hx
 simp only[numsK,List.mem_cons,List.not_mem_nil,or_false] at hx
 rcases hx with rfl|rfl|rfl|rfl|rfl|rfl<;>omega
theorem val_empty {n:Co}{k:Nat}(h:coreC n k=0)(hv:hasVl n.op=false):n.val.length=0:=by
 obtain⟨h1,h2,h3,h4⟩:=coreC_zero h
 unfold formC3 at h2
 simp only[Bool.and_eq_true,Bool.or_eq_true,decide_eq_true_eq] at h2
 rcases h2.2 with h|h
 ·rw[hv] at h;cases h
 ·exact h
theorem val_some {n:Co}{k:Nat}(h:coreC n k=0)(hv:hasVl n.op=true):(valOfM n.val).2=0∧n.val.length≠0:=by
 obtain⟨h1,h2,h3,h4⟩:=coreC_zero h
 refine⟨h3 hv,fun e=>?_⟩
 have:=h3 hv
 rw[valOfM,if_pos (by omega)] at this
 exact absurd this (by decide)
theorem word_size {n:Co}{k:Nat}(h:coreC n k=0)(hk:k≤1048576): ∀w∈wordK n k,1≤w.size∧w.size≤21:=by
 intro w hw
 obtain⟨x,hx,rfl⟩:=List.mem_map.1 hw
 have:=numsK_bound h hk x hx
 exact itoaS_size x (by omega) (by omega)
theorem valT_size {n:Co}{k:Nat}(h:coreC n k=0):(valT n).size≤60000:=by
 unfold valT
 split
 ·rename_i hv
  exact V.enc_le (valOfM_fine (val_some h hv).1).1
 ·show 1≤60000
  omega
theorem join_line_size {n:Co}{k:Nat}(h:coreC n k=0)(hk:k≤1048576):(joinS (wordK n k++[valT n]) ⟨#[32]⟩).size≤420007:=by
 have h1:=joinS_size_le (wordK n k++[valT n]) ⟨#[32]⟩ 60000 fun x hx=>by
  rcases List.mem_append.1 hx with hx|hx
  ·have:=word_size h hk x hx;omega
  ·rw[List.mem_singleton] at hx
   rw[hx]
   exact valT_size h
 have h2:(wordK n k++[valT n]).length=7:=rfl
 have h3:(⟨#[32]⟩:ByteArray).size=1:=rfl
 rw[h2,h3] at h1
 exact h1
theorem lineK_size {n:Co}{k:Nat}(h:coreC n k=0)(hk:k≤1048576):1≤(lineK n k).size∧(lineK n k).size≤420008:=by
 have h1:=join_line_size h hk
 have h2:(lineK n k).size=(joinS (wordK n k++[valT n]) ⟨#[32]⟩).size+1:=by unfold lineK;rw[ByteArray.size_append];rfl
 omega
theorem coreT_size {cs:List Co}(h: ∀j,j<cs.length→coreC (cs.getD j default) j=0)(hl:cs.length≤1048576): ∀i,i≤cs.length→(coreT cs i).size≤420008*i
 |0,_=>Nat.le_refl _
 |i+1,hi=>by
  have h1:=coreT_size h hl i (by omega)
  have h2:=lineK_size (h i (by omega)) (by omega)
  rw[coreT,ByteArray.size_append]
  omega
theorem numberTexts_fn (q:TypeId×(Nat×Nat))(ns:List Int)(hl:ns.length≤1000)(hb: ∀x∈ns,0≤x∧x≤1048576):FunQ env.P 29 [.d (.sl 1 (ns.map intRow))] [tabO q] (just (.og 1 0) [tabO q,.gr 1 9 ((ns.map itoaS).map keyRow) 0 false]):=by
 refine FunQ.intro Tryz.func29 rfl (by kernel_rfl) rfl ?_
 repeat'(first|refine Z1 ?_|((refine SP (fun h=>?_) fun h=>?_)<;>(try(exfalso;first|contradiction|omega))))
 refine W.loopI (fun m S=> ∃(i:Nat) (rv:List (List D)),m=ns.length - i∧(i≤ns.length∧rv.length=i∧rv=((ns.take i).map itoaS).map keyRow)∧S=⟨ofL [(3,.og 1 0),(7,.d (.sl 1 (ns.map intRow))),(8,vI .i64 (ns.map intRow).length),(9,vI .i64 i)],[tabO q,.gr 1 9 rv 0 false]⟩) _ _ ⟨0,[],rfl,⟨by omega,rfl,rfl⟩,rfl⟩ (St.imp.of_le lE) ?_
 rintro m S ⟨i,rv,rfl,⟨hi,hrl,hrv⟩,rfl⟩
 by_cases hlt:i<ns.length
 ·have hx:=hb _ (getD_mem' (show Int.toNat (i:Int)<ns.length by rw[Int.toNat_natCast];exact hlt))
  have hf:=FormatInt_fn q (ns.getD (Int.toNat (i:Int)) default) (by omega) (by omega)
  have hn:((ns.take (i+1)).map itoaS).map keyRow=rv++[keyRow (itoaS (ns.getD (Int.toNat (i:Int)) default))]:=by
   rw[take_step hlt,List.map_append,List.map_append,←hrv,Int.toNat_natCast]
   rfl
  generalize itoaS (ns.getD (Int.toNat (i:Int)) default)=w at*
  repeat'(first|refine Z1 ?_|refine WG.cq (E:=env) [0] [0] false rfl rfl (hf) rfl rfl rfl rfl rfl rfl rfl (by first|exact trivial|exact⟨rfl,trivial⟩|exact⟨rfl,rfl,trivial⟩) (.inl rfl) rfl (fun h=>nomatch h) rfl rfl ?_|((refine SP (fun h=>?_) fun h=>?_)<;>(try(exfalso;first|contradiction|omega))))
  exact⟨_,_,by omega,⟨i+1,rv++[keyRow w],rfl,⟨by omega,by simp[hrl],hn.symm⟩,rfl⟩,(St.imp.rev 1 1 rfl).trans (St.imp.of_le lE)⟩
 ·obtain rfl:i=ns.length:=by omega
  rw[List.take_length] at hrv
  subst hrv
  repeat'(first|refine Z1 ?_|((refine SP (fun h=>?_) fun h=>?_)<;>(try(exfalso;first|contradiction|omega))))
  refine W.ret ?_
  exact RetR.own (ob':=[tabO q,.gr 1 9 ((ns.map itoaS).map keyRow) 0 false]) ⟨[0,1],[0,0],2⟩ (.inl rfl) rfl rO rfl rfl rfl rfl rfl rfl ⟨rfl,rfl,trivial⟩ rfl ⟨rfl,rfl⟩
noncomputable def valTx (cs:List Cell):ByteArray:=if cs.length=0 then dashS else(valOfM cs).1.enc
theorem valText_fn (q:TypeId×(Nat×Nat))(cs:List Cell)(hc:fitsC cs)(h0:cs.length≠0→(valOfM cs).2=0):FunQ env.P 30 [.d (cellsD cs)] [tabO q] (just (.d (dS (valTx cs))) [tabO q]):=by
 refine FunQ.intro Tryz.func30 rfl (by kernel_rfl) rfl ?_
 unfold valTx
 by_cases hl:cs.length=0
 ·rw[if_pos hl]
  repeat'(first|refine Z1 ?_|((refine SP (fun h=>?_) fun h=>?_)<;>(try(exfalso;first|contradiction|omega))))
  all_goals first|(exfalso;omega)|skip
  (refine W.ret ?_;refine RetR.tb' ?_)
  rfl
 ·rw[if_neg hl]
  have hvo:=(valOf_fn cs hc.1 hc.2).cast rfl (show _=T.tup [.d (.agg (valOfM cs).1.rowP),.d (dI (valOfM cs).2)] by rw[V.row_eq]) rfl
  have hv:=(valOfM_fine (h0 hl)).1
  have he:=encode_fn q (valOfM cs).1.count (valOfM cs).1 (Nat.le_refl _) hv
  generalize (valOfM cs).1.enc=e at*
  generalize (valOfM cs).1=v at*
  generalize (valOfM cs).2=c at*
  repeat'(first|refine Z1 ?_|refine WG.c (E:=env) rfl rfl (hvo) rfl rfl ?_|refine WG.cq (E:=env) [0] [0] false rfl rfl (he) rfl rfl rfl rfl rfl rfl rfl (by first|exact trivial|exact⟨rfl,trivial⟩|exact⟨rfl,rfl,trivial⟩) (.inl rfl) rfl (fun h=>nomatch h) rfl rfl ?_|((refine SP (fun h=>?_) fun h=>?_)<;>(try(exfalso;first|contradiction|omega))))
  all_goals first|(exfalso;omega)|skip
  (refine W.ret ?_;refine RetR.tb' ?_)
  rfl
end Go.Proofs.YtmmjbpgdkokjgaaGreatDoor
