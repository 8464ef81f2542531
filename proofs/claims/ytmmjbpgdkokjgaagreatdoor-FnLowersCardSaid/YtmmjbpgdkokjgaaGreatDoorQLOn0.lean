/-
  A text of this claim. Conditions: none.
-/
import Derived.Test.YtmmjbpgdkokjgaaGreatDoorQLLwG
import Derived.Test.YtmmjbpgdkokjgaaGreatDoorQLG17
import Derived.Test.YtmmjbpgdkokjgaaGreatDoorQLLw2
import Derived.Test.YtmmjbpgdkokjgaaGreatDoorQLLo1
import Derived.Test.YtmmjbpgdkokjgaaGreatDoorQLOr1
import Derived.Test.YtmmjbpgdkokjgaaGreatDoorQLV6
import Derived.Shelf.Strings.OnBuilder
import Derived.Test.YtmmjbpgdkokjgaaGreatDoorQLPgC
set_option linter.unusedVariables false
set_option linter.unusedSimpArgs false
set_option maxRecDepth 100000
set_option maxHeartbeats 16000000
namespace Go.Proofs.YtmmjbpgdkokjgaaGreatDoor
open Go.RowKit
def lastM (keys:List ByteArray)(vals:List V):Nat→ByteArray→Option V
 |0,_=>none
 |i+1,x=>if x=keys.getD i default then some (vals.getD i default) else lastM keys vals i x
def lastD (keys:List ByteArray)(vals:List V)(i:Nat)(x:ByteArray):Option D:=(lastM keys vals i x).map fun v=>.agg v.rowP
theorem lastD_step (keys:List ByteArray)(vals:List V)(i:Nat):(fun x=>if x=keys.getD i default then some (.agg (vals.getD i default).rowP) else lastD keys vals i x)=lastD keys vals (i+1):=by
 funext x
 simp only[lastD,lastM]
 split<;>rfl
theorem objK_mem (keys:List ByteArray)(vals:List V): ∀(i:Nat) (x:ByteArray),x∈objK keys i↔(lastM keys vals i x).isSome=true
 |0,x=>by simp[objK,lastM]
 |i+1,x=>by
  rw[objK,insK_mem,objK_mem keys vals i x,lastM]
  by_cases e:x=keys.getD i default
  ·rw[if_pos e];simp[e]
  ·rw[if_neg e];exact⟨fun h=>h.resolve_left e,.inr⟩
theorem objK_incr' (keys:List ByteArray): ∀i:Nat,incr (objK keys i)
 |0=>trivial
 |i+1=>insK_incr _ (objK_incr' keys i)
theorem insX_cons {α:Type}(key:ByteArray)(x:α)(a:ByteArray)(r:List ByteArray)(b:α)(s:List α):
 insX key x (a::r) (b::s)=if lessK a key=true then b::insX key x r s else if a=key then x::s else x::b::s:=by
 unfold insX
 by_cases h:lessK a key=true
 ·have hp:posK key (a::r)=posK key r+1:=by rw[posK_cons,if_pos h]
  have hh:hasK (a::r) key=hasK r key:=by simp[hasK,hp]
  rw[if_pos h,hh,hp]
  split<;>simp
 ·have hp:posK key (a::r)=0:=by rw[posK_cons,if_neg h]
  rw[if_neg h,hp]
  by_cases e:a=key
  ·have hh:hasK (a::r) key=true:=by rw[hasK,hp];simp[e]
   rw[if_pos hh,if_pos e]
   rfl
  ·have hh:hasK (a::r) key=false:=by rw[hasK,hp];simp[e]
   rw[if_neg (by rw[hh];simp),if_neg e]
   rfl
theorem insX_nil {α:Type}(key:ByteArray)(x:α):insX key x [] []=[x]:=by simp[insX,hasK,posK]
theorem ins_zip {α:Type}(key:ByteArray)(x:α): ∀(ks:List ByteArray) (xs:List α),incr ks→ks.length=xs.length→ ∀p,p∈(insK key ks).zip (insX key x ks xs)→p=(key,x)∨(p.1≠key∧p∈ks.zip xs)
 |[],[],_,_,p,hp=>by
  rw[insK_nil,insX_nil] at hp
  exact .inl (by simpa using hp)
 |[],_::_,_,h,_,_=>by simp at h
 |_::_,[],_,h,_,_=>by simp at h
 |a::r,b::s,hi,hl,p,hp=>by
  obtain⟨ha,hr⟩:=incr_cons.1 hi
  have hmem: ∀q:ByteArray×α,q∈r.zip s→q.1∈r:=fun q hq=>(List.of_mem_zip (a:=q.1) (b:=q.2) hq).1
  rw[insK_cons,insX_cons] at hp
  by_cases h:lessK a key=true
  ·rw[if_pos h,if_pos h,List.zip_cons_cons] at hp
   rcases List.mem_cons.1 hp with rfl|hp
   ·exact .inr ⟨fun e=>(by
     simp only at e
     rw[e,lessK_irrefl] at h
     cases h),by simp⟩
   ·rcases ins_zip key x r s hr (by simpa using hl) p hp with h1|⟨h1,h2⟩
    ·exact .inl h1
    ·exact .inr ⟨h1,by simp[h2]⟩
  ·rw[if_neg h,if_neg h] at hp
   by_cases e:a=key
   ·rw[if_pos e,if_pos e,List.zip_cons_cons] at hp
    rcases List.mem_cons.1 hp with rfl|hp
    ·exact .inl (by rw[e])
    ·refine .inr ⟨fun e'=>?_,by simp[hp]⟩
     have:=ha _ (hmem p hp)
     rw[e',e,lessK_irrefl] at this;cases this
   ·rw[if_neg e,if_neg e,List.zip_cons_cons] at hp
    rcases List.mem_cons.1 hp with rfl|hp
    ·exact .inl rfl
    ·have hka:lessK key a=true:=by
      cases hh:lessK key a
      ·exact absurd (lessK_tri (by simpa using h) hh) e
      ·rfl
     refine .inr ⟨fun e'=>?_,hp⟩
     rw[List.zip_cons_cons] at hp
     rcases List.mem_cons.1 hp with rfl|hp
     ·exact e e'
     ·have:=lessK_trans hka (ha _ (hmem p hp))
      rw[e',lessK_irrefl] at this;cases this
theorem objX_length {α:Type} [Inhabited α](keys:List ByteArray)(vals:List α): ∀i:Nat,(objK keys i).length=(objX keys vals i).length
 |0=>rfl
 |i+1=>(insX_length _ _ _ _ (objX_length keys vals i).symm).symm
theorem obj_zip (keys:List ByteArray)(vals:List V): ∀(i:Nat) (p:ByteArray×V),p∈(objK keys i).zip (objX keys vals i)→lastM keys vals i p.1=some p.2
 |0,p,hp=>by simp[objK] at hp
 |i+1,p,hp=>by
  rcases ins_zip _ _ _ _ (objK_incr' keys i) (objX_length keys vals i) p hp with rfl|⟨h1,h2⟩
  ·simp[lastM]
  ·rw[lastM,if_neg h1]
   exact obj_zip keys vals i p h2
theorem obj_at (keys:List ByteArray)(vals:List V){i j:Nat}(hj:j<(objK keys i).length):lastM keys vals i ((objK keys i).getD j default)=some ((objX keys vals i).getD j default):=by
 have hx:=objX_length keys vals i
 have:=obj_zip keys vals i ((objK keys i).getD j default,(objX keys vals i).getD j default) (by
  rw[List.mem_iff_getElem?]
  refine⟨j,?_⟩
  simp[List.getElem?_zip_eq_some,hj,hx▸hj])
 exact this
theorem srt_obj (keys:List ByteArray)(vals:List V){i:Nat}{ks:List ByteArray}(hn:ks.Nodup)(hm: ∀x,x∈ks↔(lastM keys vals i x).isSome=true):srt ks=objK keys i:=
 incr_ext (srt_incr hn) (objK_incr' keys i) fun x=>by rw[(srt_perm ks).mem_iff,hm,objK_mem keys vals]
theorem objK_len (keys:List ByteArray): ∀i:Nat,(objK keys i).length≤i
 |0=>by simp[objK]
 |i+1=>by
  have:=insK_length (keys.getD i default) (objK keys i)
  have:=objK_len keys i
  rw[objK];omega
theorem objK_sub (keys:List ByteArray): ∀i:Nat,i≤keys.length→ ∀x∈objK keys i,x∈keys
 |0,_,x,h=>by simp[objK] at h
 |i+1,hi,x,h=>by
  rw[objK,insK_mem] at h
  rcases h with rfl|h
  ·exact getD_mem' (by omega)
  ·exact objK_sub keys i (by omega) x h
theorem among_appM (ks:List ByteArray)(y z:ByteArray):among (ks++[y]) z=(among ks z||decide (z=y)):=by
 induction ks with
 |nil=>simp[among]
 |cons a r ih=>simp only[List.cons_append,among,ih,Bool.or_assoc]
theorem nodup_len : ∀ {ks l:List ByteArray},ks.Nodup→(∀x∈ks,x∈l)→ks.length≤l.length
 |[],_,_,_=>Nat.zero_le _
 |a::r,l,hn,h=>by
  have ha:=h a (List.mem_cons_self ..)
  have h1:=List.nodup_cons.1 hn
  have:=nodup_len (l:=l.filter fun x=> !decide (x=a)) h1.2 fun x hx=>List.mem_filter.2 ⟨h x (List.mem_cons_of_mem _ hx),by
   have:x≠a:=fun e=>by subst e;exact h1.1 hx
   simp[this]⟩
  have h2:(l.filter fun x=> !decide (x=a)).length<l.length:=List.length_filter_lt_length_iff_exists.2 ⟨a,ha,by simp⟩
  rw[List.length_cons]
  omega
theorem ud_map :env.P.underlying 147=some (.map 9 92):=by kernel_rfl
theorem ud_str :env.P.underlying 9=some .string:=env.string rfl
theorem objectP_fn (keys:List ByteArray)(vals:List V)(hl:keys.length=vals.length)(hk: ∀k∈keys,k.size≤maxLen)(h1:keys.length≤1000000):
 Fun env.P 49 [.sl 1 (keys.map keyRow),.sl 5 (vals.map V.row)] (.d (.agg (objV (objK keys keys.length) (objX keys vals keys.length)).rowP)) []:=by
 refine Fun.intro Tryz.func49 rfl (by kernel_rfl) rfl ?_
 repeat'(first|refine WG.mkM' 9 (fun b=>?_)|refine Z1 ?_|fail|((refine SP (fun h=>?_) fun h=>?_)<;>(try(exfalso;first|contradiction|omega))))
 refine W.loop (fun m S=> ∃(i:Nat) (mm:ByteArray→Option D),m=keys.length - i∧(i≤keys.length∧mm=lastD keys vals i)∧
  S=⟨ofL [(0,.d (.sl 1 (keys.map keyRow))),(1,.d (.sl 5 (vals.map V.row))),(4,.lp 0 0),(5,mpT b),(13,.d (.sl 1 (keys.map keyRow))),(14,vI .i64 (keys.map keyRow).length),(15,vI .i64 i)],
   [.pv [.d (dI 0),.d (dI 0),.d (dS ByteArray.empty),.d (.nl 1),.d (.nl 5)],.x (mapX env.P 9 b i mm) 0]⟩) _ _ ⟨0,fun _=>none,rfl,⟨by omega,rfl⟩,rfl⟩ lE ?_
 rintro m S ⟨i,mm,rfl,⟨hi,rfl⟩,rfl⟩
 have hkr:(keys.map keyRow).length=keys.length:=by simp
 have hvr:(vals.map V.row).length=vals.length:=by simp
 by_cases hlt:i<keys.length
 ·have him:i<maxLen:=Nat.lt_of_lt_of_le hlt (Nat.le_trans h1 (Nat.le_of_ble_eq_true rfl))
  have hks:(keys.getD (Int.toNat (i:Int)) default).size≤maxLen:=hk _ (getD_mem' (by omega))
  repeat'(first|refine WG.ixm' (f:=V.row) (f':=V.rowP) ?_ (hf:=V.row_eq)|refine WG.upM' 1 ud_map ud_str ?_|refine Z1 ?_|fail|((refine SP (fun h=>?_) fun h=>?_)<;>(try(exfalso;first|contradiction|omega))))
  refine⟨_,_,by omega,⟨i+1,_,rfl,⟨by omega,lastD_step keys vals i⟩,rfl⟩,lE⟩
 obtain rfl:i=keys.length:=by omega
 repeat'(first|refine WG.rgM' 1 ud_map ud_str (fun r cnt=>?_)|refine Z1 ?_|fail|((refine SP (fun h=>?_) fun h=>?_)<;>(try(exfalso;first|contradiction|omega))))
 refine W.adoptPv 2 3 9 rfl rfl ?_
 refine W.loopI (fun m S=> ∃(ks:List ByteArray) (lf:ByteArray→Bool) (cur:Option ByteArray) (cn:Nat) (rk:List (List D)),m=cn∧(ks.Nodup∧(∀x:ByteArray,x.size≤maxLen→lf x=((lastM keys vals keys.length x).isSome&& !among ks x))∧(∀x∈ks,(lastM keys vals keys.length x).isSome=true)∧rk=ks.map keyRow)∧
  S=⟨ofL [(4,.lp 0 0),(5,mpT b),(8,.lp 2 0),(29,itT r)],
   [.pv [.d (dI 0),.d (dI 0),.d (dS ByteArray.empty),.d (.nl 1),.d (.nl 5)],.x (itX env.P 9 b r keys.length (lastD keys vals keys.length) lf cn cur) 0,.pv [.d (dI 6),.d (dI 0),.d (dS ByteArray.empty),.og 3 0,.d (.nl 5)],.gr 1 9 rk 0 false]⟩) _ _
  ⟨[],fun x=>(lastD keys vals keys.length x).isSome,none,cnt,[],rfl,⟨List.nodup_nil,fun x _=>by simp[lastD,among],fun x hx=>by simp at hx,rfl⟩,rfl⟩ (St.imp.of_le lE) ?_
 rintro m S ⟨ks,lf,cur,cn,rk,rfl,⟨hn,hlf,hms,rfl⟩,rfl⟩
 have hkm:ks.length≤1000000:=Nat.le_trans (nodup_len hn fun x hx=>objK_sub keys _ (Nat.le_refl _) x ((objK_mem keys vals _ x).2 (hms x hx))) h1
 repeat'(first|refine WG.nxM' 1 ud_str (fun hall=>?_) (fun y cnt' hys hly hmy hlt=>?_)|refine WG.enM' 1 ?_|refine Z1 ?_|fail|((refine SP (fun h=>?_) fun h=>?_)<;>(try(exfalso;first|contradiction|omega))))
 case refine_2=>
  have hyM:(lastM keys vals keys.length y).isSome=true:=by simpa [lastD] using hmy
  have hyk:among ks y=false:=by
   have:=hlf y hys
   rw[hly,hyM] at this
   simpa using this.symm
  have hyn:y∉ks:=fun h=>by rw[among_iff2.2 h] at hyk;cases hyk
  refine⟨_,_,hlt,⟨ks++[y],_,some y,cnt',_,rfl,⟨?_,fun x hx=>?_,fun x hx=>?_,?_⟩,rfl⟩,(St.imp.rev 3 1 rfl).trans (St.imp.of_le lE)⟩
  ·rw[List.nodup_append]
   exact⟨hn,by simp,fun a ha b hb e=>by simp at hb;subst hb;subst e;exact hyn ha⟩
  ·rw[hlf x hx,among_appM]
   cases (lastM keys vals keys.length x).isSome<;>cases among ks x<;>rfl
  ·rcases List.mem_append.1 hx with h|h
   ·exact hms x h
   ·simp at h;subst h;exact hyM
  ·rw[List.map_append];rfl
 have hkmem: ∀x,x∈ks↔(lastM keys vals keys.length x).isSome=true:=fun x=>⟨hms x,fun h=>by
  have hx:=hk x (objK_sub keys _ (Nat.le_refl _) x ((objK_mem keys vals _ x).2 h))
  have:=hlf x hx
  rw[hall x hx,h] at this
  exact among_iff2.1 (by simpa using this.symm)⟩
 have hsrt:=srt_obj keys vals hn hkmem
 have hso:=slicesSort_fn ks (by omega)
 rw[hsrt] at hso
 repeat'(first|refine Z1 ?_|refine WG.cq (E:=env) [3] [0] false rfl rfl (hso) rfl rfl rfl rfl rfl rfl rfl (by first|exact trivial|exact⟨rfl,trivial⟩|exact⟨rfl,rfl,trivial⟩) (.inl rfl) rfl (fun h=>nomatch h) rfl rfl ?_|((refine SP (fun h=>?_) fun h=>?_)<;>(try(exfalso;first|contradiction|omega))))
 clear hso hkmem hms hlf hall hn hsrt hkm
 have hxl:=objX_length keys vals keys.length
 have hol:=objK_len keys keys.length
 have hat: ∀j,j<(objK keys keys.length).length→lastD keys vals keys.length ((objK keys keys.length).getD j default)=some (.agg ((objX keys vals keys.length).getD j default).rowP):=fun j hj=>by
  rw[lastD,obj_at keys vals hj];rfl
 have hsz: ∀j,j<(objK keys keys.length).length→((objK keys keys.length).getD j default).size≤maxLen:=fun j hj=>hk _ (objK_sub keys _ (Nat.le_refl _) _ (getD_mem' hj))
 generalize objK keys keys.length=os at hxl hol hat hsz ⊢
 generalize objX keys vals keys.length=ov at hxl hat ⊢
 generalize lastD keys vals keys.length=mm at hat ⊢
 have hor:(os.map keyRow).length=os.length:=by simp
 refine W.adoptPv 2 4 92 rfl rfl ?_
 refine W.loopI (fun m' S=> ∃(j:Nat) (rv:List (List D)),m'=os.length - j∧(j≤os.length∧rv.length≤j∧rv=(ov.take j).map V.row)∧
  S=⟨ofL [(4,.lp 0 0),(5,mpT b),(8,.lp 2 0),(44,.og 3 0),(45,vI .i64 (os.map keyRow).length),(46,vI .i64 j)],
   [.pv [.d (dI 0),.d (dI 0),.d (dS ByteArray.empty),.d (.nl 1),.d (.nl 5)],.x (itX env.P 9 b r keys.length mm lf m cur) 0,.pv [.d (dI 6),.d (dI 0),.d (dS ByteArray.empty),.og 3 0,.og 4 0],.gr 1 9 (os.map keyRow) 0 false,.gr 5 92 rv 0 false]⟩) _ _
  ⟨0,[],rfl,⟨by omega,by simp,by simp⟩,rfl⟩ (St.imp.of_le lE) ?_
 rintro m' S ⟨j,rv,rfl,⟨hj,hrv,ev⟩,rfl⟩
 by_cases hlt:j<os.length
 ·have hat1:=hat (Int.toNat (j:Int)) (by omega)
  have hsz1:=hsz (Int.toNat (j:Int)) (by omega)
  repeat'(first|refine WG.lkM' 1 ud_map ud_str hat1 ?_|refine Z1 ?_|fail|((refine SP (fun h=>?_) fun h=>?_)<;>(try(exfalso;first|contradiction|omega))))
  refine⟨_,_,by omega,⟨j+1,_,rfl,⟨by omega,?_,?_⟩,rfl⟩,(St.imp.rev 4 1 rfl).trans (St.imp.of_le lE)⟩
  ·rw[List.length_append];simp;omega
  ·rw[take_step (by omega),List.map_append,←ev]
   (try simp only[Int.toNat_natCast,Int.toNat_zero,toNat_cc,toNat_c1,toNat_cm1,toNat_cm] at *)
   rw[List.map_cons,List.map_nil,V.row_eq]
   rfl
 obtain rfl:j=os.length:=by omega
 rw[List.take_of_length_le (by omega)] at ev
 subst ev
 refine W.pub 3 rfl ?_
 refine W.pub 4 rfl ?_
 repeat'(first|refine Z1 ?_|((refine SP (fun h=>?_) fun h=>?_)<;>(try(exfalso;first|contradiction|omega))))
 (refine W.ret ?_;(first|refine RetQ.d' ?_))
 rfl
theorem callOneI_fn {ns:List Nd}{n:Nd}{names:List ByteArray}{A:List ByteArray→Pt}{c:Nat}(t:ByteArray)(h:GoI ns n.a A c)(L:List Co)(hn:names.length+c≤10000)(hl:L.length+5*c+5≤5000):
 FunQ env.P 56 [.lp 0 0,.d (dS t),.clo 43 [.lp 2 0,.lp 4 0,.lp 3 0]] (loI ns L 0++envA names n) (just (.d (dI (plc ((oneP t (A names)).on L)))) (loI ns ((oneP t (A names)).on L) ((oneP t (A names)).count)++envA names n)):=by
 have hc:=h.1 names
 by_cases h1:t=selectS
 ·subst h1
  exact callOneSel_fn ns n names (A names) L (lower1_fn h L hn (by omega)) (by omega)
 by_cases h2:t=mapS
 ·subst h2
  have q:=Pt.on_length (.n1 8 (.lf 1 0)) L
  rw[n1_count,lf_count] at q
  exact callOneMap_fn ns n names (A names) L (lower1_fn h _ hn (by omega)) (by omega)
 ·have:=callOneRange_fn ns n names (A names) L t h1 h2 (lower1_fn h L hn (by omega)) (by omega)
  unfold oneP
  rw[if_neg h1,if_neg h2]
  exact this
theorem objectNil_fn :Fun env.P 49 [.sl 1 [],.sl 5 []] (.d (.agg (V.mk 6 0 noS [] []).rowP)) []:=objectP_fn [] [] rfl (fun _ h=>by cases h) (Nat.zero_le _)
theorem cellsObj_fn :Fun env.P 102 [.agg (V.mk 6 0 noS [] []).rowP] (.og 0 0) [.gr 5 132 ((cellK 6).map Cell.row) 0 false]:=
 cellsP_fn 1 (V.mk 6 0 noS [] []) (by simp[V.count,V.counts]) (by omega) ⟨by decide,fun h=>absurd rfl h,fun h=>absurd rfl h,fun h=>absurd rfl h,by decide,rfl,fun _=>rfl,fun _=>rfl,(fun _ h=>by cases h),trivial,trivial⟩
theorem plainI_zero {op:Int}(h:plainM op=0):Fun env.P 41 [dI op] (.d (dI 0)) []:=by
 have:=plainM_fn op
 rwa [h] at this
theorem lowerI_plain {ns:List Nd}{n:Nd}{k:Nat}{names:List ByteArray}{A B C:List ByteArray→Pt}{ca cb cc:Nat}{L:List Co}(hk:k<ns.length)(hat:ns.getD k default=n)(hop:0<plainM n.op)(hA:1≤arN n.op→GoI ns n.a A ca)(hB:2≤arN n.op→GoI ns n.b B cb)(hC:3≤arN n.op→GoI ns n.c C cc)(htx:n.op=17→okText n.text=true)
 (hnl:names.length+((if 1≤arN n.op then ca else 0)+(if 2≤arN n.op then cb else 0)+(if 3≤arN n.op then cc else 0)+1)≤10000) (hl:L.length+5*((if 1≤arN n.op then ca else 0)+(if 2≤arN n.op then cb else 0)+(if 3≤arN n.op then cc else 0)+1)≤5000):FunQ env.P 16 [.lp 0 0,.d (dI k),.d (namesD names)] (loI ns L 0) (just (.d (dI (plc ((Pt.mk (plainN n names) ([A (inT n 0 names),B (inT n 1 names),C (inT n 2 names)].take (arN n.op))).on L)))) (loI ns ((Pt.mk (plainN n names) ([A (inT n 0 names),B (inT n 1 names),C (inT n 2 names)].take (arN n.op))).on L) (Pt.mk (plainN n names) ([A (inT n 0 names),B (inT n 1 names),C (inT n 2 names)].take (arN n.op))).count)):=by
 have hat':ns.getD (Int.toNat (k:Int)) default=n:=by simpa using hat
 have hp:=plainI_fn hA hB hC htx L hnl hl
 have hpm:=plainM_fn n.op
 generalize plainM n.op=p at*
 generalize Pt.mk (plainN n names) ([A (inT n 0 names),B (inT n 1 names),C (inT n 2 names)].take (arN n.op))=X at*
 refine FunQ.intro Tryz.func16 rfl (by kernel_rfl) rfl ?_
 unfold Go.Proofs.YtmmjbpgdkokjgaaGreatDoor.loI
 repeat(first|refine Z1 ?_)
 rw[hat']
 repeat'(first|refine Z1 ?_|refine WG.loI rfl rfl hp rfl rfl ?_|refine WG.c (E:=env) rfl rfl (hpm) rfl rfl ?_|((refine SP (fun h=>?_) fun h=>?_)<;>(try(exfalso;first|contradiction|omega))))
 all_goals first|(exfalso;omega)|skip
 refine W.ret ?_
 exact RetR.loI (.inl rfl) rfl rO rfl rfl rfl (Nat.zero_add _) rfl _ (Nat.le_of_ble_eq_true rfl)
theorem lowerI_2 {ns:List Nd}{k:Nat}{names:List ByteArray}{a b c num:Int}{text:ByteArray}{L:List Co}(hk:k<ns.length)(hat:ns.getD k default=⟨2,a,b,c,num,text⟩)(hnum:0≤num∧num≤1000000000000000)(hl:L.length+5≤5000):FunQ env.P 16 [.lp 0 0,.d (dI k),.d (namesD names)] (loI ns L 0) (just (.d (dI (plc ((Pt.cv (cellN num)).on L)))) (loI ns ((Pt.cv (cellN num)).on L) (Pt.cv (cellN num)).count)):=by
 have hat':ns.getD (Int.toNat (k:Int)) default=⟨2,a,b,c,num,text⟩:=by simpa using hat
 have hpm:Fun env.P 41 [dI 2] (.d (dI 0)) []:=plainI_zero rfl
 have hk:=constI_fn ns L (V.mk 3 num noS [] []) (cellN num) (cellsNum_fn num hnum) (by omega)
 have hv:=numberP_fn num
 refine FunQ.intro Tryz.func16 rfl (by kernel_rfl) rfl ?_
 unfold Go.Proofs.YtmmjbpgdkokjgaaGreatDoor.loI
 repeat(first|refine Z1 ?_)
 rw[hat']
 repeat'(first|refine W.dre' (id:=9) [4] (fun f=>bif bt f 1 then [.pv [.d (nodesD ns),.og 1 (0+1)],.x (neC (((Pt.cv (cellN num)).on L).map coN) none) (0+1),.pv [.lp 0 0],.pv [.d (namesD names)],.pv ((⟨2,a,b,c,num,text⟩:Nd).row.map .d),.pv [.clo 44 [.lp 2 0,.lp 4 0,.lp 3 0]]] else [.pv [.d (nodesD ns),.og 1 (0)],.x (neC (L.map coN) none) (0),.pv [.lp 0 0],.pv [.d (namesD names)],.pv ((⟨2,a,b,c,num,text⟩:Nd).row.map .d),.pv [.clo 44 [.lp 2 0,.lp 4 0,.lp 3 0]]]) [(0,[0]),(0,[0]),(0,[0]),(0,[0]),(1,[0]),(0,[1])] [.pv [.d (nodesD ns),.og 1 (0+1)],.x (neC (((Pt.cv (cellN num)).on L).map coN) none) (0+1),.pv [.lp 0 0],.pv [.d (namesD names)],.pv ((⟨2,a,b,c,num,text⟩:Nd).row.map .d),.pv [.clo 44 [.lp 2 0,.lp 4 0,.lp 3 0]]] ?_|refine Z2 ?_|refine WE.c' hv ?_|refine WE.mkd (.d (dI (plc ((Pt.cv (cellN num)).on L)))) ?_ (.c (OpS1.cqM (E:=env) [0,1] [0,0] rfl rfl hk rfl rfl rfl rfl rfl rfl rfl ⟨rfl,rfl,trivial⟩ rfl rfl rfl) .n)|refine Z1 ?_|refine WG.c (E:=env) rfl rfl (hpm) rfl rfl ?_)
 refine W.ret ?_
 exact RetR.loI (.inl rfl) rfl rO rfl rfl rfl rfl rfl _ (Nat.le_of_ble_eq_true rfl)
theorem lowerI_3 {ns:List Nd}{k:Nat}{names:List ByteArray}{a b c num:Int}{text:ByteArray}{L:List Co}(hk:k<ns.length)(hat:ns.getD k default=⟨3,a,b,c,num,text⟩)(htx:okText text=true)(hl:L.length+5≤5000):FunQ env.P 16 [.lp 0 0,.d (dI k),.d (namesD names)] (loI ns L 0) (just (.d (dI (plc ((Pt.cv (cellT text)).on L)))) (loI ns ((Pt.cv (cellT text)).on L) (Pt.cv (cellT text)).count)):=by
 have hat':ns.getD (Int.toNat (k:Int)) default=⟨3,a,b,c,num,text⟩:=by simpa using hat
 have hpm:Fun env.P 41 [dI 3] (.d (dI 0)) []:=plainI_zero rfl
 have hk:=constI_fn ns L (V.mk 4 0 text [] []) (cellT text) (cellsTxt_fn text htx) (by omega)
 have hv:=textLw_fn text
 refine FunQ.intro Tryz.func16 rfl (by kernel_rfl) rfl ?_
 unfold Go.Proofs.YtmmjbpgdkokjgaaGreatDoor.loI
 repeat(first|refine Z1 ?_)
 rw[hat']
 repeat'(first|refine W.dre' (id:=11) [4] (fun f=>bif bt f 1 then [.pv [.d (nodesD ns),.og 1 (0+1)],.x (neC (((Pt.cv (cellT text)).on L).map coN) none) (0+1),.pv [.lp 0 0],.pv [.d (namesD names)],.pv ((⟨3,a,b,c,num,text⟩:Nd).row.map .d),.pv [.clo 44 [.lp 2 0,.lp 4 0,.lp 3 0]]] else [.pv [.d (nodesD ns),.og 1 (0)],.x (neC (L.map coN) none) (0),.pv [.lp 0 0],.pv [.d (namesD names)],.pv ((⟨3,a,b,c,num,text⟩:Nd).row.map .d),.pv [.clo 44 [.lp 2 0,.lp 4 0,.lp 3 0]]]) [(0,[0]),(0,[0]),(0,[0]),(0,[0]),(1,[0]),(0,[1])] [.pv [.d (nodesD ns),.og 1 (0+1)],.x (neC (((Pt.cv (cellT text)).on L).map coN) none) (0+1),.pv [.lp 0 0],.pv [.d (namesD names)],.pv ((⟨3,a,b,c,num,text⟩:Nd).row.map .d),.pv [.clo 44 [.lp 2 0,.lp 4 0,.lp 3 0]]] ?_|refine Z2 ?_|refine WE.c' hv ?_|refine WE.mkd (.d (dI (plc ((Pt.cv (cellT text)).on L)))) ?_ (.c (OpS1.cqM (E:=env) [0,1] [0,0] rfl rfl hk rfl rfl rfl rfl rfl rfl rfl ⟨rfl,rfl,trivial⟩ rfl rfl rfl) .n)|refine Z1 ?_|refine WG.c (E:=env) rfl rfl (hpm) rfl rfl ?_)
 refine W.ret ?_
 exact RetR.loI (.inl rfl) rfl rO rfl rfl rfl rfl rfl _ (Nat.le_of_ble_eq_true rfl)
theorem lowerI_4 {ns:List Nd}{k:Nat}{names:List ByteArray}{a b c num:Int}{text:ByteArray}{L:List Co}(hk:k<ns.length)(hat:ns.getD k default=⟨4,a,b,c,num,text⟩)(hnum:0≤num∧num≤2)(hl:L.length+5≤5000):FunQ env.P 16 [.lp 0 0,.d (dI k),.d (namesD names)] (loI ns L 0) (just (.d (dI (plc ((Pt.cv (cellK num)).on L)))) (loI ns ((Pt.cv (cellK num)).on L) (Pt.cv (cellK num)).count)):=by
 have hat':ns.getD (Int.toNat (k:Int)) default=⟨4,a,b,c,num,text⟩:=by simpa using hat
 have hpm:Fun env.P 41 [dI 4] (.d (dI 0)) []:=plainI_zero rfl
 have hk:=constI_fn ns L (V.mk num 0 noS [] []) (cellK num) (cellsLeaf_fn num (by omega)) (by omega)
 refine FunQ.intro Tryz.func16 rfl (by kernel_rfl) rfl ?_
 unfold Go.Proofs.YtmmjbpgdkokjgaaGreatDoor.loI
 repeat(first|refine Z1 ?_)
 rw[hat']
 repeat'(first|refine Z1 ?_|refine WG.loI rfl rfl hk rfl rfl ?_|refine WG.c (E:=env) rfl rfl (hpm) rfl rfl ?_)
 refine W.ret ?_
 exact RetR.loI (.inl rfl) rfl rO rfl rfl rfl rfl rfl _ (Nat.le_of_ble_eq_true rfl)
theorem lowerI_15 {ns:List Nd}{k:Nat}{names:List ByteArray}{a b c num:Int}{text:ByteArray}{L:List Co}(hk:k<ns.length)(hat:ns.getD k default=⟨15,a,b,c,num,text⟩)(hl:L.length+5≤5000):FunQ env.P 16 [.lp 0 0,.d (dI k),.d (namesD names)] (loI ns L 0) (just (.d (dI (plc ((Pt.cv (cellK 5)).on L)))) (loI ns ((Pt.cv (cellK 5)).on L) (Pt.cv (cellK 5)).count)):=by
 have hat':ns.getD (Int.toNat (k:Int)) default=⟨15,a,b,c,num,text⟩:=by simpa using hat
 have hpm:Fun env.P 41 [dI 15] (.d (dI 0)) []:=plainI_zero rfl
 have hk:=constI_fn ns L (V.mk 5 0 noS [] []) (cellK 5) (cellsLeaf_fn 5 (by decide)) (by omega)
 have hv:=arrayP_fn []
 refine FunQ.intro Tryz.func16 rfl (by kernel_rfl) rfl ?_
 unfold Go.Proofs.YtmmjbpgdkokjgaaGreatDoor.loI
 repeat(first|refine Z1 ?_)
 rw[hat']
 repeat'(first|refine W.dre' (id:=15) [2] (fun f=>bif bt f 1 then [.pv [.d (nodesD ns),.og 1 (0+1)],.x (neC (((Pt.cv (cellK 5)).on L).map coN) none) (0+1),.pv [.lp 0 0],.pv [.d (namesD names)],.pv ((⟨15,a,b,c,num,text⟩:Nd).row.map .d),.pv [.clo 44 [.lp 2 0,.lp 4 0,.lp 3 0]]] else [.pv [.d (nodesD ns),.og 1 (0)],.x (neC (L.map coN) none) (0),.pv [.lp 0 0],.pv [.d (namesD names)],.pv ((⟨15,a,b,c,num,text⟩:Nd).row.map .d),.pv [.clo 44 [.lp 2 0,.lp 4 0,.lp 3 0]]]) [(0,[0]),(0,[0]),(1,[0]),(0,[1])] [.pv [.d (nodesD ns),.og 1 (0+1)],.x (neC (((Pt.cv (cellK 5)).on L).map coN) none) (0+1),.pv [.lp 0 0],.pv [.d (namesD names)],.pv ((⟨15,a,b,c,num,text⟩:Nd).row.map .d),.pv [.clo 44 [.lp 2 0,.lp 4 0,.lp 3 0]]] ?_|refine Z2 ?_|refine WE.c' hv ?_|refine WE.mkd (.d (dI (plc ((Pt.cv (cellK 5)).on L)))) ?_ (.c (OpS1.cqM (E:=env) [0,1] [0,0] rfl rfl hk rfl rfl rfl rfl rfl rfl rfl ⟨rfl,rfl,trivial⟩ rfl rfl rfl) .n)|refine Z1 ?_|refine WG.c (E:=env) rfl rfl (hpm) rfl rfl ?_)
 refine W.ret ?_
 exact RetR.loI (.inl rfl) rfl rO rfl rfl rfl rfl rfl _ (Nat.le_of_ble_eq_true rfl)
theorem lowerI_16 {ns:List Nd}{k:Nat}{names:List ByteArray}{a b c num:Int}{text:ByteArray}{L:List Co}(hk:k<ns.length)(hat:ns.getD k default=⟨16,a,b,c,num,text⟩)(hl:L.length+5≤5000):FunQ env.P 16 [.lp 0 0,.d (dI k),.d (namesD names)] (loI ns L 0) (just (.d (dI (plc ((Pt.cv (cellK 6)).on L)))) (loI ns ((Pt.cv (cellK 6)).on L) (Pt.cv (cellK 6)).count)):=by
 have hat':ns.getD (Int.toNat (k:Int)) default=⟨16,a,b,c,num,text⟩:=by simpa using hat
 have hpm:Fun env.P 41 [dI 16] (.d (dI 0)) []:=plainI_zero rfl
 have hk:=constI_fn ns L (V.mk 6 0 noS [] []) (cellK 6) cellsObj_fn (by omega)
 have hv:=objectNil_fn
 refine FunQ.intro Tryz.func16 rfl (by kernel_rfl) rfl ?_
 unfold Go.Proofs.YtmmjbpgdkokjgaaGreatDoor.loI
 repeat(first|refine Z1 ?_)
 rw[hat']
 repeat'(first|refine W.dre' (id:=17) [2] (fun f=>bif bt f 1 then [.pv [.d (nodesD ns),.og 1 (0+1)],.x (neC (((Pt.cv (cellK 6)).on L).map coN) none) (0+1),.pv [.lp 0 0],.pv [.d (namesD names)],.pv ((⟨16,a,b,c,num,text⟩:Nd).row.map .d),.pv [.clo 44 [.lp 2 0,.lp 4 0,.lp 3 0]]] else [.pv [.d (nodesD ns),.og 1 (0)],.x (neC (L.map coN) none) (0),.pv [.lp 0 0],.pv [.d (namesD names)],.pv ((⟨16,a,b,c,num,text⟩:Nd).row.map .d),.pv [.clo 44 [.lp 2 0,.lp 4 0,.lp 3 0]]]) [(0,[0]),(0,[0]),(1,[0]),(0,[1])] [.pv [.d (nodesD ns),.og 1 (0+1)],.x (neC (((Pt.cv (cellK 6)).on L).map coN) none) (0+1),.pv [.lp 0 0],.pv [.d (namesD names)],.pv ((⟨16,a,b,c,num,text⟩:Nd).row.map .d),.pv [.clo 44 [.lp 2 0,.lp 4 0,.lp 3 0]]] ?_|refine Z2 ?_|refine WE.c' hv ?_|refine WE.mkd (.d (dI (plc ((Pt.cv (cellK 6)).on L)))) ?_ (.c (OpS1.cqM (E:=env) [0,1] [0,0] rfl rfl hk rfl rfl rfl rfl rfl rfl rfl ⟨rfl,rfl,trivial⟩ rfl rfl rfl) .n)|refine Z1 ?_|refine WG.c (E:=env) rfl rfl (hpm) rfl rfl ?_)
 refine W.ret ?_
 exact RetR.loI (.inl rfl) rfl rO rfl rfl rfl rfl rfl _ (Nat.le_of_ble_eq_true rfl)
theorem lowerI_24 {ns:List Nd}{k:Nat}{names:List ByteArray}{a b c num:Int}{text:ByteArray}{L:List Co}(hk:k<ns.length)(hat:ns.getD k default=⟨24,a,b,c,num,text⟩)(hl:L.length+5≤5000):FunQ env.P 16 [.lp 0 0,.d (dI k),.d (namesD names)] (loI ns L 0) (just (.d (dI (plc ((Pt.n1 8 (.lf 16 7)).on L)))) (loI ns ((Pt.n1 8 (.lf 16 7)).on L) (Pt.n1 8 (.lf 16 7)).count)):=by
 have hat':ns.getD (Int.toNat (k:Int)) default=⟨24,a,b,c,num,text⟩:=by simpa using hat
 have hpm:Fun env.P 41 [dI 24] (.d (dI 0)) []:=plainI_zero rfl
 have q1:=Pt.on_length (.lf 16 7) L
 rw[lf_count] at q1
 have h1:=doI_fn ns L 7 (by omega)
 have h2:=eachI_fn ns L (.lf 16 7) (by omega)
 refine FunQ.intro Tryz.func16 rfl (by kernel_rfl) rfl ?_
 unfold Go.Proofs.YtmmjbpgdkokjgaaGreatDoor.loI
 repeat(first|refine Z1 ?_)
 rw[hat']
 repeat'(first|refine W.dre' (id:=19) [2,3] (fun f=>bif bt f 2 then [.pv [.d (nodesD ns),.og 1 (0+1+1)],.x (neC (((Pt.n1 8 (.lf 16 7)).on L).map coN) none) (0+1+1),.pv [.lp 0 0],.pv [.d (namesD names)],.pv ((⟨24,a,b,c,num,text⟩:Nd).row.map .d),.pv [.clo 44 [.lp 2 0,.lp 4 0,.lp 3 0]]] else bif bt f 1 then [.pv [.d (nodesD ns),.og 1 (0+1)],.x (neC (((Pt.lf 16 7).on L).map coN) none) (0+1),.pv [.lp 0 0],.pv [.d (namesD names)],.pv ((⟨24,a,b,c,num,text⟩:Nd).row.map .d),.pv [.clo 44 [.lp 2 0,.lp 4 0,.lp 3 0]]] else [.pv [.d (nodesD ns),.og 1 (0)],.x (neC (L.map coN) none) (0),.pv [.lp 0 0],.pv [.d (namesD names)],.pv ((⟨24,a,b,c,num,text⟩:Nd).row.map .d),.pv [.clo 44 [.lp 2 0,.lp 4 0,.lp 3 0]]]) [(0,[0,1]),(0,[0]),(1,[0]),(2,[1]),(0,[3])] [.pv [.d (nodesD ns),.og 1 (0+1+1)],.x (neC (((Pt.n1 8 (.lf 16 7)).on L).map coN) none) (0+1+1),.pv [.lp 0 0],.pv [.d (namesD names)],.pv ((⟨24,a,b,c,num,text⟩:Nd).row.map .d),.pv [.clo 44 [.lp 2 0,.lp 4 0,.lp 3 0]]] ?_|refine Z2 ?_|refine WE.mkd (.d (dI (plc ((Pt.lf 16 7).on L)))) ?_ (.c (OpS1.cqM (E:=env) [0,1] [0,0] rfl rfl h1 rfl rfl rfl rfl rfl rfl rfl ⟨rfl,rfl,trivial⟩ rfl rfl rfl) .n)|refine WE.mkd (.d (dI (plc ((Pt.n1 8 (.lf 16 7)).on L)))) ?_ (.c (OpS1.cqM (E:=env) [0,1] [0,0+1] rfl rfl h2 rfl rfl rfl rfl rfl rfl rfl ⟨rfl,rfl,trivial⟩ rfl rfl rfl) .n)|refine Z1 ?_|refine WG.c (E:=env) rfl rfl (hpm) rfl rfl ?_)
 refine W.ret ?_
 exact RetR.loI (.inl rfl) rfl rO rfl rfl rfl rfl rfl _ (Nat.le_of_ble_eq_true rfl)
theorem lowerI_8 {ns:List Nd}{k:Nat}{names:List ByteArray}{a b c num:Int}{text:ByteArray}{L:List Co}(hk:k<ns.length)(hat:ns.getD k default=⟨8,a,b,c,num,text⟩){A B:List ByteArray→Pt}{ca cb:Nat}(hA:GoI ns a A ca)(hB:GoI ns b B cb)(hn:names.length+(ca+cb+1)≤10000)(hl:L.length+5*(ca+cb+1)≤5000):FunQ env.P 16 [.lp 0 0,.d (dI k),.d (namesD names)] (loI ns L 0) (just (.d (dI (plc ((Pt.n3 12 0 (A names) (truP true) (Pt.n3 12 0 (B names) (truP true) (truP false))).on L)))) (loI ns ((Pt.n3 12 0 (A names) (truP true) (Pt.n3 12 0 (B names) (truP true) (truP false))).on L) (Pt.n3 12 0 (A names) (truP true) (Pt.n3 12 0 (B names) (truP true) (truP false))).count)):=by
 have hat':ns.getD (Int.toNat (k:Int)) default=⟨8,a,b,c,num,text⟩:=by simpa using hat
 have hpm:Fun env.P 41 [dI 8] (.d (dI 0)) []:=plainI_zero rfl
 have c1:=hA.1 names
 have c2:=hB.1 names
 have q1:=Pt.on_length (A names) L
 have q2:=Pt.on_length (truP true) ((A names).on L)
 have q3:=Pt.on_length (Pt.n3 12 0 (B names) (truP true) (truP false)) ((truP true).on ((A names).on L))
 rw[tru_count] at q2
 rw[n3_count,tru_count,tru_count] at q3
 have hch:=choiceOr_fn ns names ⟨8,a,b,c,num,text⟩ L (A names) (truP true) (Pt.n3 12 0 (B names) (truP true) (truP false)) (lower1_fn (n:=⟨8,a,b,c,num,text⟩) hA L (by omega) (by omega)) (truthK_fn ns _ true (by omega)) (lower3_fn (n:=⟨8,a,b,c,num,text⟩) hB _ (by omega) (by omega)) (by omega)
 refine FunQ.intro Tryz.func16 rfl (by kernel_rfl) rfl ?_
 unfold Go.Proofs.YtmmjbpgdkokjgaaGreatDoor.loI
 repeat(first|refine Z1 ?_)
 rw[hat']
 repeat'(first|refine W.dre' (id:=21) [3,5] (fun f=>bif bt f 2 then [.pv [.d (nodesD ns),.og 1 (0+(Pt.n3 12 0 (A names) (truP true) (Pt.n3 12 0 (B names) (truP true) (truP false))).count)],.x (neC (((Pt.n3 12 0 (A names) (truP true) (Pt.n3 12 0 (B names) (truP true) (truP false))).on L).map coN) none) (0+(Pt.n3 12 0 (A names) (truP true) (Pt.n3 12 0 (B names) (truP true) (truP false))).count),.pv [.lp 0 0],.pv [.d (namesD names)],.pv ((⟨8,a,b,c,num,text⟩:Nd).row.map .d),.pv [.clo 44 [.lp 2 0,.lp 4 0,.lp 3 0]],.pv [.lp 0 0],.pv [.d (dB true)]] else bif bt f 1 then [.pv [.d (nodesD ns),.og 1 (0)],.x (neC (L.map coN) none) (0),.pv [.lp 0 0],.pv [.d (namesD names)],.pv ((⟨8,a,b,c,num,text⟩:Nd).row.map .d),.pv [.clo 44 [.lp 2 0,.lp 4 0,.lp 3 0]],.pv [.lp 0 0],.pv [.d (dB true)]] else [.pv [.d (nodesD ns),.og 1 (0)],.x (neC (L.map coN) none) (0),.pv [.lp 0 0],.pv [.d (namesD names)],.pv ((⟨8,a,b,c,num,text⟩:Nd).row.map .d),.pv [.clo 44 [.lp 2 0,.lp 4 0,.lp 3 0]]]) [(0,[0,1]),(0,[0,1]),(0,[0]),(1,[0]),(0,[0,1]),(2,[1]),(0,[3])] [.pv [.d (nodesD ns),.og 1 (0+(Pt.n3 12 0 (A names) (truP true) (Pt.n3 12 0 (B names) (truP true) (truP false))).count)],.x (neC (((Pt.n3 12 0 (A names) (truP true) (Pt.n3 12 0 (B names) (truP true) (truP false))).on L).map coN) none) (0+(Pt.n3 12 0 (A names) (truP true) (Pt.n3 12 0 (B names) (truP true) (truP false))).count),.pv [.lp 0 0],.pv [.d (namesD names)],.pv ((⟨8,a,b,c,num,text⟩:Nd).row.map .d),.pv [.clo 44 [.lp 2 0,.lp 4 0,.lp 3 0]],.pv [.lp 0 0],.pv [.d (dB true)]] ?_|refine Z2 ?_|refine WE.s' (E:=env) (t:=.clo _ _) ?_|refine WE.mkd (.clo 104 [.lp 6 0,.lp 7 0]) ?_ (.c (OpS1.cqM (E:=env) [0,1] [0,0] rfl rfl (truthC_fn ns L true) rfl rfl rfl rfl rfl rfl rfl ⟨rfl,rfl,trivial⟩ rfl rfl rfl) .n)|refine WE.mkd (.d (dI (plc ((Pt.n3 12 0 (A names) (truP true) (Pt.n3 12 0 (B names) (truP true) (truP false))).on L)))) ?_ (.c (OpS1.cqM (E:=env) [0,1,2,3,4,5,6,7] [0,0,0,0,0,0,0,0] rfl rfl hch rfl rfl rfl rfl rfl rfl rfl ⟨rfl,rfl,rfl,rfl,rfl,rfl,rfl,rfl,trivial⟩ rfl rfl rfl) .n)|refine Z1 ?_|refine WG.c (E:=env) rfl rfl (hpm) rfl rfl ?_)
 refine W.ret ?_
 exact RetR.loI (.inl rfl) rfl rO rfl rfl rfl (Nat.zero_add _) rfl _ (Nat.le_of_ble_eq_true rfl)
theorem lowerI_9 {ns:List Nd}{k:Nat}{names:List ByteArray}{a b c num:Int}{text:ByteArray}{L:List Co}(hk:k<ns.length)(hat:ns.getD k default=⟨9,a,b,c,num,text⟩){A B:List ByteArray→Pt}{ca cb:Nat}(hA:GoI ns a A ca)(hB:GoI ns b B cb)(hn:names.length+(ca+cb+1)≤10000)(hl:L.length+5*(ca+cb+1)≤5000):FunQ env.P 16 [.lp 0 0,.d (dI k),.d (namesD names)] (loI ns L 0) (just (.d (dI (plc ((Pt.n3 12 0 (A names) (Pt.n3 12 0 (B names) (truP true) (truP false)) (truP false)).on L)))) (loI ns ((Pt.n3 12 0 (A names) (Pt.n3 12 0 (B names) (truP true) (truP false)) (truP false)).on L) (Pt.n3 12 0 (A names) (Pt.n3 12 0 (B names) (truP true) (truP false)) (truP false)).count)):=by
 have hat':ns.getD (Int.toNat (k:Int)) default=⟨9,a,b,c,num,text⟩:=by simpa using hat
 have hpm:Fun env.P 41 [dI 9] (.d (dI 0)) []:=plainI_zero rfl
 have c1:=hA.1 names
 have c2:=hB.1 names
 have q1:=Pt.on_length (A names) L
 have q2:=Pt.on_length (Pt.n3 12 0 (B names) (truP true) (truP false)) ((A names).on L)
 rw[n3_count,tru_count,tru_count] at q2
 have q3:=Pt.on_length (truP false) ((Pt.n3 12 0 (B names) (truP true) (truP false)).on ((A names).on L))
 rw[tru_count] at q3
 have hch:=choiceAnd_fn ns names ⟨9,a,b,c,num,text⟩ L (A names) (Pt.n3 12 0 (B names) (truP true) (truP false)) (truP false) (lower1_fn (n:=⟨9,a,b,c,num,text⟩) hA L (by omega) (by omega)) (lower4_fn (n:=⟨9,a,b,c,num,text⟩) hB _ (by omega) (by omega)) (truthK_fn ns _ false (by omega)) (by omega)
 refine FunQ.intro Tryz.func16 rfl (by kernel_rfl) rfl ?_
 unfold Go.Proofs.YtmmjbpgdkokjgaaGreatDoor.loI
 repeat(first|refine Z1 ?_)
 rw[hat']
 repeat'(first|refine W.dre' (id:=23) [4,5] (fun f=>bif bt f 2 then [.pv [.d (nodesD ns),.og 1 (0+(Pt.n3 12 0 (A names) (Pt.n3 12 0 (B names) (truP true) (truP false)) (truP false)).count)],.x (neC (((Pt.n3 12 0 (A names) (Pt.n3 12 0 (B names) (truP true) (truP false)) (truP false)).on L).map coN) none) (0+(Pt.n3 12 0 (A names) (Pt.n3 12 0 (B names) (truP true) (truP false)) (truP false)).count),.pv [.lp 0 0],.pv [.d (namesD names)],.pv ((⟨9,a,b,c,num,text⟩:Nd).row.map .d),.pv [.clo 44 [.lp 2 0,.lp 4 0,.lp 3 0]],.pv [.lp 0 0],.pv [.d (dB false)]] else bif bt f 1 then [.pv [.d (nodesD ns),.og 1 (0)],.x (neC (L.map coN) none) (0),.pv [.lp 0 0],.pv [.d (namesD names)],.pv ((⟨9,a,b,c,num,text⟩:Nd).row.map .d),.pv [.clo 44 [.lp 2 0,.lp 4 0,.lp 3 0]],.pv [.lp 0 0],.pv [.d (dB false)]] else [.pv [.d (nodesD ns),.og 1 (0)],.x (neC (L.map coN) none) (0),.pv [.lp 0 0],.pv [.d (namesD names)],.pv ((⟨9,a,b,c,num,text⟩:Nd).row.map .d),.pv [.clo 44 [.lp 2 0,.lp 4 0,.lp 3 0]]]) [(0,[0,1]),(0,[0,1]),(0,[0,1]),(0,[0]),(1,[0]),(2,[1]),(0,[3])] [.pv [.d (nodesD ns),.og 1 (0+(Pt.n3 12 0 (A names) (Pt.n3 12 0 (B names) (truP true) (truP false)) (truP false)).count)],.x (neC (((Pt.n3 12 0 (A names) (Pt.n3 12 0 (B names) (truP true) (truP false)) (truP false)).on L).map coN) none) (0+(Pt.n3 12 0 (A names) (Pt.n3 12 0 (B names) (truP true) (truP false)) (truP false)).count),.pv [.lp 0 0],.pv [.d (namesD names)],.pv ((⟨9,a,b,c,num,text⟩:Nd).row.map .d),.pv [.clo 44 [.lp 2 0,.lp 4 0,.lp 3 0]],.pv [.lp 0 0],.pv [.d (dB false)]] ?_|refine Z2 ?_|refine WE.s' (E:=env) (t:=.clo _ _) ?_|refine WE.mkd (.clo 104 [.lp 6 0,.lp 7 0]) ?_ (.c (OpS1.cqM (E:=env) [0,1] [0,0] rfl rfl (truthC_fn ns L false) rfl rfl rfl rfl rfl rfl rfl ⟨rfl,rfl,trivial⟩ rfl rfl rfl) .n)|refine WE.mkd (.d (dI (plc ((Pt.n3 12 0 (A names) (Pt.n3 12 0 (B names) (truP true) (truP false)) (truP false)).on L)))) ?_ (.c (OpS1.cqM (E:=env) [0,1,2,3,4,5,6,7] [0,0,0,0,0,0,0,0] rfl rfl hch rfl rfl rfl rfl rfl rfl rfl ⟨rfl,rfl,rfl,rfl,rfl,rfl,rfl,rfl,trivial⟩ rfl rfl rfl) .n)|refine Z1 ?_|refine WG.c (E:=env) rfl rfl (hpm) rfl rfl ?_)
 refine W.ret ?_
 exact RetR.loI (.inl rfl) rfl rO rfl rfl rfl (Nat.zero_add _) rfl _ (Nat.le_of_ble_eq_true rfl)
theorem lowerI_23 {ns:List Nd}{k:Nat}{names:List ByteArray}{a b c num:Int}{text:ByteArray}{L:List Co}(hk:k<ns.length)(hat:ns.getD k default=⟨23,a,b,c,num,text⟩){A:List ByteArray→Pt}{ca:Nat}(hA:GoI ns a A ca)(hn:names.length+(ca+1)≤10000)(hl:L.length+5*(ca+1)≤5000):FunQ env.P 16 [.lp 0 0,.d (dI k),.d (namesD names)] (loI ns L 0) (just (.d (dI (plc ((oneP text (A names)).on L)))) (loI ns ((oneP text (A names)).on L) (oneP text (A names)).count)):=by
 have hat':ns.getD (Int.toNat (k:Int)) default=⟨23,a,b,c,num,text⟩:=by simpa using hat
 have hpm:Fun env.P 41 [dI 23] (.d (dI 0)) []:=plainI_zero rfl
 have hone:=callOneI_fn (n:=⟨23,a,b,c,num,text⟩) (names:=names) text hA L (by omega) (by omega)
 refine FunQ.intro Tryz.func16 rfl (by kernel_rfl) rfl ?_
 unfold Go.Proofs.YtmmjbpgdkokjgaaGreatDoor.loI
 repeat(first|refine Z1 ?_)
 rw[hat']
 repeat'(first|refine Z1 ?_|refine WG.cq (E:=env) (t':=.d (dI (plc ((oneP text (A names)).on L)))) (ob2:=[.pv [.d (nodesD ns),.og 1 (0+(oneP text (A names)).count)],.x (neC (((oneP text (A names)).on L).map coN) none) (0+(oneP text (A names)).count),.pv [.lp 0 0],.pv [.d (namesD names)],.pv ((⟨23,a,b,c,num,text⟩:Nd).row.map .d),.pv [.clo 44 [.lp 2 0,.lp 4 0,.lp 3 0]]]) [0,1,2,3,4] [0,0,0,0,0] false rfl rfl hone rfl rfl rfl rfl rfl rfl rfl ⟨rfl,rfl,rfl,rfl,rfl,trivial⟩ (.inl rfl) rfl (fun h=>nomatch h) rfl rfl ?_|refine WG.c (E:=env) rfl rfl (hpm) rfl rfl ?_)
 refine W.ret ?_
 exact RetR.loI (.inl rfl) rfl rO rfl rfl rfl (Nat.zero_add _) rfl _ (Nat.le_of_ble_eq_true rfl)
theorem lowerI_22 {ns:List Nd}{k:Nat}{names:List ByteArray}{a b c num:Int}{text:ByteArray}{L:List Co}(hk:k<ns.length)(hat:ns.getD k default=⟨22,a,b,c,num,text⟩)(ht:among callsL text=true)(hl:L.length+5≤5000):FunQ env.P 16 [.lp 0 0,.d (dI k),.d (namesD names)] (loI ns L 0) (just (.d (dI (plc ((callP text).on L)))) (loI ns ((callP text).on L) (callP text).count)):=by
 have hat':ns.getD (Int.toNat (k:Int)) default=⟨22,a,b,c,num,text⟩:=by simpa using hat
 have hpm:Fun env.P 41 [dI 22] (.d (dI 0)) []:=plainI_zero rfl
 have hca:=callI_fn ns L text ht (by omega)
 refine FunQ.intro Tryz.func16 rfl (by kernel_rfl) rfl ?_
 unfold Go.Proofs.YtmmjbpgdkokjgaaGreatDoor.loI
 repeat(first|refine Z1 ?_)
 rw[hat']
 repeat'(first|refine Z1 ?_|refine WG.loI rfl rfl hca rfl rfl ?_|refine WG.c (E:=env) rfl rfl (hpm) rfl rfl ?_)
 refine W.ret ?_
 exact RetR.loI (.inl rfl) rfl rO rfl rfl rfl (Nat.zero_add _) rfl _ (Nat.le_of_ble_eq_true rfl)
theorem flatI_nil {f:Nat→Nat→List Nat}: ∀ {l:List Nat} {i:Nat},flatI f l i=[]→ ∀j∈l,∃i,f i j=[]
 |[],_,_,j,hj=>by cases hj
 |x::r,i,h,j,hj=>by
  simp only[flatI,List.append_eq_nil_iff] at h
  rcases List.mem_cons.1 hj with rfl|hj
  ·exact⟨i,h.1⟩
  ·exact flatI_nil h.2 j hj
theorem calls_known (ns:List Nd): ∀(f k:Nat) (names:List ByteArray),k<f→badM ns f k names=[]→ ∀j∈full (nmT ns) k,(ns.getD j default).op=22→among callsL (ns.getD j default).text=true
 |0,k,names,h,_,j,hj,_=>by omega
 |f+1,k,names,h,hb,j,hj,h22=>by
  rw[badM,List.append_eq_nil_iff] at hb
  rw[full_eq,List.mem_append] at hj
  rcases hj with hj|hj
  ·obtain⟨m,hm,hjm⟩:=List.mem_flatMap.1 hj
   obtain⟨i,hi⟩:=flatI_nil hb.1 m hm
   have:=kidsOf_lt hm
   exact calls_known ns f m _ (by omega) hi j hjm h22
  ·have:j=k:=by simpa using hj
   subst this
   have h2:=hb.2
   split at h2
   ·rename_i hk
    unfold knownB at hk
    rw[if_neg (by omega),if_pos h22] at hk
    exact hk
   ·cases h2
theorem lowerI_fn {ns:List Nd}(hok: ∀j,j<ns.length→TdK ns j)(hca: ∀j,j<ns.length→(ns.getD j default).op=22→among callsL (ns.getD j default).text=true): ∀(f k:Nat),k<f→k<ns.length→GoI ns k (fun names=>lowP ns f k names) (cntT ns k)
 |0,k,h,_=>by omega
 |f+1,k,h,hk=>by
  have hn:=hok k hk
  have hce:=cntT_eq hn
  have hka:1≤arN (ns.getD k default).op→GoI ns (ns.getD k default).a (fun names=>lowP ns f (ns.getD k default).a.toNat names) (cntT ns (ns.getD k default).a.toNat):=fun h1=>by
   have:=hn.a h1
   have e:(((ns.getD k default).a.toNat:Nat):Int)=(ns.getD k default).a:=by omega
   have ih:=lowerI_fn hok hca f (ns.getD k default).a.toNat (by omega) (by omega)
   rwa [e] at ih
  have hkb:2≤arN (ns.getD k default).op→GoI ns (ns.getD k default).b (fun names=>lowP ns f (ns.getD k default).b.toNat names) (cntT ns (ns.getD k default).b.toNat):=fun h1=>by
   have:=hn.b h1
   have e:(((ns.getD k default).b.toNat:Nat):Int)=(ns.getD k default).b:=by omega
   have ih:=lowerI_fn hok hca f (ns.getD k default).b.toNat (by omega) (by omega)
   rwa [e] at ih
  have hkc:3≤arN (ns.getD k default).op→GoI ns (ns.getD k default).c (fun names=>lowP ns f (ns.getD k default).c.toNat names) (cntT ns (ns.getD k default).c.toNat):=fun h1=>by
   have:=hn.c h1
   have e:(((ns.getD k default).c.toNat:Nat):Int)=(ns.getD k default).c:=by omega
   have ih:=lowerI_fn hok hca f (ns.getD k default).c.toNat (by omega) (by omega)
   rwa [e] at ih
  refine⟨fun names=>lowP_count hok (f+1) k names h hk,fun names L hnl hL=>?_⟩
  obtain⟨A,hA⟩: ∃A:List ByteArray→Pt,A=fun names=>lowP ns f (ns.getD k default).a.toNat names:=⟨_,rfl⟩
  obtain⟨B,hB⟩: ∃B:List ByteArray→Pt,B=fun names=>lowP ns f (ns.getD k default).b.toNat names:=⟨_,rfl⟩
  obtain⟨C,hC⟩: ∃C:List ByteArray→Pt,C=fun names=>lowP ns f (ns.getD k default).c.toNat names:=⟨_,rfl⟩
  have el:lowP ns (f+1) k names=lowB (ns.getD k default) names (A (inT (ns.getD k default) 0 names)) (B (inT (ns.getD k default) 1 names)) (C (inT (ns.getD k default) 2 names)):=by rw[hA,hB,hC];rfl
  show FunQ env.P 16 [.lp 0 0,.d (dI k),.d (namesD names)] (loI ns L 0) (just (.d (dI (plc ((lowP ns (f+1) k names).on L)))) (loI ns ((lowP ns (f+1) k names).on L) (lowP ns (f+1) k names).count))
  rw[el]
  rw[←hA] at hka
  rw[←hB] at hkb
  rw[←hC] at hkc
  have hop:=hn.op
  have htx:=hn.tx
  have hn2:=hn.num2
  have hn4:=hn.num4
  have hct:=hca k hk
  clear hn hA hB hC el hca hok
  generalize cntT ns k=ck at*
  generalize cntT ns (ns.getD k default).a.toNat=ca at*
  generalize cntT ns (ns.getD k default).b.toNat=cb at*
  generalize cntT ns (ns.getD k default).c.toNat=cc at*
  generalize hat:ns.getD k default=n at*
  by_cases hpl:0<plainM n.op
  ·rw[show lowB n names (A (inT n 0 names)) (B (inT n 1 names)) (C (inT n 2 names))=Pt.mk (plainN n names) ([A (inT n 0 names),B (inT n 1 names),C (inT n 2 names)].take (arN n.op)) from if_pos hpl]
   exact lowerI_plain hk hat hpl hka hkb hkc (fun h=>htx (.inr h)) (by omega) (by omega)
  obtain⟨op,a,b,c,num,text⟩:=n
  simp only at hop hce hka hkb hkc htx hn2 hn4 hct hpl
  have:op=1∨op=2∨op=3∨op=4∨op=5∨op=6∨op=7∨op=8∨op=9∨op=10∨op=11∨op=12∨op=13∨op=14∨op=15∨op=16∨op=17∨op=18∨op=19∨op=20∨op=21∨op=22∨op=23∨op=24:=by omega
  rcases this with rfl|rfl|rfl|rfl|rfl|rfl|rfl|rfl|rfl|rfl|rfl|rfl|rfl|rfl|rfl|rfl|rfl|rfl|rfl|rfl|rfl|rfl|rfl|rfl
  ·exact absurd (show 0<plainM 1 by decide) hpl
  ·have e:arN 2=0:=rfl
   exact lowerI_2 hk hat (hn2 rfl) (by omega)
  ·have e:arN 3=0:=rfl
   exact lowerI_3 hk hat (htx (.inl rfl)) (by omega)
  ·have e:arN 4=0:=rfl
   exact lowerI_4 hk hat (hn4 rfl) (by omega)
  ·exact absurd (show 0<plainM 5 by decide) hpl
  ·exact absurd (show 0<plainM 6 by decide) hpl
  ·exact absurd (show 0<plainM 7 by decide) hpl
  ·have e:arN 8=2:=rfl
   rw[e] at hce
   simp at hce
   exact lowerI_8 hk hat (hka (by decide)) (hkb (by decide)) (by omega) (by omega)
  ·have e:arN 9=2:=rfl
   rw[e] at hce
   simp at hce
   exact lowerI_9 hk hat (hka (by decide)) (hkb (by decide)) (by omega) (by omega)
  ·exact absurd (show 0<plainM 10 by decide) hpl
  ·exact absurd (show 0<plainM 11 by decide) hpl
  ·exact absurd (show 0<plainM 12 by decide) hpl
  ·exact absurd (show 0<plainM 13 by decide) hpl
  ·exact absurd (show 0<plainM 14 by decide) hpl
  ·have e:arN 15=0:=rfl
   exact lowerI_15 hk hat  (by omega)
  ·have e:arN 16=0:=rfl
   exact lowerI_16 hk hat  (by omega)
  ·exact absurd (show 0<plainM 17 by decide) hpl
  ·exact absurd (show 0<plainM 18 by decide) hpl
  ·exact absurd (show 0<plainM 19 by decide) hpl
  ·exact absurd (show 0<plainM 20 by decide) hpl
  ·exact absurd (show 0<plainM 21 by decide) hpl
  ·have e:arN 22=0:=rfl
   exact lowerI_22 hk hat (hct rfl) (by omega)
  ·have e:arN 23=1:=rfl
   rw[e] at hce
   simp at hce
   exact lowerI_23 hk hat (hka (by decide)) (by omega) (by omega)
  ·have e:arN 24=0:=rfl
   exact lowerI_24 hk hat  (by omega)
theorem LowerTree_fn (ns:List Nd)(hf:fitsT ns):Fun env.P 6 [nodesD ns] (.agg [vI .i64 (lowC ns),vI .i64 (lowV ns),.og 0 0]) [.x (neC ((lowR ns).map coN) (some ((lowR ns).map Co.row))) 0]:=by
 have hsf:=ScopeFault_fn ns hf
 have hszn:=sizeN_fn ns
 unfold lowC lowV lowR
 by_cases h0:scopeC ns=0
 ·have ht:=scopeC_zero h0
  obtain⟨⟨h1,h2⟩,-,h3,-⟩:=treeM_ok ht
  have hok:=tdK_all ht
  have hcn:=cntT_all ht
  have hb:badM ns ns.length (ns.length - 1) []=[]:=by
   have h:=h0
   unfold scopeC at h
   rw[if_pos ht] at h
   split at h
   ·exact absurd h (by decide)
   ·rename_i h1
    exact headI_nil h1
  have hca: ∀j,j<ns.length→(ns.getD j default).op=22→among callsL (ns.getD j default).text=true:=fun j hj=>calls_known ns ns.length (ns.length - 1) [] (by omega) hb j (by rw[h3];exact List.mem_range.2 hj)
  have hone:=(lowerI_fn hok hca ns.length (ns.length - 1) (by omega) (by omega)).2 [] [] (by rw[hcn];simp;omega) (by rw[hcn];simp;omega)
  have hcl:=lowP_count hok ns.length (ns.length - 1) [] (by omega) (by omega)
  have hlt:(fun names=>lowP ns ns.length (ns.length - 1) names) []=lowT ns:=rfl
  rw[hlt] at hone
  change (lowT ns).count≤_ at hcl
  have hfl:(lowT ns).on []=(lowT ns).flat 0:=by simp[Pt.on]
  have hlen:=Pt.flat_length (lowT ns) 0
  rw[hfl,show((ns.length - 1:Nat):Int)=((ns.map Nd.row).length:Int) - 1 by simp;omega] at hone
  change FunQ env.P 16 [.lp 0 0,.d (dI (((ns.map Nd.row).length:Int) - 1)),.d (.sl 1 [])] [.pv [.d (nodesD ns),.og 1 0],.x (neC [] none) 0] (just _ [.pv [.d (nodesD ns),.og 1 (lowT ns).count],.x (neC (((lowT ns).flat 0).map coN) none) (lowT ns).count]) at hone
  rw[h0] at hsf ⊢
  simp only[true_and,if_true]
  generalize (lowT ns).flat 0=X at*
  generalize (lowT ns).count=cX at*
  generalize plc X=px at*
  have hXl:(X.map coN).length=cX:=by rw[List.length_map];exact hlen
  generalize scopeV ns=sv at*
  by_cases hbig:900<cX
  ·rw[if_pos hbig,if_neg (fun h=>h hbig)]
   refine FunQ.fin (t:=.agg [.d (dI 2),.d (dI 0),.og 0 0]) (ob1:=[.gr 6 59 [] 0 false]) ?_ ?_
   ·show Fun _ _ _ _ _
    refine Fun.intro Tryz.func6 rfl (by kernel_rfl) rfl ?_
    repeat'(first|refine W.stopAt 5 ?_|refine Z1 ?_|refine WG.c (E:=env) rfl rfl (hsf) rfl rfl ?_|((refine SP (fun h=>?_) fun h=>?_)<;>(try(exfalso;first|contradiction|omega))))
    all_goals first|(exfalso;omega)|skip
    refine⟨?_⟩
    refine W.adoptPv 2 1 59 rfl rfl ?_
    refine W.imp (St.imp.nest 3 5 132 5 rfl (by decide)) ?_
    repeat'(first|refine W.stopAt 6 ?_|refine Z1 ?_|(refine WG.cq (E:=env) (t':=.d (dI px)) (ob2:=[_,_,.pv [.d (nodesD ns),.og 3 (0+cX)],.x (neC (X.map coN) none) (0+cX)]) [2,3] [0,0] false rfl rfl hone rfl rfl rfl rfl rfl rfl rfl ⟨rfl,rfl,trivial⟩ (.inl rfl) rfl (fun h=>nomatch h) rfl rfl ?_)|refine WG.c (E:=env) rfl rfl (hszn) rfl rfl ?_|((refine SP (fun h=>?_) fun h=>?_)<;>(try(exfalso;first|contradiction|omega))))
    refine⟨?_⟩
    refine W.imp ((St.imp.revX 3 (0+cX) rfl).trans (St.imp.of_le (S':=⟨ofL [(0,.d (nodesD ns)),(2,.lp 0 0),(4,.lp 2 0)],[.pv [.d (dI 0),.d (dI 0),.d (.nl 6)],.pv [.d (dI 0),.d (dI sv)],.pv [.d (nodesD ns),.og 3 0],.x (neC (X.map coN) none) 0]⟩) (le_ofL rfl (by simp[revObs,Ob.rev,T.revL,T.rev,obsLe];exact⟨rfl,rfl,rfl,rfl,rfl,rfl,rfl⟩) (by(repeat(first|exact trivial|refine⟨⟨rfl,rfl⟩,?_⟩|refine⟨rfl,.inl rfl,?_⟩|refine⟨rfl,.inr rfl,?_⟩)))))) ?_
    refine W.imp (St.imp.note 3 rfl (X.map Co.row) (coN_dat X)) ?_
    repeat'(first|refine WG.lenN' (E:=env) ?_|refine Z1 ?_|fail|((refine SP (fun h=>?_) fun h=>?_)<;>(try(exfalso;first|contradiction|omega))))
    all_goals first|(exfalso;omega)|skip
    refine W.ret ?_
    exact RetR.agn3' rfl rfl
   ·exact fun w0 σ0 w g v I hv=>Fin.nest0 (by omega) w0 σ0 w g v I hv
  ·rw[if_neg hbig,if_pos hbig]
   refine Fun.intro Tryz.func6 rfl (by kernel_rfl) rfl ?_
   repeat'(first|refine W.stopAt 5 ?_|refine Z1 ?_|refine WG.c (E:=env) rfl rfl (hsf) rfl rfl ?_|((refine SP (fun h=>?_) fun h=>?_)<;>(try(exfalso;first|contradiction|omega))))
   all_goals first|(exfalso;omega)|skip
   refine⟨?_⟩
   refine W.adoptPv 2 1 59 rfl rfl ?_
   refine W.imp (St.imp.nest 3 5 132 5 rfl (by decide)) ?_
   repeat'(first|refine W.stopAt 6 ?_|refine Z1 ?_|(refine WG.cq (E:=env) (t':=.d (dI px)) (ob2:=[_,_,.pv [.d (nodesD ns),.og 3 (0+cX)],.x (neC (X.map coN) none) (0+cX)]) [2,3] [0,0] false rfl rfl hone rfl rfl rfl rfl rfl rfl rfl ⟨rfl,rfl,trivial⟩ (.inl rfl) rfl (fun h=>nomatch h) rfl rfl ?_)|refine WG.c (E:=env) rfl rfl (hszn) rfl rfl ?_|((refine SP (fun h=>?_) fun h=>?_)<;>(try(exfalso;first|contradiction|omega))))
   refine⟨?_⟩
   refine W.imp ((St.imp.revX 3 (0+cX) rfl).trans (St.imp.of_le (S':=⟨ofL [(0,.d (nodesD ns)),(2,.lp 0 0),(4,.lp 2 0)],[.pv [.d (dI 0),.d (dI 0),.d (.nl 6)],.pv [.d (dI 0),.d (dI sv)],.pv [.d (nodesD ns),.og 3 0],.x (neC (X.map coN) none) 0]⟩) (le_ofL rfl (by simp[revObs,Ob.rev,T.revL,T.rev,obsLe];exact⟨rfl,rfl,rfl,rfl,rfl,rfl,rfl⟩) (by(repeat(first|exact trivial|refine⟨⟨rfl,rfl⟩,?_⟩|refine⟨rfl,.inl rfl,?_⟩|refine⟨rfl,.inr rfl,?_⟩)))))) ?_
   refine W.imp (St.imp.note 3 rfl (X.map Co.row) (coN_dat X)) ?_
   repeat'(first|refine WG.lenN' (E:=env) ?_|refine Z1 ?_|fail|((refine SP (fun h=>?_) fun h=>?_)<;>(try(exfalso;first|contradiction|omega))))
   all_goals first|(exfalso;omega)|skip
   refine W.ret ?_
   exact RetR.agx3 (.inl rfl) rfl rO rfl rfl rfl rfl
 ·rw[if_neg h0,if_neg h0,if_neg (fun h=>h0 h.1)]
  generalize scopeC ns=c at*
  generalize scopeV ns=v at*
  refine FunQ.fin (t:=.agg [.d (dI c),.d (dI v),.og 0 0]) (ob1:=[.gr 6 59 [] 0 false]) ?_ ?_
  ·show Fun _ _ _ _ _
   refine Fun.intro Tryz.func6 rfl (by kernel_rfl) rfl ?_
   repeat'(first|refine Z1 ?_|refine WG.c (E:=env) rfl rfl (hsf) rfl rfl ?_|((refine SP (fun h=>?_) fun h=>?_)<;>(try(exfalso;first|contradiction|omega))))
   all_goals first|(exfalso;omega)|skip
   refine W.ret ?_
   exact RetR.agn3' rfl rfl
  ·exact fun w0 σ0 w g v I hv=>Fin.nest0 (by omega) w0 σ0 w g v I hv
def joinS (xs:List ByteArray)(sep:ByteArray):ByteArray:=⟨(Lib.join (xs.map (·.data.toList)) sep.data.toList).toArray⟩
theorem ba_app (a b:ByteArray):(a++b).data.toList=a.data.toList++b.data.toList:=by rw[ByteArray.data_append];simp
theorem ba_eq {a b:ByteArray}(h:a.data.toList=b.data.toList):a=b:=ByteArray.ext (Array.toList_inj.1 h)
theorem joinS_nil (sep:ByteArray):joinS [] sep=⟨#[]⟩:=rfl
theorem joinS_one (x sep:ByteArray):joinS [x] sep=x:=by
 apply ba_eq
 simp[joinS,Lib.join_one]
theorem joinS_snoc (xs:List ByteArray)(x sep:ByteArray)(h:xs≠[]):joinS (xs++[x]) sep=joinS xs sep++sep++x:=by
 apply ba_eq
 rw[ba_app,ba_app]
 unfold joinS
 cases xs with
 |nil=>exact absurd rfl h
 |cons y r=>
  simp only[List.cons_append,List.map_cons,List.map_append,List.map_nil]
  rw[Lib.join_cons,Lib.join_cons]
  simp[Lib.joinTail]
theorem joinS_size_le (xs:List ByteArray)(sep:ByteArray)(B:Nat)(h: ∀x∈xs,x.size≤B):(joinS xs sep).size≤xs.length*(B+sep.size):=by
 show(List.toArray _).size≤_
 rw[List.size_toArray]
 cases xs with
 |nil=>simp[Lib.join_nil]
 |cons y r=>
  simp only[List.map_cons]
  rw[Lib.join_cons,List.length_append,List.length_cons,Nat.add_mul,Nat.one_mul]
  have h1:y.data.toList.length≤B:=h y (List.mem_cons_self ..)
  have h2: ∀r:List ByteArray,(∀x∈r,x.size≤B)→(Lib.joinTail sep.data.toList (r.map (·.data.toList))).length≤r.length*(B+sep.size):=by
   intro r
   induction r with
   |nil=>intro _;simp[Lib.joinTail]
   |cons z r ih=>
    intro hr
    have:=ih fun x hx=>hr x (List.mem_cons_of_mem _ hx)
    have hz:z.data.toList.length≤B:=hr z (List.mem_cons_self ..)
    have hsp:sep.data.toList.length=sep.size:=rfl
    simp only[Lib.joinTail,List.map_cons,List.flatten_cons,List.length_append,List.length_cons,Nat.add_mul,Nat.one_mul] at this ⊢
    omega
  have:=h2 r fun x hx=>h x (List.mem_cons_of_mem _ hx)
  omega
theorem Join_fn (xs:List ByteArray)(sep:ByteArray)(hs:(joinS xs sep).size≤140737488355328)(hn:xs.length≤1048576):Fun env.P 32 [.sl 1 (xs.map keyRow),dS sep] (.d (dS (joinS xs sep))) []:=by
 refine Fun.ofRaw (entersT Tryz.func32 (c:=_) rfl (by kernel_rfl)) fun w σ0 vals hσ hl hr=>?_
 match vals,hl with
 |[v0,v1],_=>
  have e1:v1=.string sep:=by have:=hr 1 _ v1 rfl rfl;cases this;rfl
  subst e1
  have h0:=hr 0 _ v0 rfl rfl
  suffices h:Calls env.P 32 #[v0,.string sep] w fun e w'=>e=.returned (.string (joinS xs sep))∧Below w.heap.size w w' from h.mono fun e w' ⟨he,hw⟩=>⟨_,he,hw,fun g=>.d _ _ (.v _)⟩
  generalize hrows:xs.map keyRow=rows at h0
  cases h0 with
  |nil z A=>
   obtain rfl:xs=[]:=by simpa using hrows
   exact(Any.strings_Join_none lays156 lays156_X A 0 sep w).mono fun e w' ⟨he,hw⟩=>⟨he,hw▸Below.refl _ _⟩
  |sl _ _ b off cap U hcap hm hz hc hrd=>
   by_cases hne:xs=[]
   ·subst hne
    obtain rfl:rows=[]:=hrows.symm
    exact(Any.strings_Join_none lays156 lays156_X _ cap sep w).mono fun e w' ⟨he,hw⟩=>⟨he,hw▸Below.refl _ _⟩
   have hlen:rows.length=xs.length:=by rw[←hrows];simp
   have hcell: ∀(j:Nat) x,xs[j]? =some x→w.cell? ⟨b,off+j,none⟩=some (.string x):=fun j x hx=>by
    have hj:j<xs.length:=(List.getElem?_eq_some_iff.1 hx).1
    obtain⟨h1,_⟩:=hc j 0 (by omega) (by decide)
    have h2:=hrd j 0 (keyRow x) (dS x) (by rw[←hrows];simp[hx]) rfl
    have h3:U j 0=.string x:=by
     generalize U j 0=u at h2
     cases h2
     rfl
    rw[h3] at h1
    have h4:=hσ _ _ _ h1
    rwa [Nat.mul_one,Nat.add_zero] at h4
   have hbk:b<w.heap.size:=by
    obtain⟨x,r,rfl⟩: ∃x r,xs=x::r:=by
     cases xs with
     |nil=>exact absurd rfl hne
     |cons x r=>exact⟨x,r,rfl⟩
    exact World.block_lt_of_cell? w ⟨b,off+0,none⟩ (hcell 0 x rfl)
   have:=Any.strings_Join lays156 lays156_X b off cap xs sep w hcell hbk (by omega) (by omega) (by exact hs)
   rw[hlen]
   exact this
theorem ObOK.toMine {m m':Nat→Prop}(h: ∀b,m b→m' b){g:Gh}{w:World}{k:Nat}{o:Ob}(ho:ObOK m g w k o):ObOK m' g w k o:=by
 cases o with
 |pv cs=>
  obtain⟨h1,b,vs,e,h2,h3,h4⟩:=ho
  exact⟨h1,b,vs,e,h2,h _ h3,h4⟩
 |gr z e rows n pub=>
  obtain⟨h1,xs,⟨h2,h3⟩,h4⟩:=ho
  exact⟨h1,xs,⟨h2,fun b hb=>h _ (h3 b hb)⟩,h4⟩
 |x X n=>
  obtain⟨h1,h2,h3⟩:=ho
  exact⟨h1,h2,fun b hb=>⟨h _ (h3 b hb).1,(h3 b hb).2⟩⟩
 |dead=>trivial
 |new=>exact ho
theorem Inv.drew {w0 w:World}{B:Bs}{ob:List Ob}{g:Gh}(I:Inv w0 B ob w g):Inv w0 B ob w.drew g:=by
 refine⟨⟨I.below.os,I.below.tape,I.below.output,I.below.size,I.below.block⟩,I.old,I.con,fun k o hk=>?_,I.lim,I.dis,I.ext⟩
 have:=I.obs k o hk
 cases o with
 |pv cs=>exact this
 |gr z e rows n pub=>exact this
 |x X n=>exact this
 |dead=>trivial
 |new=>exact this
theorem Inv.setCell {w0 w:World}{B:Bs}{ob:List Ob}{g:Gh}{l i b:Nat}{cs:List T}{t:T}{u:Value}(I:Inv w0 B ob w g)(hl:ob[l]? =some (.pv cs))(hγ:g.γ l 0=.pointer (some ⟨b,0,none⟩))(hi:i<cs.length)(ht:RT g t u)(h1:u.oneCell'=true):
 Inv w0 B (ob.set l (.pv (cs.set i t))) (w.setCell ⟨b,i,none⟩ u) g:=by
 obtain⟨hlim,b',vs,e,hγ',hb,hh,hlen,hcs,hone,hσ⟩:=I.obs l _ hl
 rw[hγ] at hγ'
 injection hγ' with e1;injection e1 with e1;injection e1 with e1 _ _
 subst e1
 refine I.setPv (off:=i) (vals:=[t]) (us:=[u]) hl hγ hh hlen (by simp;omega) rfl (fun j x v hx hv=>?_) (by simpa using h1) ?_ rfl rfl rfl (by simp[World.setCell]) fun k hk=>Below.heap_setCell w ⟨b,i,none⟩ u k hk
 ·match j with
  |0=>
   simp at hx hv
   subst hx;subst hv
   exact ht
  |j+1=>simp at hx
 ·simp[World.setCell,Array.getElem?_modify,hh,setAll]
theorem ObOK.own_at {m:Nat→Prop}{g:Gh}{w:World}{k:Nat}{o:Ob}(ho:ObOK m g w k o){b:Nat}(hb:g.at k o b):m b:=by
 cases o with
 |pv cs=>
  obtain⟨h1,b',vs,e,h2,h3,h4⟩:=ho
  have hb':g.γ k 0=.pointer (some ⟨b,0,none⟩):=hb
  rw[h2] at hb'
  injection hb' with e1;injection e1 with e1;injection e1 with e1 _ _
  subst e1
  exact h3
 |gr z e rows n pub=>
  obtain⟨h1,xs,⟨h2,h3⟩,h4⟩:=ho
  exact h3 b hb
 |x X n=>
  obtain⟨h1,h2,h3⟩:=ho
  exact(h3 b hb).1
 |dead=>exact absurd hb id
 |new=>exact absurd hb id
theorem ObOK.toAt {m m':Nat→Prop}{g:Gh}{w:World}{k:Nat}{o:Ob}(h: ∀b,g.at k o b→m' b)(ho:ObOK m g w k o):ObOK m' g w k o:=by
 cases o with
 |pv cs=>
  obtain⟨h1,b,vs,e,h2,h3,h4⟩:=ho
  exact⟨h1,b,vs,e,h2,h _ h2,h4⟩
 |gr z e rows n pub=>
  obtain⟨h1,xs,⟨h2,h3⟩,h4⟩:=ho
  exact⟨h1,xs,⟨h2,fun b hb=>h _ hb⟩,h4⟩
 |x X n=>
  obtain⟨h1,h2,h3⟩:=ho
  exact⟨h1,h2,fun b hb=>⟨h _ hb,(h3 b hb).2⟩⟩
 |dead=>trivial
 |new=>exact ho
theorem Inv.restart {w0 w:World}{B:Bs}{ob:List Ob}{g:Gh}(I:Inv w0 B ob w g):Inv w (baseOf ob g) ob w g:=
 ⟨.refl _ _,fun _ _ _ _=>rfl,I.con,fun k o hk=>(I.obs k o hk).toAt fun b hb=>.inr ⟨k,o,hk,hb⟩,I.lim,I.dis,fun k _=>.inr rfl⟩
theorem Inv.after {w w1 w2:World}{ob ob1 ob':List Ob}{g g1 g2:Gh}(hI:Inv w (baseOf ob g) ob1 w1 g1)(J:Inv w1 (baseOf ob1 g1) ob' w2 g2)(hl:ob.length≤ob1.length)(hγ: ∀k,k<ob.length→g1.γ k 0=g.γ k 0):Inv w (baseOf ob g) ob' w2 g2:=by
 have hown: ∀b,(baseOf ob1 g1).own b→mineB w (baseOf ob g) b:=fun b ⟨k,o,hk,hb⟩=>(hI.obs k o hk).own_at hb
 have hmine: ∀b,mineB w1 (baseOf ob1 g1) b→mineB w (baseOf ob g) b:=fun b hb=>by
  rcases hb with hb|hb
  ·exact .inl (Nat.le_trans hI.below.size hb)
  ·exact hown b hb
 have hnot: ∀b,b<w.heap.size→¬(baseOf ob g).own b→¬(baseOf ob1 g1).own b:=fun b hb hn h=>by
  rcases hown b h with h|h
  ·omega
  ·exact hn h
 refine⟨⟨J.below.os.trans hI.below.os,J.below.tape.trans hI.below.tape,J.below.output.trans hI.below.output,Nat.le_trans hI.below.size J.below.size,fun k hk hn=>?_⟩,fun b o hb hn=>?_,J.con,fun k o hk=>(J.obs k o hk).toMine hmine,J.lim,J.dis,fun k hk=>?_⟩
 ·exact(J.below.block k (Nat.lt_of_lt_of_le hk hI.below.size) (hnot k hk hn)).trans (hI.below.block k hk hn)
 ·exact(J.old b o (Nat.lt_of_lt_of_le hb hI.below.size) (hnot b hb hn)).trans (hI.old b o hb hn)
 ·rcases J.ext k (Nat.lt_of_lt_of_le hk hl) with h|h
  ·exact .inl h
  ·exact .inr (h.trans (hγ k hk))
theorem Inv.cellV {w0 w:World}{B:Bs}{ob:List Ob}{g:Gh}{l b:Nat}{cs:List T}(I:Inv w0 B ob w g)(hl:ob[l]? =some (.pv cs))(hγ:g.γ l 0=.pointer (some ⟨b,0,none⟩)){i:Nat}{t:T}(hc:cs[i]? =some t): ∃u,w.cell? ⟨b,i,none⟩=some u∧RT g t u∧w.frozen? ⟨b,i,none⟩=false:=by
 obtain⟨hlim,b',vs,e,hγ',hb,hh,hlen,hcs,hone,hσ⟩:=I.obs l _ hl
 rw[hγ] at hγ'
 injection hγ' with e1;injection e1 with e1;injection e1 with e1 _ _
 subst e1
 have hlt:i<vs.length:=by
  have:=(List.getElem?_eq_some_iff.1 hc).1
  omega
 refine⟨vs[i],?_,hcs i t _ hc (List.getElem?_eq_getElem hlt),by simp[World.frozen?,hh]⟩
 rw[cell_of_heap hh]
 exact List.getElem?_eq_getElem hlt
end Go.Proofs.YtmmjbpgdkokjgaaGreatDoor
