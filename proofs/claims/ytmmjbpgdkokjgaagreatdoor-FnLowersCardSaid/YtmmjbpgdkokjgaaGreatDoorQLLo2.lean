/-
  A text of this claim. Conditions: none.
-/
import Derived.Test.YtmmjbpgdkokjgaaGreatDoorQLCt1
import Derived.Test.YtmmjbpgdkokjgaaGreatDoorQLOr1
import Derived.Test.YtmmjbpgdkokjgaaGreatDoorQLV6
import Derived.Test.YtmmjbpgdkokjgaaGreatDoorQLPgF
import Derived.Test.YtmmjbpgdkokjgaaGreatDoorQLTr4
import Derived.Test.YtmmjbpgdkokjgaaGreatDoorQLPgE
import Derived.Test.YtmmjbpgdkokjgaaGreatDoorQLCp2
import Derived.Test.YtmmjbpgdkokjgaaGreatDoorQLLo1
import Derived.Test.YtmmjbpgdkokjgaaGreatDoorQLOn0
set_option linter.unusedVariables false
set_option linter.unusedSimpArgs false
set_option maxRecDepth 100000
set_option maxHeartbeats 16000000
namespace Go.Proofs.YtmmjbpgdkokjgaaGreatDoor
open Go.RowKit
theorem coreM_zero {cs:List Co}(h:coreM cs=0):cs.length≤900∧ ∀j,j<cs.length→coreC (cs.getD j default) j=0:=by
 unfold coreM at h
 split at h
 ·exact absurd h (by decide)
 ·rename_i h1
  split at h
  ·rename_i h2
   exact absurd h h2
  ·rename_i h2
   exact⟨by omega,fun j hj=>firstK_zero (f:=cCode cs) (Classical.not_not.1 h2) j (by omega) (by omega)⟩
noncomputable def coreR (cs:List Co):ByteArray:=if coreM cs=0 then coreT cs cs.length else noS
theorem valTx_eq {n:Co}{k:Nat}(h:coreC n k=0):valTx n.val=valT n:=by
 unfold valTx valT
 cases hv:hasVl n.op with
 |true=>rw[if_neg (val_some h hv).2,if_pos rfl]
 |false=>rw[if_pos (val_empty h hv),if_neg (fun h=>by cases h)]
theorem line_facts (q:TypeId×(Nat×Nat))(n:Co)(i:Nat)(h:coreC n i=0)(hf:n.fine)(hi:i≤1048576): ∃(R:List (List D)) (vt js:ByteArray),
 FunQ env.P 29 [.d (.sl 1 ((numsK n i).map intRow))] [tabO q] (just (.og 1 0) [tabO q,.gr 1 9 R 0 false])∧
 FunQ env.P 30 [.d (cellsD n.val)] [tabO q] (just (.d (dS vt)) [tabO q])∧
 Fun env.P 32 [.sl 1 (R++[keyRow vt]),dS ⟨#[32]⟩] (.d (dS js)) []∧lineK n i=js++⟨#[10]⟩∧js.size≤420007∧R.length=6:=by
 refine⟨((numsK n i).map itoaS).map keyRow,valTx n.val,joinS (wordK n i++[valT n]) ⟨#[32]⟩,numberTexts_fn q _ (by show 6≤1000;omega) (numsK_bound h hi),valText_fn q n.val hf (fun hne=>?_),?_,rfl,join_line_size h hi,rfl⟩
 ·cases hv:hasVl n.op with
  |true=>exact(val_some h hv).1
  |false=>exact absurd (val_empty h hv) hne
 ·have hj:=Join_fn (wordK n i++[valT n]) ⟨#[32]⟩ (by have:=join_line_size h hi;omega) (by show 7≤1048576;omega)
  exact hj.cast (by rw[valTx_eq h];simp[wordK]) rfl rfl
theorem CoreText_fn (q:TypeId×(Nat×Nat))(cs:List Co)(hf:fitsK cs):FunQ env.P 12 [.d (coresD cs)] [tabO q] (just (.d (.agg [dI (coreM cs),dS (coreR cs)])) [tabO q]):=by
 have hcf:=CoreFault_fn cs hf.2 hf.1
 refine FunQ.intro Tryz.func12 rfl (by kernel_rfl) rfl ?_
 by_cases h0:coreM cs=0
 ·rw[coreR,if_pos h0]
  obtain⟨hl,hz⟩:=coreM_zero h0
  rw[h0] at hcf ⊢
  repeat'(first|refine WG.bd (E:=env) (t:=69) rfl rfl rfl rfl rfl ?_|refine WG.alB (E:=env) (t:=69) 5 rfl rfl rfl rfl rfl ?_|refine WG.stB (E:=env) (t:=69) rfl rfl rfl rfl rfl rfl ?_|refine Z1 ?_|refine WG.c (E:=env) rfl rfl (hcf) rfl rfl ?_|((refine SP (fun h=>?_) fun h=>?_)<;>(try(exfalso;first|contradiction|omega))))
  refine W.loopI (fun m S=> ∃(i:Nat) (s:ByteArray),m=cs.length - i∧(i≤cs.length∧s=coreT cs i)∧S=⟨ofL [(2,.lp 1 0),(4,.lp 2 0),(15,.d (coresD cs)),(16,vI .i64 (cs.map Co.row).length),(17,vI .i64 i)],[tabO q,.pv [.d (dI 0),.d (dS ByteArray.empty)],bdO s]⟩) _ _ ⟨0,_,rfl,⟨by omega,rfl⟩,rfl⟩ (St.imp.of_le lE) ?_
  rintro m S ⟨i,s,rfl,⟨hi,hs⟩,rfl⟩
  have hss:=coreT_size hz (by omega) i hi
  rw[←hs] at hss
  by_cases hlt:i<cs.length
  ·have hci:coreC (cs.getD (Int.toNat (i:Int)) default) i=0:=by rw[Int.toNat_natCast];exact hz i hlt
   have hfi:(cs.getD (Int.toNat (i:Int)) default).fine:=hf.1 _ (getD_mem' (by rw[Int.toNat_natCast];exact hlt))
   have hnx:coreT cs (i+1)=s++lineK (cs.getD (Int.toNat (i:Int)) default) i:=by rw[coreT,←hs,Int.toNat_natCast]
   obtain⟨R,vt,js,hnt,hvt,hj,hlk,hjz,hR6⟩:=line_facts q _ i hci hfi (by omega)
   rw[hlk] at hnx
   have z1:(js++⟨#[10]⟩).size=js.size+1:=by rw[ByteArray.size_append];rfl
   have z2:(⟨#[10]⟩:ByteArray).size=1:=rfl
   have hsz:s.size≤420008*900:=Nat.le_trans hss (Nat.mul_le_mul_left _ (by omega))
   have hw:=WriteString_fn s (js++⟨#[10]⟩) (by omega) (by omega)
   repeat'(first|(refine W.dre' (id:=8) [12,17] (fun f=>bif bt f 2 then [tabO q,.pv [.d (dI 0),.d (dS ByteArray.empty)],bdO s,.pv ((cs.getD (Int.toNat (i:Int)) default).row.map .d),.gr 1 9 (R++[keyRow vt]) 1 false] else bif bt f 1 then [tabO q,.pv [.d (dI 0),.d (dS ByteArray.empty)],bdO s,.pv ((cs.getD (Int.toNat (i:Int)) default).row.map .d),.gr 1 9 R 0 false] else [tabO q,.pv [.d (dI 0),.d (dS ByteArray.empty)],bdO s,.pv ((cs.getD (Int.toNat (i:Int)) default).row.map .d)]) [(0,[0]),(0,[0]),(0,[0]),(0,[0]),(0,[0]),(0,[0]),(0,[0]),(0,[0]),(0,[0]),(0,[0]),(0,[0]),(0,[0]),(1,[0]),(0,[0,1]),(0,[0,1]),(0,[1]),(0,[1]),(2,[1]),(0,[3])] [tabO q,.pv [.d (dI 0),.d (dS ByteArray.empty)],bdO s,.pv ((cs.getD (Int.toNat (i:Int)) default).row.map .d),.gr 1 9 (R++[keyRow vt]) 1 false] ?_)|refine W.pubD 4 rfl ?_|(refine WE.mkd (.og 4 0) ?_ ?_;rotate_left;exact .c (OpS1.cq (E:=env) [0] [0] false rfl rfl hnt rfl rfl rfl rfl rfl rfl rfl ⟨rfl,trivial⟩ (.inl rfl) rfl (fun h=>nomatch h) rfl rfl) .n)|(refine WE.mkd (.d (dS vt)) ?_ ?_;rotate_left;exact .c (OpS1.cq (E:=env) [0] [0] false rfl rfl hvt rfl rfl rfl rfl rfl rfl rfl ⟨rfl,trivial⟩ (.inl rfl) rfl (fun h=>nomatch h) rfl rfl) .n)|refine Z2 ?_|refine Z1 ?_|refine WG.c (E:=env) rfl rfl (hj) rfl rfl ?_|refine WG.cq (E:=env) [2] [0] false rfl rfl (hw) rfl rfl rfl rfl rfl rfl rfl (by first|exact trivial|exact⟨rfl,trivial⟩|exact⟨rfl,rfl,trivial⟩) (.inl rfl) rfl (fun h=>nomatch h) rfl rfl ?_|((refine SP (fun h=>?_) fun h=>?_)<;>(try(exfalso;first|contradiction|omega))))
   exact⟨_,_,by omega,⟨i+1,s++(js++⟨#[10]⟩),rfl,⟨by omega,hnx.symm⟩,rfl⟩,(St.imp.of_le lE)⟩
  ·obtain rfl:i=cs.length:=by omega
   have hst:=String_fn s
   subst hs
   repeat'(first|refine Z1 ?_|refine WG.cq (E:=env) [2] [0] false rfl rfl (hst) rfl rfl rfl rfl rfl rfl rfl (by first|exact trivial|exact⟨rfl,trivial⟩|exact⟨rfl,rfl,trivial⟩) (.inl rfl) rfl (fun h=>nomatch h) rfl rfl ?_|((refine SP (fun h=>?_) fun h=>?_)<;>(try(exfalso;first|contradiction|omega))))
   (refine W.ret ?_;refine RetR.tb' ?_)
   rfl
 ·rw[coreR,if_neg h0]
  generalize coreM cs=c at*
  repeat'(first|refine Z1 ?_|refine WG.c (E:=env) rfl rfl (hcf) rfl rfl ?_|((refine SP (fun h=>?_) fun h=>?_)<;>(try(exfalso;first|contradiction|omega))))
  all_goals first|(exfalso;omega)|skip
  (refine W.ret ?_;refine RetR.tb' ?_)
  rfl
def runT (s:ByteArray)(ws:List ByteArray):ByteArray:=ws.foldl (fun b w=>(b++w)++⟨#[32]⟩) s
theorem runT_snoc (s:ByteArray)(ws:List ByteArray)(w:ByteArray):runT s (ws++[w])=(runT s ws++w)++⟨#[32]⟩:=by simp[runT]
theorem joinS_cons (w x:ByteArray)(r:List ByteArray)(sep:ByteArray):joinS (w::x::r) sep=w++(sep++joinS (x::r) sep):=by
 apply ba_eq
 rw[ba_app,ba_app]
 unfold joinS
 simp only[List.map_cons]
 rw[Lib.join_cons,Lib.join_cons]
 simp[Lib.joinTail]
theorem runT_join (v:ByteArray): ∀(ws:List ByteArray) (s:ByteArray),runT s ws++v=s++joinS (ws++[v]) ⟨#[32]⟩
 |[],s=>by
  show s++v=s++joinS [v] _
  rw[joinS_one]
 |w::r,s=>by
  have h:=runT_join v r ((s++w)++⟨#[32]⟩)
  have e:runT s (w::r)=runT ((s++w)++⟨#[32]⟩) r:=rfl
  rw[e,h]
  obtain⟨x,t,ht⟩: ∃x t,r++[v]=x::t:=by
   cases r with
   |nil=>exact⟨_,_,rfl⟩
   |cons a b=>exact⟨_,_,rfl⟩
  rw[List.cons_append,ht,joinS_cons]
  simp only[ba_assoc]
theorem runT_size (B:Nat): ∀(ws:List ByteArray) (s:ByteArray),(∀w∈ws,w.size≤B)→(runT s ws).size≤s.size+(B+1)*ws.length
 |[],s,_=>Nat.le_refl _
 |w::r,s,h=>by
  have h1:=runT_size B r ((s++w)++⟨#[32]⟩) fun x hx=>h x (List.mem_cons_of_mem _ hx)
  have h2:=h w (List.mem_cons_self ..)
  have h3:((s++w)++⟨#[32]⟩).size=s.size+w.size+1:=by rw[ByteArray.size_append,ByteArray.size_append];rfl
  have e:runT s (w::r)=runT ((s++w)++⟨#[32]⟩) r:=rfl
  rw[e,List.length_cons,Nat.mul_add]
  omega
theorem getD_mapT {α β:Type} [Inhabited α] [Inhabited β](f:α→β)(l:List α){k:Nat}(h:k<l.length):(l.map f).getD k default=f (l.getD k default):=by simp[List.getD_eq_getElem?_getD,h]
theorem l2Digits_int (x:Int)(h0:0≤x)(h1:x≤1048576):Fun env.P 35 [dI x] (.d (dS (itoaS x))) []:=by
 obtain⟨m,rfl⟩: ∃m:Nat,x=(m:Int):=⟨x.toNat,by omega⟩
 rw[itoaS_nat]
 exact l2Digits_fn m (by omega)
theorem CoreTextS_fn (cs:List Co)(hf:fitsK cs):Fun env.P 13 [coresD cs] (.d (.agg [dI (coreM cs),dS (coreR cs)])) []:=by
 have hcf:=CoreFaultS_fn cs hf.2 hf.1
 by_cases h0:coreM cs=0
 ·rw[coreR,if_pos h0]
  obtain⟨hl,hz⟩:=coreM_zero h0
  rw[h0] at hcf ⊢
  refine Fun.intro Tryz.func13 rfl (by kernel_rfl) rfl ?_
  repeat'(first|refine Z1 ?_|refine WG.c (E:=env) rfl rfl (hcf) rfl rfl ?_|((refine SP (fun h=>?_) fun h=>?_)<;>(try(exfalso;first|contradiction|omega))))
  refine W.loopI (fun m S=> ∃(i:Nat) (s:ByteArray),m=cs.length - i∧(i≤cs.length∧s=coreT cs i)∧S=⟨ofL [(0,.d (coresD cs)),(2,.lp 0 0),(4,vS s),(5,vI .i64 i)],[.pv [.d (dI 0),.d (dS ByteArray.empty)]]⟩) _ _ ⟨0,_,rfl,⟨by omega,rfl⟩,rfl⟩ (St.imp.of_le lE) ?_
  rintro m S ⟨i,s,rfl,⟨hi,hs⟩,rfl⟩
  have hss:=coreT_size hz (by omega) i hi
  rw[←hs] at hss
  have hsz:s.size≤420008*900:=Nat.le_trans hss (Nat.mul_le_mul_left _ (by omega))
  by_cases hlt:i<cs.length
  ·have hci:coreC (cs.getD (Int.toNat (i:Int)) default) i=0:=by rw[Int.toNat_natCast];exact hz i hlt
   have hfi:(cs.getD (Int.toNat (i:Int)) default).fine:=hf.1 _ (getD_mem' (by rw[Int.toNat_natCast];exact hlt))
   have hnx:coreT cs (i+1)=s++lineK (cs.getD (Int.toNat (i:Int)) default) i:=by rw[coreT,←hs,Int.toNat_natCast]
   have hnb:=numsK_bound hci (by omega)
   have hwz:=word_size hci (by omega)
   have hvz:=valT_size hci
   have hrj:=runT_join (valT (cs.getD (Int.toNat (i:Int)) default)) (wordK (cs.getD (Int.toNat (i:Int)) default) i) s
   have hrz:=runT_size 21 (wordK (cs.getD (Int.toNat (i:Int)) default) i) s fun w hw=>(hwz w hw).2
   have hwl:(wordK (cs.getD (Int.toNat (i:Int)) default) i).length=6:=rfl
   have h6:=l6HasVal_fn (cs.getD (Int.toNat (i:Int)) default).op
   repeat'(first|refine Z1 ?_|((refine SP (fun h=>?_) fun h=>?_)<;>(try(exfalso;first|contradiction|omega))))
   refine W.pubD 2 rfl ?_
   refine W.loop (fun m S=> ∃(k:Nat) (b:ByteArray),m=6 - k∧(k≤6∧b=runT s ((wordK (cs.getD (Int.toNat (i:Int)) default) i).take k))∧S=⟨ofL [(0,.d (coresD cs)),(2,.lp 0 0),(4,vS b),(5,vI .i64 i),(6,.lp 1 0),(7,.d (.sl 1 ((numsK (cs.getD (Int.toNat (i:Int)) default) i).map intRow))),(8,vI .i64 k)],[.pv [.d (dI 0),.d (dS ByteArray.empty)],.pv [.d (dI (cs.getD (Int.toNat (i:Int)) default).op),.d (dI (cs.getD (Int.toNat (i:Int)) default).a),.d (dI (cs.getD (Int.toNat (i:Int)) default).b),.d (dI (cs.getD (Int.toNat (i:Int)) default).c),.d (dI (cs.getD (Int.toNat (i:Int)) default).num),.d (cellsD (cs.getD (Int.toNat (i:Int)) default).val)]]⟩) _ _ ⟨0,_,rfl,⟨by omega,rfl⟩,rfl⟩ lE ?_
   rintro m S ⟨k,b,rfl,⟨hk,hb⟩,rfl⟩
   have hbz:=runT_size 21 ((wordK (cs.getD (Int.toNat (i:Int)) default) i).take k) s fun w hw=>(hwz w (List.mem_of_mem_take hw)).2
   rw[←hb,List.length_take] at hbz
   by_cases hkt:k<6
   ·have hx:=hnb ((numsK (cs.getD (Int.toNat (i:Int)) default) i).getD (Int.toNat (k:Int)) default) (getD_mem' (by rw[Int.toNat_natCast];exact hkt))
    have hd:=l2Digits_int _ hx.1 hx.2
    have hwz2:=itoaS_size ((numsK (cs.getD (Int.toNat (i:Int)) default) i).getD (Int.toNat (k:Int)) default) (by omega) (by omega)
    have hn:runT s ((wordK (cs.getD (Int.toNat (i:Int)) default) i).take (k+1))=(b++itoaS ((numsK (cs.getD (Int.toNat (i:Int)) default) i).getD (Int.toNat (k:Int)) default))++⟨#[32]⟩:=by
     rw[take_step (show k<(wordK (cs.getD (Int.toNat (i:Int)) default) i).length from hkt),runT_snoc,←hb]
     congr 2
     rw[Int.toNat_natCast k]
     exact getD_mapT itoaS _ hkt
    have hnl:(numsK (cs.getD (Int.toNat (i:Int)) default) i).length=6:=rfl
    generalize itoaS ((numsK (cs.getD (Int.toNat (i:Int)) default) i).getD (Int.toNat (k:Int)) default)=w at*
    have z1:(b++w).size=b.size+w.size:=ByteArray.size_append ..
    have z2:(⟨#[32]⟩:ByteArray).size=1:=rfl
    repeat'(first|refine Z1 ?_|refine WG.c (E:=env) rfl rfl (hd) rfl rfl ?_|((refine SP (fun h=>?_) fun h=>?_)<;>(try(exfalso;first|contradiction|omega))))
    exact⟨_,_,by omega,⟨k+1,(b++w)++⟨#[32]⟩,rfl,⟨by omega,hn.symm⟩,rfl⟩,lE⟩
   ·obtain rfl:k=6:=by omega
    rw[List.take_of_length_le (by omega)] at hb
    rw[←hb] at hrj
    have hln:s++lineK (cs.getD (Int.toNat (i:Int)) default) i=(b++valT (cs.getD (Int.toNat (i:Int)) default))++⟨#[10]⟩:=by
     rw[hrj,lineK,ba_assoc]
    rw[hln] at hnx
    have hnl:(numsK (cs.getD (Int.toNat (i:Int)) default) i).length=6:=rfl
    cases hv:hasVl (cs.getD (Int.toNat (i:Int)) default).op with
    |true=>
     rw[hv] at h6
     obtain⟨hfv,hcv⟩:=valOfM_fine (val_some hci hv).1
     have he:=l2Encode_fn _ (valOfM (cs.getD (Int.toNat (i:Int)) default).val).1 (Nat.le_refl _) hfv
     rw[←hcv] at he
     have hvt:valT (cs.getD (Int.toNat (i:Int)) default)=(valOfM (cs.getD (Int.toNat (i:Int)) default).val).1.enc:=if_pos hv
     rw[hvt] at hnx hvz
     generalize (valOfM (cs.getD (Int.toNat (i:Int)) default).val).1.enc=e at*
     have z1:(b++e).size=b.size+e.size:=ByteArray.size_append ..
     have z2:(⟨#[10]⟩:ByteArray).size=1:=rfl
     repeat'(first|refine Z1 ?_|refine WG.c (E:=env) rfl rfl (h6) rfl rfl ?_|refine WG.c (E:=env) rfl rfl (he) rfl rfl ?_|((refine SP (fun h=>?_) fun h=>?_)<;>(try(exfalso;first|contradiction|omega))))
     all_goals first|(exfalso;omega)|skip
     exact⟨_,_,by omega,⟨i+1,(b++e)++⟨#[10]⟩,rfl,⟨by omega,hnx.symm⟩,rfl⟩,(St.imp.of_le lE)⟩
    |false=>
     rw[hv] at h6
     have hvt:valT (cs.getD (Int.toNat (i:Int)) default)=dashS:=if_neg (by rw[hv];exact fun h=>by cases h)
     rw[hvt,ba_assoc] at hnx
     have z2:(⟨#[45,10]⟩:ByteArray).size=2:=rfl
     repeat'(first|refine Z1 ?_|refine WG.c (E:=env) rfl rfl (h6) rfl rfl ?_|((refine SP (fun h=>?_) fun h=>?_)<;>(try(exfalso;first|contradiction|omega))))
     all_goals first|(exfalso;omega)|skip
     exact⟨_,_,by omega,⟨i+1,b++⟨#[45,10]⟩,rfl,⟨by omega,hnx.symm⟩,rfl⟩,(St.imp.of_le lE)⟩
  ·obtain rfl:i=cs.length:=by omega
   subst hs
   repeat'(first|refine Z1 ?_|((refine SP (fun h=>?_) fun h=>?_)<;>(try(exfalso;first|contradiction|omega))))
   (refine W.ret ?_;(first|refine RetQ.d' ?_))
   rfl
 ·rw[coreR,if_neg h0]
  generalize coreM cs=c at*
  refine Fun.intro Tryz.func13 rfl (by kernel_rfl) rfl ?_
  repeat'(first|refine Z1 ?_|refine WG.c (E:=env) rfl rfl (hcf) rfl rfl ?_|((refine SP (fun h=>?_) fun h=>?_)<;>(try(exfalso;first|contradiction|omega))))
  all_goals first|(exfalso;omega)|skip
  (refine W.ret ?_;(first|refine RetQ.d' ?_))
  rfl
theorem WG.pubD {P:Program}{N:Nm}{G:List Nat}{ops l:List Oper}{Q:Exit→St→Prop}{tm:Nat→T}{ob:List Ob}(k:Nat){z n:Nat}{e:TypeId}{rows:List (List D)}(hk:ob[k]? =some (.gr z e rows n false))
 (h:WG G P N ops l Q ⟨fun i=>pubd k n (.sl z rows) (tm i),ob.set k (.gr z e rows n true)⟩):WG G P N ops l Q ⟨tm,ob⟩:=fun w0 σ0 a w g r=>by
 obtain⟨g',hle,hlim,I⟩:=r.inv.pub hk
 have hlt:k<ob.length:=(List.getElem?_eq_some_iff.1 hk).1
 exact h w0 σ0 a w g' ⟨I,r.defers,r.size,r.hm,by simpa using r.hl,fun i=>((r.tm i).mono hle).pubd I (List.getElem?_set_self hlt)⟩
abbrev bytD (bs:List Int):D:=.sl 1 (bs.map fun b=>[dY b])
abbrev srcO (bs:List Int)(k:Int):Ob:=.pv [.d (bytD bs),.d (dI k)]
def okB (bs:List Int):Prop:=bs.length≤2097152∧ ∀b∈bs,0≤b∧b≤255
theorem okB_at {bs:List Int}(h:okB bs)(i:Nat):0≤bs.getD i default∧bs.getD i default≤255:=by
 by_cases hi:i<bs.length
 ·exact h.2 _ (getD_mem' hi)
 ·rw[List.getD_eq_getElem?_getD,List.getElem?_eq_none (by omega)]
  exact⟨by decide,by decide⟩
theorem tdiv_le {k L:Int}(hk:0≤k)(hL:0<L):0≤k.tdiv L∧k.tdiv L≤k:=⟨Int.tdiv_nonneg hk (by omega),Int.tdiv_le_self L hk⟩
theorem tmod_in {k L:Int}(hk:0≤k)(hL:0<L):0≤k.tmod L∧k.tmod L<L:=⟨Int.tmod_nonneg _ hk,Int.tmod_lt_of_pos _ hL⟩
def nextN (bs:List Int)(q n:Int):Int:=
 if n<1 then 0
 else if(bs.length:Int)=0 then(q*7).tmod n
 else if 200<n then((bs.getD (q.tmod bs.length).toNat default+q.tdiv bs.length*37)*251+bs.getD ((q+1).tmod bs.length).toNat default*13+q).tmod n
 else(bs.getD (q.tmod bs.length).toNat default+q.tdiv bs.length*37).tmod n
theorem nextN_in {bs:List Int}{k n:Int}(hb:okB bs)(hk:0≤k)(hn:1≤n):0≤nextN bs k n∧nextN bs k n<n:=by
 unfold nextN
 rw[if_neg (by omega)]
 by_cases h0:(bs.length:Int)=0
 ·rw[if_pos h0];exact tmod_in (by omega) (by omega)
 rw[if_neg h0]
 have h1:=okB_at hb (k.tmod bs.length).toNat
 have h2:=okB_at hb ((k+1).tmod bs.length).toNat
 have h3:=tdiv_le (k:=k) (L:=bs.length) hk (by omega)
 by_cases h4:200<n
 ·rw[if_pos h4];exact tmod_in (by omega) (by omega)
 ·rw[if_neg h4];exact tmod_in (by omega) (by omega)
abbrev nextM (bs:List Int)(k n:Int):Int:=nextN bs (k+1 - 1) n
theorem nextM_in {bs:List Int}{k n:Int}(hb:okB bs)(hk:0≤k)(hn:1≤n):0≤nextM bs k n∧nextM bs k n<n:=nextN_in hb (by omega) hn
theorem l1Next_fn (bs:List Int)(k n:Int)(hb:okB bs)(hk:0≤k∧k≤1000000000000):FunQ env.P 39 [.lp 0 0,.d (dI n)] [srcO bs k] (just (.d (dI (nextM bs k n))) [srcO bs (k+1)]):=by
 have hl:=hb.1
 have ek:k+1 - 1=k:=by omega
 unfold nextM nextN
 by_cases hn:n<1
 ·rw[if_pos hn]
  refine FunQ.intro Tryz.func39 rfl (by kernel_rfl) rfl ?_
  repeat'(first|refine Z1 ?_|((refine SP (fun h=>?_) fun h=>?_)<;>(try(exfalso;first|contradiction|omega))))
  all_goals first|(exfalso;omega)|skip
  refine W.ret ?_
  exact RetR.own (ob':=[srcO bs (k+1)]) ⟨[0],[0],1⟩ (.inl rfl) rfl rO rfl rfl rfl rfl rfl rfl ⟨rfl,trivial⟩ rfl ⟨rfl,rfl⟩
 rw[if_neg hn]
 by_cases h0:(bs.length:Int)=0
 ·rw[if_pos h0]
  refine FunQ.intro Tryz.func39 rfl (by kernel_rfl) rfl ?_
  repeat'(first|refine Z1 ?_|((refine SP (fun h=>?_) fun h=>?_)<;>(try(exfalso;first|contradiction|omega))))
  all_goals first|(exfalso;omega)|skip
  refine W.ret ?_
  exact RetR.own (ob':=[srcO bs (k+1)]) ⟨[0],[0],1⟩ (.inl rfl) rfl rO rfl rfl rfl rfl rfl rfl ⟨rfl,trivial⟩ rfl ⟨rfl,rfl⟩
 rw[if_neg h0]
 have h1:=okB_at hb ((k+1 - 1).tmod bs.length).toNat
 have h2:=okB_at hb ((k+1 - 1+1).tmod bs.length).toNat
 have h3:=tdiv_le (k:=k+1 - 1) (L:=bs.length) (by omega) (by omega)
 have h4:=tmod_in (k:=k+1 - 1) (L:=bs.length) (by omega) (by omega)
 have h5:=tmod_in (k:=k+1 - 1+1) (L:=bs.length) (by omega) (by omega)
 by_cases h6:200<n
 ·rw[if_pos h6]
  refine FunQ.intro Tryz.func39 rfl (by kernel_rfl) rfl ?_
  repeat'(first|(refine W.dre' (id:=10) [] (fun f=>[srcO bs (k+1)]) [(0,[0]),(0,[0]),(0,[0]),(0,[0]),(0,[0]),(0,[0]),(0,[0]),(0,[0]),(0,[0]),(0,[0]),(0,[0]),(0,[0]),(0,[0]),(0,[0]),(0,[0]),(0,[0]),(0,[0]),(0,[0])] [srcO bs (k+1)] ?_)|refine Z1 ?_|refine Z2 ?_|fail|((refine SP (fun h=>?_) fun h=>?_)<;>(try(exfalso;first|contradiction|omega))))
  all_goals first|(exfalso;omega)|skip
  simp only[List.length_map]
  refine W.ret ?_
  exact RetR.own (ob':=[srcO bs (k+1)]) ⟨[0],[0],1⟩ (.inl rfl) rfl rO rfl rfl rfl rfl rfl rfl ⟨rfl,trivial⟩ rfl ⟨rfl,rfl⟩
 ·rw[if_neg h6]
  refine FunQ.intro Tryz.func39 rfl (by kernel_rfl) rfl ?_
  repeat'(first|refine Z1 ?_|((refine SP (fun h=>?_) fun h=>?_)<;>(try(exfalso;first|contradiction|omega))))
  all_goals first|(exfalso;omega)|skip
  simp only[List.length_map]
  refine W.ret ?_
  exact RetR.own (ob':=[srcO bs (k+1)]) ⟨[0],[0],1⟩ (.inl rfl) rfl rO rfl rfl rfl rfl rfl rfl ⟨rfl,trivial⟩ rfl ⟨rfl,rfl⟩
theorem l1Pick_fn (bs:List Int)(k:Int)(l:List Int)(hb:okB bs)(hk:0≤k∧k≤1000000000000)(hl:1≤l.length∧l.length≤100):
 FunQ env.P 40 [.lp 0 0,.d (.sl 1 (l.map intRow))] [srcO bs k] (just (.d (dI (l.getD (nextM bs k (l.map intRow).length).toNat default))) [srcO bs (k+1)]):=by
 have h:=l1Next_fn bs k (l.map intRow).length hb hk
 have h1:=nextM_in (n:=(l.map intRow).length) hb hk.1 (by simp;omega)
 have hlm:(l.map intRow).length=l.length:=by simp
 refine FunQ.intro Tryz.func40 rfl (by kernel_rfl) rfl ?_
 generalize nextM bs k (l.map intRow).length=r at h h1
 repeat'(first|refine Z1 ?_|refine WG.cq (E:=env) (t':=.d (dI r)) (ob2:=[srcO bs (k+1)]) [0] [0] false rfl rfl h rfl rfl rfl rfl rfl rfl rfl ⟨rfl,trivial⟩ (.inl rfl) rfl (fun h=>nomatch h) rfl rfl ?_|fail)
 refine W.ret ?_
 exact RetR.own (ob':=[srcO bs (k+1)]) ⟨[0],[0],1⟩ (.inl rfl) rfl rO rfl rfl rfl rfl rfl rfl ⟨rfl,trivial⟩ rfl ⟨rfl,rfl⟩
def keysD :List ByteArray:=[⟨#[97]⟩,⟨#[98]⟩,⟨#[99]⟩,⟨#[105,100]⟩]
theorem small_at {l:List ByteArray}(h: ∀x∈l,x.size≤100)(i:Nat):(l.getD i default).size≤100:=by
 by_cases hi:i<l.length
 ·exact h _ (getD_mem' hi)
 ·rw[List.getD_eq_getElem?_getD,List.getElem?_eq_none (by omega)]
  exact Nat.zero_le _
theorem l1Key_fn (bs:List Int)(k:Int)(hb:okB bs)(hk:0≤k∧k≤1000000000000):
 FunQ env.P 153 [.lp 0 0] [srcO bs k] (just (.d (dS (keysD.getD (nextM bs k 4).toNat default))) [srcO bs (k+1)]):=by
 have h:=l1Next_fn bs k 4 hb hk
 have h1:=nextM_in (n:=4) hb hk.1 (by omega)
 refine FunQ.intro Tryz.func153 rfl (by kernel_rfl) rfl ?_
 generalize nextM bs k 4=r at h h1
 repeat'(first|refine WG.bsD (E:=env) (rows:=keysD.map fun x=>[dS x]) ?_|refine Z1 ?_|refine WG.cq (E:=env) (t':=.d (dI r)) (ob2:=[srcO bs (k+1)]) [0] [0] false rfl rfl h rfl rfl rfl rfl rfl rfl rfl ⟨rfl,trivial⟩ (.inl rfl) rfl (fun h=>nomatch h) rfl rfl ?_|fail)
 refine W.ret ?_
 exact RetR.own (ob':=[srcO bs (k+1)]) ⟨[0],[0],1⟩ (.inl rfl) rfl rO rfl rfl rfl rfl rfl rfl ⟨rfl,trivial⟩ rfl ⟨rfl,rfl⟩
theorem l1Source_fn (bs:List Int):Fun env.P 15 [bytD bs] (.lp 0 0) [srcO bs 0]:=by
 refine Fun.intro Tryz.func15 rfl (by kernel_rfl) rfl ?_
 repeat'(first|refine Z1 ?_)
 refine W.ret ?_
 exact RetR.own (ob':=[srcO bs 0]) ⟨[0],[0],1⟩ (.inl rfl) rfl rO rfl rfl rfl rfl rfl rfl ⟨rfl,trivial⟩ rfl ⟨rfl,rfl⟩
abbrev prP (i v:Nat):Ob:=.pv [.d (.nl 4),.d (dI 0),.og i v,.d (dI 0),.d (dI 0),.d (dI 0),.d (dI 0),.d (dI 0),.d (dI 0)]
abbrev prG (N:List Nd)(v:Nat):Ob:=.gr 6 51 (N.map Nd.row) v false
abbrev puO (N:List Nd)(v:Nat):List Ob:=[prP 1 v,prG N v]
abbrev grO (bs:List Int)(k:Int)(N:List Nd)(v:Nat):List Ob:=[srcO bs k,prP 2 v,prG N v]
def Ext (N N':List Nd)(w:Nat):Prop:=N'.length=N.length+w∧ ∀n∈N',n∈N∨n.text.size≤100
theorem Ext.refl (N:List Nd):Ext N N 0:=⟨rfl,fun n h=>.inl h⟩
theorem Ext.put {N N':List Nd}{w:Nat}(h:Ext N N' w){n:Nd}(hn:n.text.size≤100):Ext N (N'++[n]) (w+1):=by
 refine⟨by rw[List.length_append,List.length_singleton,h.1];omega,fun x hx=>?_⟩
 rcases List.mem_append.1 hx with hx|hx
 ·exact h.2 x hx
 ·rw[List.mem_singleton.1 hx];exact .inr hn
theorem Ext.trans {N N' N2:List Nd}{w w2:Nat}(h:Ext N N' w)(h2:Ext N' N2 w2):Ext N N2 (w+w2):=by
 refine⟨by rw[h2.1,h.1];omega,fun x hx=>?_⟩
 rcases h2.2 x hx with hx|hx
 ·exact h.2 x hx
 ·exact .inr hx
theorem l5Put_fn (N:List Nd)(op a b c num:Int)(text:ByteArray)(hl:N.length≤100000):FunQ env.P 152 [.lp 0 0,.d (.agg [dI op,dI a,dI b,dI c,dI num,dS text])] (puO N 0) (just (.d (dI (((N.map Nd.row++[[dI op,dI a,dI b,dI c,dI num,dS text]]).length:Int) - 1))) (puO (N++[⟨op,a,b,c,num,text⟩]) 1)):=by
 have hr:(N++[⟨op,a,b,c,num,text⟩]:List Nd).map Nd.row=N.map Nd.row++[[dI op,dI a,dI b,dI c,dI num,dS text]]:=by simp[Nd.row]
 have hl2:(N.map Nd.row++[[dI op,dI a,dI b,dI c,dI num,dS text]]).length=N.length+1:=by simp
 have hlm:(N.map Nd.row).length=N.length:=by simp
 refine FunQ.intro Tryz.func152 rfl (by kernel_rfl) rfl ?_
 unfold Go.Proofs.YtmmjbpgdkokjgaaGreatDoor.puO Go.Proofs.YtmmjbpgdkokjgaaGreatDoor.prG
 rw[hr]
 generalize N.map Nd.row=R at*
 repeat'(first|refine W.dre' (id:=1) [7,10] (fun f=>bif bt f 2 then [prP 1 1,.gr 6 51 (R++[[dI op,dI a,dI b,dI c,dI num,dS text]]) 1 false,.pv [.d (dI op),.d (dI a),.d (dI b),.d (dI c),.d (dI num),.d (dS text)]] else bif bt f 1 then [prP 1 0,.gr 6 51 (R++[[dI op,dI a,dI b,dI c,dI num,dS text]]) 1 false,.pv [.d (dI op),.d (dI a),.d (dI b),.d (dI c),.d (dI num),.d (dS text)]] else [prP 1 0,.gr 6 51 R 0 false,.pv [.d (dI op),.d (dI a),.d (dI b),.d (dI c),.d (dI num),.d (dS text)]]) [(0,[0,1]),(0,[0]),(0,[0]),(0,[0]),(0,[0]),(0,[0]),(0,[0]),(1,[0]),(0,[1]),(0,[1]),(2,[1])] [prP 1 1,.gr 6 51 (R++[[dI op,dI a,dI b,dI c,dI num,dS text]]) 1 false,.pv [.d (dI op),.d (dI a),.d (dI b),.d (dI c),.d (dI num),.d (dS text)]] ?_|refine Z2 ?_|refine Z1 ?_|fail)
 refine W.ret ?_
 exact RetR.own (ob':=[prP 1 1,.gr 6 51 (R++[[dI op,dI a,dI b,dI c,dI num,dS text]]) 1 false]) ⟨[0,1],[0,0],3⟩ (.inl rfl) rfl rO rfl rfl rfl rfl rfl rfl ⟨rfl,rfl,trivial⟩ rfl ⟨rfl,rfl⟩
def rowI :List D→Int
 |[.v (.int _ x)]=>x
 |_=>0
section
variable {N:Nm}{Q:Exit→St→Prop}{tm:Nat→T}{R:List Ob}{ops l:List Oper}{ty:TypeId}{pos:String}{after:Array Edge}{gd:Option (Nat×Bool)}{d:Nat}{G:List Nat}{bs:List Int}{k n:Int}{xs:List Operand}{tys:List TypeId}
theorem WG.nx (hb:okB bs)(hk:0≤k∧k≤1000000000000)(hn:1≤n)
 (hw:St.want ⟨tm,srcO bs k::R⟩ ops ⟨some d,.call ⟨.value (.func 39),xs.toArray,tys.toArray⟩,ty,pos,after,gd⟩=some true) (hd:Nat.blt d N.n=true)
 (ha:argsT env ⟨tm,srcO bs k::R⟩ false xs tys++[]=[.lp 0 0,.d (dI n)])
 (kk: ∀v:Int,0≤v∧v<n→WG G env.P N ops l Q ⟨upd tm d (.d (dI v)),srcO bs (k+1)::R⟩):
 WG G env.P N ops (⟨some d,.call ⟨.value (.func 39),xs.toArray,tys.toArray⟩,ty,pos,after,gd⟩::l) Q ⟨tm,srcO bs k::R⟩:=
 WG.cq (E:=env) (K:=R.length+1) (t':=.d (dI (nextM bs k n))) (ob2:=srcO bs (k+1)::R) [0] [0] false hw hd (l1Next_fn bs k n hb hk) rfl (by simp) (by rw[ha];rfl) rfl rfl rfl rfl ⟨rfl,trivial⟩ (.inl rfl) rfl (fun h=>nomatch h) rfl (by simp[mergeO,renFrom,Ob.ren,T.renL,T.ren,Rn.ix,Rn.of]) (kk _ (nextM_in hb hk.1 hn))
theorem WG.pk (hb:okB bs)(hk:0≤k∧k≤1000000000000){rows:List (List D)}(hr:rows=(rows.map rowI).map intRow)(hl:Nat.ble 1 rows.length=true∧Nat.ble rows.length 100=true)
 (hw:St.want ⟨tm,srcO bs k::R⟩ ops ⟨some d,.call ⟨.value (.func 40),xs.toArray,tys.toArray⟩,ty,pos,after,gd⟩=some true) (hd:Nat.blt d N.n=true)
 (ha:argsT env ⟨tm,srcO bs k::R⟩ false xs tys++[]=[.lp 0 0,.d (.sl 1 rows)])
 (kk: ∀v:Int,v∈rows.map rowI→WG G env.P N ops l Q ⟨upd tm d (.d (dI v)),srcO bs (k+1)::R⟩):
 WG G env.P N ops (⟨some d,.call ⟨.value (.func 40),xs.toArray,tys.toArray⟩,ty,pos,after,gd⟩::l) Q ⟨tm,srcO bs k::R⟩:=by
 have hl1:=Nat.le_of_ble_eq_true hl.1
 have hl2:=Nat.le_of_ble_eq_true hl.2
 have h:=l1Pick_fn bs k (rows.map rowI) hb hk (by simp;omega)
 have hin:=nextM_in (n:=(((rows.map rowI).map intRow).length:Int)) hb hk.1 (by simp;omega)
 have hm:(rows.map rowI).getD (nextM bs k ((rows.map rowI).map intRow).length).toNat default∈rows.map rowI:=getD_mem' (by simp only[List.length_map] at hin ⊢;omega)
 rw[←hr] at h hm
 exact WG.cq (E:=env) (K:=R.length+1) (t':=.d (dI _)) (ob2:=srcO bs (k+1)::R) [0] [0] false hw hd h rfl (by simp) (by rw[ha];rfl) rfl rfl rfl rfl ⟨rfl,trivial⟩ (.inl rfl) rfl (fun h=>nomatch h) rfl (by simp[mergeO,renFrom,Ob.ren,T.renL,T.ren,Rn.ix,Rn.of]) (kk _ hm)
theorem WG.ky (hb:okB bs)(hk:0≤k∧k≤1000000000000)
 (hw:St.want ⟨tm,srcO bs k::R⟩ ops ⟨some d,.call ⟨.value (.func 153),xs.toArray,tys.toArray⟩,ty,pos,after,gd⟩=some true) (hd:Nat.blt d N.n=true)
 (ha:argsT env ⟨tm,srcO bs k::R⟩ false xs tys++[]=[.lp 0 0])
 (kk: ∀v:ByteArray,v.size≤100→WG G env.P N ops l Q ⟨upd tm d (.d (dS v)),srcO bs (k+1)::R⟩):
 WG G env.P N ops (⟨some d,.call ⟨.value (.func 153),xs.toArray,tys.toArray⟩,ty,pos,after,gd⟩::l) Q ⟨tm,srcO bs k::R⟩:=
 WG.cq (E:=env) (K:=R.length+1) (t':=.d (dS _)) (ob2:=srcO bs (k+1)::R) [0] [0] false hw hd (l1Key_fn bs k hb hk) rfl (by simp) (by rw[ha];rfl) rfl rfl rfl rfl ⟨rfl,trivial⟩ (.inl rfl) rfl (fun h=>nomatch h) rfl (by simp[mergeO,renFrom,Ob.ren,T.renL,T.ren,Rn.ix,Rn.of]) (kk _ (small_at (by decide) _))
theorem WG.pu {L:List Nd}{w:Nat}{op a b c num:Int}{text:ByteArray}(hl:L.length≤100000)
 (hw:St.want ⟨tm,srcO bs k::prP 2 w::prG L w::R⟩ ops ⟨some d,.call ⟨.value (.func 152),xs.toArray,tys.toArray⟩,ty,pos,after,gd⟩=some true) (hd:Nat.blt d N.n=true)
 (ha:argsT env ⟨tm,srcO bs k::prP 2 w::prG L w::R⟩ false xs tys++[]=[.lp 1 0,.d (.agg [dI op,dI a,dI b,dI c,dI num,dS text])])
 (kk: ∀v:Int,WG G env.P N ops l Q ⟨upd tm d (.d (dI v)),srcO bs k::prP 2 (w+1)::prG (L++[⟨op,a,b,c,num,text⟩]) (w+1)::R⟩):
 WG G env.P N ops (⟨some d,.call ⟨.value (.func 152),xs.toArray,tys.toArray⟩,ty,pos,after,gd⟩::l) Q ⟨tm,srcO bs k::prP 2 w::prG L w::R⟩:=by
 refine WG.cq (E:=env) (K:=R.length+3) (t':=.d (dI _)) (ob2:=srcO bs k::prP 2 (w+1)::prG (L++[⟨op,a,b,c,num,text⟩]) (w+1)::R) [1,2] [0,w] false hw hd (l5Put_fn L op a b c num text hl) rfl (by simp) (by rw[ha];rfl) rfl rfl rfl (by simp[startL,Ob.start,Ob.renOK,T.lpOKL,T.lpOK,Rn.of]) ⟨rfl,rfl,trivial⟩ (.inl rfl) rfl (fun h=>nomatch h) rfl ?_ (kk _)
 simp[mergeO,renFrom,Ob.ren,T.renL,T.ren,Rn.ix,Rn.of]
def growR (bs:List Int)(k:Int)(L:List Nd)(B:Nat)(t:T)(ob:List Ob):Prop:= ∃(k' v:Int) (L':List Nd) (w:Nat),t=.d (dI v)∧ob=grO bs k' L' w∧Ext L L' w∧k≤k'∧k'≤k+8*(w:Int)∧1≤w∧w≤B
theorem WG.gw {L:List Nd}{w B:Nat}{f:FuncId}{dep:Int}{nm:D}(hc:FunQ env.P f [.lp 0 0,.lp 1 0,.d (dI dep),.d nm] (grO bs k L 0) (growR bs k L B))
 (hw:St.want ⟨tm,srcO bs k::prP 2 w::prG L w::R⟩ ops ⟨some d,.call ⟨.value (.func f),xs.toArray,tys.toArray⟩,ty,pos,after,gd⟩=some true) (hd:Nat.blt d N.n=true)
 (ha:argsT env ⟨tm,srcO bs k::prP 2 w::prG L w::R⟩ false xs tys++[]=[.lp 0 0,.lp 1 0,.d (dI dep),.d nm])
 (kk: ∀(k' v:Int) (L':List Nd) (w':Nat),Ext L L' w'→k≤k'∧k'≤k+8*(w':Int)→1≤w'∧w'≤B→L'.length=L.length+w'→WG G env.P N ops l Q ⟨upd tm d (.d (dI v)),srcO bs k'::prP 2 (w+w')::prG L' (w+w')::R⟩):
 WG G env.P N ops (⟨some d,.call ⟨.value (.func f),xs.toArray,tys.toArray⟩,ty,pos,after,gd⟩::l) Q ⟨tm,srcO bs k::prP 2 w::prG L w::R⟩:=by
 refine WG.cQ (E:=env) (K:=R.length+3) [0,1,2] [0,0,w] false hw hd hc rfl (by simp) (by rw[ha];rfl) rfl rfl rfl (by simp[startL,Ob.start,Ob.renOK,T.lpOKL,T.lpOK,Rn.of]) ⟨rfl,rfl,rfl,trivial⟩ (.inl rfl) (fun t ob ⟨_,_,_,_,_,e,_⟩=>⟨by subst e;rfl,fun h=>nomatch h⟩) ?_
 rintro _ _ ⟨k',v,L',w',rfl,rfl,h1,h2,h3,h4,h5⟩
 have:=kk k' v L' w' h1 ⟨h2,h3⟩ ⟨h4,h5⟩ h1.1
 have e:mergeO ⟨[0,1,2],[0,0,w],R.length+3⟩ 0 (srcO bs k::prP 2 w::prG L w::R) [0,1,2] (grO bs k' L' w')=srcO bs k'::prP 2 (w+w')::prG L' (w+w')::R:=by
  simp[mergeO,renFrom,Ob.ren,T.renL,T.ren,Rn.ix,Rn.of]
 rw[e]
 exact this
end
theorem RetR.gw {fn:Func}{e:Exit}{S:St}{ts:List T}{bs:List Int}{k k' v:Int}{L L':List Nd}{w B:Nat}{R:List Ob}(he:e=.ret∨e=.normal)(hts:resL S fn.results.toList=some ts)(hok:resOK env.P S fn.results.toList)
 (hn:norm S.ob (resT ts)=.d (dI v)) (hob:S.ob=srcO bs k'::prP 2 w::prG L' w::R) (hx:Ext L L' w) (hk:k≤k'∧k'≤k+8*(w:Int)) (hw:1≤w∧w≤B):RetR env.P fn 3 (growR bs k L B) e S:=by
 refine RetR.own (t:=.d (dI v)) (ob':=grO bs k' L' w) ⟨[0,1,2],[0,0,0],S.ob.length⟩ he hts hok hn rfl rfl rfl rfl ?_ ⟨?_,?_,?_,trivial⟩ rfl ⟨k',v,L',w,rfl,rfl,hx,hk.1,hk.2,hw.1,hw.2⟩
 ·simp[renOKL,Ob.renOK,Rn.of,T.lpOKL,T.lpOK]
 ·rw[hob];simp[Ob.ren,Rn.of,Rn.ix,T.renL,T.ren]
 ·rw[hob];simp[Ob.ren,Rn.of,Rn.ix,T.renL,T.ren]
 ·rw[hob];simp[Ob.ren,Rn.of,Rn.ix,T.renL,T.ren]
def namesXY :List ByteArray:=[⟨#[120]⟩,⟨#[121]⟩]
theorem l5Grow_step (bs:List Int)(hb:okB bs)(g:Nat)(dep k:Int)(L:List Nd)(vars:List ByteArray)(h0:0≤dep∧dep≤100)(hk:0≤k∧k+8*(3*(g:Int)+2)≤100000000000)(hL:L.length+(3*g+2)≤100000)(hv:vars.length≤100)(hvs: ∀x∈vars,x.size≤100)
 (ih:0<dep→ ∀(dep' k':Int) (L':List Nd) (vars':List ByteArray),0≤dep'→dep'≤dep - 1→0≤k'→k'+8*(g:Int)≤100000000000→L'.length+g≤100000→vars'.length≤vars.length+1→(∀x∈vars',x.size≤100)→
   FunQ env.P 100 [.lp 0 0,.lp 1 0,.d (dI dep'),.d (namesD vars')] (grO bs k' L' 0) (growR bs k' L' g)):
 FunQ env.P 100 [.lp 0 0,.lp 1 0,.d (dI dep),.d (namesD vars)] (grO bs k L 0) (growR bs k L (3*g+2)):=by
 have hvm:(vars.map txtRow).length=vars.length:=by simp
 have hcm:(callsL.map txtRow).length=8:=rfl
 have hcl:callsL.length=8:=rfl
 have hom:(onesL.map txtRow).length=3:=rfl
 have hol:onesL.length=3:=rfl
 have ih1:0<dep→ ∀(dep' k':Int) (L':List Nd),0≤dep'→dep'≤dep - 1→0≤k'→k'+8*(g:Int)≤100000000000→L'.length+g≤100000→
  FunQ env.P 100 [.lp 0 0,.lp 1 0,.d (dI dep'),.d (namesD vars)] (grO bs k' L' 0) (growR bs k' L' g):=fun h dep' k' L' q1 q2 q3 q4 q5=>ih h dep' k' L' vars q1 q2 q3 q4 q5 (by omega) hvs
 have ih2:0<dep→ ∀(dep' k':Int) (L':List Nd) (nm:ByteArray),0≤dep'→dep'≤dep - 1→0≤k'→k'+8*(g:Int)≤100000000000→L'.length+g≤100000→nm.size≤100→
  FunQ env.P 100 [.lp 0 0,.lp 1 0,.d (dI dep'),.d (.sl 1 (vars.map txtRow++[[dS nm]]))] (grO bs k' L' 0) (growR bs k' L' g):=fun h dep' k' L' nm q1 q2 q3 q4 q5 q6=>by
  have:=ih h dep' k' L' (vars++[nm]) q1 q2 q3 q4 q5 (by simp) (fun x hx=>by
   rcases List.mem_append.1 hx with hx|hx
   ·exact hvs x hx
   ·rw[List.mem_singleton.1 hx];exact q6)
  rwa [show namesD (vars++[nm])=.sl 1 (vars.map txtRow++[[dS nm]]) by simp[namesD]] at this
 clear ih
 have hc:=callsS_fn
 have ho:=onesS_fn
 refine FunQ.intro Tryz.func100 rfl (by kernel_rfl) rfl ?_
 repeat'(first|refine WG.bsD (E:=env) (rows:=namesXY.map fun x=>[dS x]) ?_|refine Z1 ?_|(refine WG.nx hb ⟨by omega,by omega⟩ (by omega) rfl rfl rfl ?_;rintro v hv)|(refine WG.ky hb ⟨by omega,by omega⟩ rfl rfl rfl ?_;rintro v hv)|(refine WG.pk hb ⟨by omega,by omega⟩ (by exact rfl) ⟨by exact rfl,by exact rfl⟩ rfl rfl rfl ?_;rintro v hv)|(refine WG.pu (by omega) rfl rfl rfl ?_;rintro v)|(refine WG.gw (ih1 (by omega) _ _ _ (by omega) (by omega) (by omega) (by omega) (by omega)) rfl rfl rfl ?_;rintro k' v L' w' hE hk' hw' hl')|(refine WG.gw (ih2 (by omega) _ _ _ _ (by omega) (by omega) (by omega) (by omega) (by omega) (small_at (l:=namesXY) (by decide) _)) rfl rfl rfl ?_;rintro k' v L' w' hE hk' hw' hl')|refine WG.pubD 3 rfl ?_|refine WG.pubD 4 rfl ?_|refine WG.c (E:=env) rfl rfl (hc) rfl rfl ?_|refine WG.c (E:=env) rfl rfl (ho) rfl rfl ?_|((refine SP (fun h=>?_) fun h=>?_)<;>(try(exfalso;first|contradiction|omega))))
 all_goals first|(exfalso;omega)|skip
 all_goals try (refine W.ret ?_;exact RetR.gw (.inl rfl) rfl rO rfl rfl (by repeat(first|exact Ext.refl _|refine Ext.put ?_ (by first|assumption|exact Nat.zero_le _|exact small_at (by decide) _|exact small_at hvs _)|refine Ext.trans ?_ (show Ext _ _ _ by assumption))) ⟨by omega,by omega⟩ ⟨by omega,by omega⟩)
 ·rename_i a0
  refine W.loopI (fun m S=> ∃(q k' a:Int) (L':List Nd) (w:Nat),m=q.toNat∧((0≤q∧q≤2)∧Ext L L' w∧L'.length=L.length+w∧1≤w∧(k≤k'∧k'≤k+8*(w:Int))∧w≤2*g+3∧(1≤q→w≤g+2)∧(2≤q→w≤1)∧(w≤1∨1≤g))∧S=⟨ofL [(0,.lp 0 0),(1,.lp 1 0),(2,vI .i64 dep),(3,.d (namesD vars)),(14,vI .i64 a),(15,vI .i64 q)],[srcO bs k',prP 2 w,prG L' w]⟩) _ _ ⟨1+v,k+1+1,a0,L++[⟨16,0,0,0,0,ByteArray.empty⟩],0+1,rfl,⟨⟨by omega,by omega⟩,(by repeat(first|exact Ext.refl _|refine Ext.put ?_ (by first|assumption|exact Nat.zero_le _|exact small_at (by decide) _|exact small_at hvs _)|refine Ext.trans ?_ (show Ext _ _ _ by assumption))),by simp,by omega,⟨by omega,by omega⟩,by omega,fun _=>by omega,fun _=>by omega,.inl (by omega)⟩,rfl⟩ (St.imp.of_le lE) ?_
  rintro m S ⟨q,k',a,L',w,rfl,⟨⟨hq0,hq2⟩,hE,hll,hw1,⟨hk1,hk2⟩,hw2,hw3,hw4,hg⟩,rfl⟩
  by_cases hq:0<q
  ·have hw3:=hw3 (by omega)
   repeat'(first|refine Z1 ?_|(refine WG.ky hb ⟨by omega,by omega⟩ rfl rfl rfl ?_;rintro v hv)|(refine WG.pu (by omega) rfl rfl rfl ?_;rintro v)|(refine WG.gw (ih1 (by omega) _ _ _ (by omega) (by omega) (by omega) (by omega) (by omega)) rfl rfl rfl ?_;rintro k' v L' w' hE hk' hw' hl')|fail|((refine SP (fun h=>?_) fun h=>?_)<;>(try(exfalso;first|contradiction|omega))))
   all_goals first|(exfalso;omega)|skip
   rename_i b0 t0
   have hE2:=Ext.put (Ext.trans (by assumption) hE) (n:=⟨17,a,b0,0,0,t0⟩) hv
   exact⟨_,_,by omega,⟨q - 1,k'+1,v,L'++[⟨17,a,b0,0,0,t0⟩],w+w'+1,rfl,⟨⟨by omega,by omega⟩,hE2,by rw[List.length_append,List.length_singleton];omega,by omega,⟨by omega,by omega⟩,by omega,fun _=>by omega,fun _=>by omega,.inr (by omega)⟩,rfl⟩,(St.imp.of_le lE)⟩
  ·repeat'(first|refine Z1 ?_|((refine SP (fun h=>?_) fun h=>?_)<;>(try(exfalso;first|contradiction|omega))))
   all_goals first|(exfalso;omega)|skip
   refine W.ret ?_
   exact RetR.gw (.inl rfl) rfl rO rfl rfl hE ⟨by omega,by omega⟩ ⟨by omega,by omega⟩
def gB :Nat→Nat
 |0=>2
 |f+1=>3*gB f+2
theorem l5Grow_fn (bs:List Int)(hb:okB bs): ∀(f:Nat) (dep k:Int) (L:List Nd) (vars:List ByteArray),(0≤dep∧dep≤f)→(0≤k∧k+8*(gB f:Int)≤100000000000)→L.length+gB f≤100000→vars.length+f≤100→(∀x∈vars,x.size≤100)→
 FunQ env.P 100 [.lp 0 0,.lp 1 0,.d (dI dep),.d (namesD vars)] (grO bs k L 0) (growR bs k L (gB f))
 |0,dep,k,L,vars,h0,hk,hL,hv,hvs=>l5Grow_step bs hb 0 dep k L vars ⟨h0.1,by omega⟩ ⟨hk.1,by have:=hk.2;simp[gB] at this;omega⟩ (by simpa [gB] using hL) (by omega) hvs (fun h=>by omega)
 |f+1,dep,k,L,vars,h0,hk,hL,hv,hvs=>l5Grow_step bs hb (gB f) dep k L vars ⟨h0.1,by omega⟩ ⟨hk.1,by have:=hk.2;simp only[gB] at this;omega⟩ hL (by omega) hvs (fun h dep' k' L' vars' q1 q2 q3 q4 q5 q6 q7=>l5Grow_fn bs hb f dep' k' L' vars' ⟨q1,by omega⟩ ⟨q3,q4⟩ q5 (by omega) q7)
def treeR (bs:List Int)(k:Int)(t:T)(ob:List Ob):Prop:= ∃(k':Int) (L:List Nd),t=.og 1 0∧ob=[srcO bs k',.gr 6 51 (L.map Nd.row) 0 false]∧k≤k'∧k'≤k+10000∧1≤L.length∧L.length≤300∧ ∀n∈L,n.text.size≤100
theorem l5Tree_fn (bs:List Int)(hb:okB bs)(dep k:Int)(h:0≤dep∧dep≤4)(hk:0≤k∧k≤10000000000):FunQ env.P 38 [.lp 0 0,.d (dI dep)] [srcO bs k] (treeR bs k):=by
 have e4:gB 4=242:=rfl
 have hg:=l5Grow_fn bs hb 4 dep k [] [] h ⟨hk.1,by rw[e4];omega⟩ (by rw[e4];simp) (by simp) (fun x hx=>by cases hx)
 rw[e4] at hg
 refine FunQ.intro Tryz.func38 rfl (by kernel_rfl) rfl ?_
 repeat'(first|refine W.stopAt 2 ?_|refine Z1 ?_|fail|((refine SP (fun h=>?_) fun h=>?_)<;>(try(exfalso;first|contradiction|omega))))
 refine⟨?_⟩
 refine W.adoptPv 1 2 51 rfl rfl ?_
 repeat'(first|refine W.stopAt 3 ?_|refine Z1 ?_|(refine WG.gw hg rfl rfl rfl ?_;rintro k' v L' w hE hk' hw hl')|fail|((refine SP (fun h=>?_) fun h=>?_)<;>(try(exfalso;first|contradiction|omega))))
 refine⟨?_⟩
 have hll:(L'.map Nd.row).length=L'.length:=by simp
 have hl0:L'.length=w:=by simpa using hl'
 have hts: ∀n∈L',n.text.size≤100:=fun n hn=>by
  rcases hE.2 n hn with h|h
  ·cases h
  ·exact h
 refine W.imp ((St.imp.rev 2 (0+w) rfl).trans (St.imp.of_le (S':=⟨ofL [(5,.lp 1 0)],[srcO bs k',prP 2 0,prG L' 0]⟩) (le_ofL rfl (by simp[revObs,Ob.rev,T.revL,T.rev,obsLe];repeat'(first|rfl|trivial|constructor)) (by(repeat(first|exact trivial|refine⟨⟨rfl,rfl⟩,?_⟩|refine⟨rfl,.inl rfl,?_⟩|refine⟨rfl,.inr rfl,?_⟩)))))) ?_
 repeat'(first|refine Z1 ?_|((refine SP (fun h=>?_) fun h=>?_)<;>(try(exfalso;first|contradiction|omega))))
 all_goals first|(exfalso;omega)|skip
 ·refine W.ret ?_
  exact RetR.own (t:=.og 1 0) (ob':=[srcO bs k',.gr 6 51 (([⟨1,0,0,0,0,ByteArray.empty⟩]:List Nd).map Nd.row) 0 false]) ⟨[0,3],[0,0],4⟩ (.inl rfl) rfl rO rfl rfl rfl rfl rfl rfl ⟨rfl,rfl,trivial⟩ rfl ⟨k',_,rfl,rfl,by omega,by omega,by simp,by simp,fun n hn=>by rw[List.mem_singleton.1 hn];exact Nat.zero_le _⟩
 ·refine W.ret ?_
  exact RetR.own (t:=.og 1 0) (ob':=[srcO bs k',.gr 6 51 (L'.map Nd.row) 0 false]) ⟨[0,2],[0,0],3⟩ (.inl rfl) rfl rO rfl rfl rfl rfl rfl rfl ⟨rfl,rfl,trivial⟩ rfl ⟨k',L',rfl,rfl,by omega,by omega,by omega,by omega,hts⟩
def bentR (bs:List Int)(t:T)(ob:List Ob):Prop:= ∃(k':Int) (ns:List Nd),t=.d (nodesD ns)∧ob=[srcO bs k']∧ns.length≤301∧ ∀n∈ns,n.text.size≤100
theorem RetR.bent {fn:Func}{e:Exit}{S:St}{ts:List T}{bs:List Int}{k':Int}{rows:List (List D)}{R:List Ob}(he:e=.ret∨e=.normal)(hts:resL S fn.results.toList=some ts)(hok:resOK env.P S fn.results.toList)
 (hn:norm S.ob (resT ts)=.d (.sl 6 rows)) (hob:S.ob=srcO bs k'::R) (hns: ∃ns:List Nd,rows=ns.map Nd.row∧ns.length≤301∧ ∀n∈ns,n.text.size≤100):RetR env.P fn 1 (bentR bs) e S:=by
 obtain⟨ns,rfl,h1,h2⟩:=hns
 refine RetR.own (t:=.d (nodesD ns)) (ob':=[srcO bs k']) ⟨[0],[0],S.ob.length⟩ he hts hok hn rfl rfl rfl rfl ?_ ⟨?_,trivial⟩ rfl ⟨k',ns,rfl,rfl,h1,h2⟩
 ·simp[renOKL,Ob.renOK,Rn.of,T.lpOKL,T.lpOK]
 ·rw[hob];simp[Ob.ren,Rn.of,Rn.ix,T.renL,T.ren]
abbrev okN (rows:List (List D)):Prop:= ∃ns:List Nd,rows=ns.map Nd.row∧ns.length≤301∧ ∀n∈ns,n.text.size≤100
theorem okN_set {L:List Nd}(h:L.length≤300)(ht: ∀n∈L,n.text.size≤100)(i:Nat)(y:Nd)(hy:y.text.size≤100):okN ((L.map Nd.row).set i y.row):=
 ⟨L.set i y,by rw[List.map_set],by rw[List.length_set];omega,fun n hn=>(List.mem_or_eq_of_mem_set hn).elim (ht n) fun e=>by rw[e];exact hy⟩
theorem getD_small {L:List Nd}(ht: ∀n∈L,n.text.size≤100)(i:Nat):(L.getD i default).text.size≤100:=by
 by_cases hi:i<L.length
 ·exact ht _ (getD_mem' hi)
 ·rw[List.getD_eq_getElem?_getD,List.getElem?_eq_none (by omega)]
  exact Nat.zero_le _
theorem okN_0 {L:List Nd}(h:L.length≤300)(ht: ∀n∈L,n.text.size≤100)(i:Nat)(u:Int):okN ((L.map Nd.row).set i ((L.getD i default).row.set 0 (dI u))):=okN_set h ht i ⟨u,(L.getD i default).a,(L.getD i default).b,(L.getD i default).c,(L.getD i default).num,(L.getD i default).text⟩ (getD_small ht i)
theorem okN_1 {L:List Nd}(h:L.length≤300)(ht: ∀n∈L,n.text.size≤100)(i:Nat)(u:Int):okN ((L.map Nd.row).set i ((L.getD i default).row.set 1 (dI u))):=okN_set h ht i ⟨(L.getD i default).op,u,(L.getD i default).b,(L.getD i default).c,(L.getD i default).num,(L.getD i default).text⟩ (getD_small ht i)
theorem okN_2 {L:List Nd}(h:L.length≤300)(ht: ∀n∈L,n.text.size≤100)(i:Nat)(u:Int):okN ((L.map Nd.row).set i ((L.getD i default).row.set 2 (dI u))):=okN_set h ht i ⟨(L.getD i default).op,(L.getD i default).a,u,(L.getD i default).c,(L.getD i default).num,(L.getD i default).text⟩ (getD_small ht i)
theorem okN_3 {L:List Nd}(h:L.length≤300)(ht: ∀n∈L,n.text.size≤100)(i:Nat)(u:Int):okN ((L.map Nd.row).set i ((L.getD i default).row.set 3 (dI u))):=okN_set h ht i ⟨(L.getD i default).op,(L.getD i default).a,(L.getD i default).b,u,(L.getD i default).num,(L.getD i default).text⟩ (getD_small ht i)
theorem okN_4 {L:List Nd}(h:L.length≤300)(ht: ∀n∈L,n.text.size≤100)(i:Nat)(u:Int):okN ((L.map Nd.row).set i ((L.getD i default).row.set 4 (dI u))):=okN_set h ht i ⟨(L.getD i default).op,(L.getD i default).a,(L.getD i default).b,(L.getD i default).c,u,(L.getD i default).text⟩ (getD_small ht i)
theorem okN_5 {L:List Nd}(h:L.length≤300)(ht: ∀n∈L,n.text.size≤100)(i:Nat)(t:ByteArray)(hs:t.size≤100):okN ((L.map Nd.row).set i ((L.getD i default).row.set 5 (dS t))):=okN_set h ht i ⟨(L.getD i default).op,(L.getD i default).a,(L.getD i default).b,(L.getD i default).c,(L.getD i default).num,t⟩ hs
theorem okN_same {L:List Nd}(h:L.length≤300)(ht: ∀n∈L,n.text.size≤100):okN (L.map Nd.row):=⟨L,rfl,by omega,ht⟩
theorem okN_app {L:List Nd}(h:L.length≤300)(ht: ∀n∈L,n.text.size≤100):okN (L.map Nd.row++[[dI 1,dI 0,dI 0,dI 0,dI 0,dS ByteArray.empty]]):=⟨L++[⟨1,0,0,0,0,ByteArray.empty⟩],by simp[Nd.row],by simp;omega,fun n hn=>(List.mem_append.1 hn).elim (ht n) fun e=>by rw[List.mem_singleton.1 e];exact Nat.zero_le _⟩
theorem nrowAt {L:List Nd}{i:Nat}(h:i<L.length):(L.map Nd.row)[i]? =some (L.getD i default).row:=by
 rw[List.getElem?_map,List.getElem?_eq_getElem h,List.getD_eq_getElem?_getD,List.getElem?_eq_getElem h];rfl
def bentW :List ByteArray:=[⟨#[]⟩,⟨#[105,102]⟩,⟨#[65]⟩,⟨#[122,122]⟩,⟨#[10]⟩]
theorem l5Bent_fn (bs:List Int)(hb:okB bs):FunQ env.P 14 [.lp 0 0] [srcO bs 0] (bentR bs):=by
 refine FunQ.intro Tryz.func14 rfl (by kernel_rfl) rfl ?_
 repeat'(first|refine WG.bsD (E:=env) (rows:=bentW.map fun x=>[dS x]) ?_|refine W.stopAt 15 ?_|refine W.stopAt 19 ?_|refine Z1 ?_|(refine WG.nx hb ⟨by omega,by omega⟩ (by omega) rfl rfl rfl ?_;rintro v hv)|(refine WG.pk hb ⟨by omega,by omega⟩ (by exact rfl) ⟨by exact rfl,by exact rfl⟩ rfl rfl rfl ?_;rintro u hu)|(refine WG.cQ (E:=env) [0] [0] false rfl rfl (l5Tree_fn bs hb _ _ ⟨by omega,by omega⟩ ⟨by omega,by omega⟩) rfl rfl rfl rfl rfl rfl rfl ⟨rfl,trivial⟩ (.inl rfl) (fun t ob ⟨_,_,e1,e2,_⟩=>⟨by subst e2;rfl,fun h=>nomatch h⟩) ?_;rintro _ _ ⟨k',L',rfl,rfl,hk1,hk2,hl1,hl2,hts⟩;have hll:(L'.map Nd.row).length=L'.length:=List.length_map _;refine(show WG _ _ _ _ _ _ ⟨upd _ _ (.og 1 0),[srcO bs k',.gr 6 51 (L'.map Nd.row) 0 false]⟩ from ?_))|refine WG.pubD 2 rfl ?_|refine WG.stE (E:=env) rfl rfl rfl rfl (nrowAt (by omega)) rfl rfl rfl rfl ?_|fail|((refine SP (fun h=>?_) fun h=>?_)<;>(try(exfalso;first|contradiction|omega))))
 all_goals first|(exfalso;omega)|skip
 all_goals try (refine W.pubD 1 rfl ?_;refine W.ret ?_;exact RetR.bent (.inl rfl) rfl rO rfl rfl (by first|exact okN_0 hl2 hts _ _|exact okN_1 hl2 hts _ _|exact okN_2 hl2 hts _ _|exact okN_3 hl2 hts _ _|exact okN_4 hl2 hts _ _|exact okN_5 hl2 hts _ _ (by decide)|exact okN_5 hl2 hts _ _ (small_at (l:=bentW) (by decide) _)|exact okN_app hl2 hts|exact okN_same hl2 hts))
 ·refine⟨?_⟩
  refine W.rg ?_
  refine WG.runN (E:=env) 2 ?_
  repeat'(first|refine WG.bsD (E:=env) (rows:=bentW.map fun x=>[dS x]) ?_|refine Z1 ?_|(refine WG.nx hb ⟨by omega,by omega⟩ (by omega) rfl rfl rfl ?_;rintro v hv)|refine WG.stE (E:=env) rfl rfl rfl rfl (nrowAt (by omega)) rfl rfl rfl rfl ?_|fail|((refine SP (fun h=>?_) fun h=>?_)<;>(try(exfalso;first|contradiction|omega))))
  all_goals first|(exfalso;omega)|skip
  refine W.pubD 1 rfl ?_
  refine W.ret ?_
  exact RetR.bent (.inl rfl) rfl rO rfl rfl (by first|exact okN_0 hl2 hts _ _|exact okN_1 hl2 hts _ _|exact okN_2 hl2 hts _ _|exact okN_3 hl2 hts _ _|exact okN_4 hl2 hts _ _|exact okN_5 hl2 hts _ _ (by decide)|exact okN_5 hl2 hts _ _ (small_at (l:=bentW) (by decide) _)|exact okN_app hl2 hts|exact okN_same hl2 hts)
 ·refine⟨?_⟩
  repeat'(first|refine Z1 ?_|(refine WG.pk hb ⟨by omega,by omega⟩ (by exact rfl) ⟨by exact rfl,by exact rfl⟩ rfl rfl rfl ?_;rintro u hu)|refine WG.pubD 2 rfl ?_|fail|((refine SP (fun h=>?_) fun h=>?_)<;>(try(exfalso;first|contradiction|omega))))
  have hu:u=0∨u=201:=by
   rcases List.mem_cons.1 hu with h|h
   ·exact .inl h
   ·exact .inr (List.mem_singleton.1 h)
  have hu2:okN (List.replicate u.toNat zeroNode):=⟨List.replicate u.toNat ⟨0,0,0,0,0,ByteArray.empty⟩,by rw[List.map_replicate];rfl,by rw[List.length_replicate];omega,fun n hn=>by rw[(List.mem_replicate.1 hn).2];exact Nat.zero_le _⟩
  refine WG.mk (E:=env) (z:=6) (zs:=zeroNode) rfl rfl rfl rfl rfl rfl rfl rfl rfl rfl rfl ?_ ?_
  ·refine⟨by omega,by omega,?_⟩
   show((56:Nat):Int)*_≤_
   simp;omega
  repeat'(first|refine Z1 ?_|((refine SP (fun h=>?_) fun h=>?_)<;>(try(exfalso;first|contradiction|omega))))
  refine W.pubD 3 rfl ?_
  refine W.ret ?_
  exact RetR.bent (.inl rfl) rfl rO rfl rfl hu2
 ·refine W.loopI (fun m S=> ∃(i:Nat) (kk:Int) (rv:List (List D)),m=32 - i∧(i≤31∧(0≤kk∧kk=k'+2+i)∧rv.length=i+1∧okN rv)∧S=⟨ofL [(0,.lp 0 0),(3,.og 2 0),(5,vI .i64 i)],[srcO bs kk,.gr 6 51 (L'.map Nd.row) 0 false,.gr 6 51 rv 0 false]⟩) _ _ ⟨0,k'+1+1,[[dI 1,dI 0,dI 0,dI 0,dI 0,dS ByteArray.empty]],rfl,⟨by omega,⟨by omega,by omega⟩,rfl,⟨[⟨1,0,0,0,0,ByteArray.empty⟩],rfl,by simp,fun n hn=>by rw[List.mem_singleton.1 hn];exact Nat.zero_le _⟩⟩,rfl⟩ (St.imp.of_le lE) ?_
  rintro m S ⟨i,kk,rv,rfl,⟨hi,⟨hk0,hkk⟩,hrl,ns,hns,hn1,hn2⟩,rfl⟩
  repeat'(first|refine Z1 ?_|(refine WG.nx hb ⟨by omega,by omega⟩ (by omega) rfl rfl rfl ?_;rintro v hv)|fail|((refine SP (fun h=>?_) fun h=>?_)<;>(try(exfalso;first|contradiction|omega))))
  all_goals first|(exfalso;omega)|skip
  ·refine⟨_,_,by omega,⟨i+1,kk+1,rv++[[dI 13,dI i,dI 0,dI 0,dI 0,dS ByteArray.empty]],rfl,⟨by omega,⟨by omega,by omega⟩,by rw[List.length_append,hrl];rfl,ns++[⟨13,i,0,0,0,ByteArray.empty⟩],by rw[hns];simp[Nd.row],by rw[hns,List.length_map] at hrl;rw[List.length_append,List.length_singleton];omega,fun n hn=>(List.mem_append.1 hn).elim (hn2 n) fun e=>by rw[List.mem_singleton.1 e];exact Nat.zero_le _⟩,rfl⟩,(St.imp.rev 2 1 rfl).trans (St.imp.of_le lE)⟩
  ·refine W.pubD 2 rfl ?_
   refine W.ret ?_
   exact RetR.bent (.inl rfl) rfl rO rfl rfl ⟨ns,hns,hn1,hn2⟩
def bentO (t:T)(ob:List Ob):Prop:= ∃ns:List Nd,t=.d (nodesD ns)∧ob=[]∧ns.length≤301∧ ∀n∈ns,n.text.size≤100
theorem DrawLowerTree_fn (bs:List Int)(hb:okB bs):FunQ env.P 5 [.d (bytD bs)] [] bentO:=by
 have h0:=l1Source_fn bs
 refine FunQ.intro Tryz.func5 rfl (by kernel_rfl) rfl ?_
 repeat'(first|refine Z1 ?_|(refine WG.cQ (E:=env) [0] [0] false rfl rfl (l5Bent_fn bs hb) rfl rfl rfl rfl rfl rfl rfl ⟨rfl,trivial⟩ (.inl rfl) (fun t ob ⟨k',x,e1,e2,_⟩=>⟨by subst e2;rfl,fun h=>nomatch h⟩) ?_;rintro _ _ ⟨kk2,ns,rfl,rfl,h1,h2⟩;refine(show WG _ _ _ _ _ _ ⟨upd _ _ (.d (nodesD ns)),[srcO bs kk2]⟩ from ?_))|refine WG.co (E:=env) rfl rfl (h0) rfl rfl rfl rfl ?_)
 refine W.ret ?_
 exact RetR.own (ob':=[]) ⟨[],[],1⟩ (.inl rfl) rfl rO rfl rfl rfl rfl rfl rfl trivial rfl ⟨ns,rfl,rfl,h1,h2⟩
theorem lwBigL_fn (bs:List Int):Fun env.P 4 [bytD bs] (.d (dB (decide (1048576<((bs.map fun b=>[dY b]).length:Int))))) []:=by
 refine Fun.intro Tryz.func4 rfl (by kernel_rfl) rfl ?_
 repeat'(first|refine Z1 ?_)
 (refine W.ret ?_;(first|refine RetQ.b' ?_))
 rfl
theorem lawLowers_fn (q:TypeId×(Nat×Nat))(bs:List Int)(hm:bs.length≤maxLen)(h8: ∀b∈bs,0≤b∧b≤255):FunQ env.P 3 [.d (bytD bs)] [tabO q] (just (.d (dB true)) [tabO q]):=by
 have hbig:=lwBigL_fn bs
 by_cases hl:1048576<bs.length
 ·refine FunQ.intro Tryz.func3 rfl (by kernel_rfl) rfl ?_
  repeat'(first|refine Z1 ?_|refine WG.c (E:=env) rfl rfl (hbig) rfl rfl ?_|refine WD.c (E:=env) rfl rfl (hbig) rfl rfl ?_|((refine SP (fun h=>?_) fun h=>?_)<;>(try(exfalso;first|contradiction|omega))))
  all_goals first|(exfalso;simp at *;omega)|skip
  all_goals (refine W.ret ?_;refine RetR.tb' ?_)
  all_goals rfl
 have hb:okB bs:=⟨by omega,h8⟩
 refine FunQ.intro Tryz.func3 rfl (by kernel_rfl) rfl ?_
 repeat'(first|refine W.stopAt 4 ?_|refine Z1 ?_|(refine WG.cQ (E:=env) [] [] false rfl rfl (DrawLowerTree_fn bs hb) rfl rfl rfl rfl rfl rfl rfl trivial (.inl rfl) (fun t ob ⟨a,e1,e2,_⟩=>⟨by subst e2;rfl,fun h=>nomatch h⟩) ?_;rintro _ _ ⟨ns,rfl,rfl,hn1,hn2⟩;refine(show WG _ _ _ _ _ _ ⟨upd _ _ (.d (nodesD ns)),[tabO q]⟩ from ?_))|refine WG.c (E:=env) rfl rfl (hbig) rfl rfl ?_|refine WD.c (E:=env) rfl rfl (hbig) rfl rfl ?_|((refine SP (fun h=>?_) fun h=>?_)<;>(try(exfalso;first|contradiction|omega))))
 all_goals first|(exfalso;simp at *;omega)|skip
 refine⟨?_⟩
 have hf:fitsT ns:=⟨fun n hn=>by have:=hn2 n hn;omega,by omega⟩
 have hi:=FunQ.fin (LowerTree_fn ns hf) (Fin.pubX3 rfl)
 have hs:=LowerTreeS_fn ns hf
 by_cases hc:lowC ns=0
 ·obtain⟨h0,hcnt⟩:scopeC ns=0∧¬900<(lowT ns).count:=by
   unfold lowC at hc
   split at hc
   ·rename_i h0
    split at hc
    ·exact absurd hc (by decide)
    ·rename_i h1;exact⟨h0,h1⟩
   ·rename_i h0;exact absurd hc h0
  have hR:lowR ns=(lowT ns).flat 0:=by unfold lowR;rw[if_pos ⟨h0,hcnt⟩]
  obtain⟨g1,g2,g3⟩:=lowers_ok h0 hcnt
  have hlen:=Pt.flat_length (lowT ns) 0
  have hpos:=Pt.count_pos (lowT ns)
  rw[hR] at hi hs
  rw[←hR] at g1 g2 g3 hlen hi hs
  have c1:=CoreFault_fn (lowR ns) g3.2 g3.1
  have c2:=ScopeFault_fn ns hf
  have c3:=SlotsOf_fn (lowR ns) g3
  have c4:=FunQ.pubA rfl (VarsOf_fn ns hf)
  have c5:=CoreText_fn q (lowR ns) g3
  have c6:=CoreTextS_fn (lowR ns) g3
  have hsm:slotsM (lowR ns)=maxK pS (lowR ns):=by unfold slotsM;rw[if_pos g1]
  rw[hsm] at c3
  rw[hc] at hi hs
  rw[g1] at c1 c3 c5 c6
  rw[h0] at c2
  have hkl:((lowR ns).map Co.row).length=(lowR ns).length:=by simp
  have hvl:((varsL ns).map keyRow).length=(varsL ns).length:=by simp
  have hK:0<(lowR ns).length:=by omega
  have hvs:(varsL ns).length≤1000:=by
   unfold varsL
   split
   ·have:=gI_len (varP ns) ns.length;omega
   ·simp
  generalize lowR ns=K at*
  generalize maxK pS K=sm at*
  generalize varsL ns=vs at*
  generalize coreR K=tx at*
  generalize lowV ns=lv at*
  generalize scopeV ns=sv at*
  generalize treeM ns=tm at*
  repeat'(first|refine Z1 ?_|refine WG.c (E:=env) rfl rfl (hi) rfl rfl ?_|refine WD.c (E:=env) rfl rfl (hi) rfl rfl ?_|refine WD.cq (E:=env) [0] [0] false rfl rfl (c5) rfl rfl rfl rfl rfl rfl rfl (by first|exact trivial|exact⟨rfl,trivial⟩|exact⟨rfl,rfl,trivial⟩) (.inl rfl) rfl (fun h=>nomatch h) rfl rfl ?_|refine WG.c (E:=env) rfl rfl (c1) rfl rfl ?_|refine WD.c (E:=env) rfl rfl (c1) rfl rfl ?_|refine WG.c (E:=env) rfl rfl (c2) rfl rfl ?_|refine WD.c (E:=env) rfl rfl (c2) rfl rfl ?_|refine WG.c (E:=env) rfl rfl (c3) rfl rfl ?_|refine WD.c (E:=env) rfl rfl (c3) rfl rfl ?_|refine WG.c (E:=env) rfl rfl (c4) rfl rfl ?_|refine WD.c (E:=env) rfl rfl (c4) rfl rfl ?_|refine WG.c (E:=env) rfl rfl (c6) rfl rfl ?_|refine WD.c (E:=env) rfl rfl (c6) rfl rfl ?_|((refine SP (fun h=>?_) fun h=>?_)<;>(try(exfalso;first|contradiction|omega))))
  all_goals first|(exfalso;omega)|skip
  all_goals (refine W.ret ?_;refine RetR.tb' ?_)
  all_goals first|rfl|exact congrArg dB (decide_eq_true rfl)
 ·generalize lowC ns=c at*
  generalize lowV ns=v at*
  generalize lowR ns=K at*
  repeat'(first|refine Z1 ?_|refine WG.c (E:=env) rfl rfl (hi) rfl rfl ?_|refine WD.c (E:=env) rfl rfl (hi) rfl rfl ?_|refine WG.c (E:=env) rfl rfl (hs) rfl rfl ?_|refine WD.c (E:=env) rfl rfl (hs) rfl rfl ?_|((refine SP (fun h=>?_) fun h=>?_)<;>(try(exfalso;first|contradiction|omega))))
  all_goals first|(exfalso;omega)|skip
  all_goals (refine W.ret ?_;refine RetR.tb' ?_)
  all_goals simp
  all_goals rfl
theorem bytesL_of {x:D}(h:wfA env.P 22 x): ∃bs:List Int,bs.length≤maxLen∧(∀b∈bs,0≤b∧b≤255)∧x=bytD bs:=by
 obtain⟨rows,rfl,hm,n,hr⟩:=wfA_sl (e:=5) (by kernel_rfl) h
 obtain⟨bs,rfl,hbs⟩:=rows_map (f:=fun b:Int=>[dY b]) (p:=fun b=>0≤b∧b≤255) fun r hmem=>by
  obtain⟨hl,hw⟩:=hr r hmem
  rw[show env.P.cellsOf 5=1 by kernel_rfl] at hl
  match r,hl,hw with
  |[y],_,hw=>
   obtain⟨i,hi,rfl⟩:=wfD_int (k:=.u8) (by kernel_rfl) hw
   refine⟨i,?_,rfl⟩
   simp only[Lit.wf,Bool.and_eq_true,decide_eq_true_eq] at hi
   have e1:IntKind.min .u8=0:=by decide
   have e2:IntKind.max .u8=255:=by decide
   omega
 rw[show env.P.cellsOf 5=1 by kernel_rfl]
 exact⟨bs,by simpa using hm,hbs,rfl⟩
theorem lawLowers_nou (xs:List D)(h:wfAs env.P [22] xs): ∀x∈xs,NoU x:=by
 match xs,h with
 |[x0],⟨h0,_⟩=>
  obtain⟨bs,_,_,rfl⟩:=bytesL_of h0
  intro x hx
  rw[List.mem_singleton] at hx
  subst hx
  refine .sl _ _ fun r hr y hy=>?_
  obtain⟨b,_,rfl⟩:=List.mem_map.1 hr
  rw[List.mem_singleton] at hy
  subst hy
  exact .v _ (fun n h=>by cases h)
theorem lawLowers (q:TypeId×(Nat×Nat))(xs:List D)(h:wfAs env.P [22] xs):FunQ env.P 3 (xs.map .d) [tabO q] (just (.d (dB true)) [tabO q]):=by
 match xs,h with
 |[x0],⟨h0,_⟩=>
  obtain⟨bs,hm,h8,rfl⟩:=bytesL_of h0
  exact lawLowers_fn q bs hm h8
end Go.Proofs.YtmmjbpgdkokjgaaGreatDoor
