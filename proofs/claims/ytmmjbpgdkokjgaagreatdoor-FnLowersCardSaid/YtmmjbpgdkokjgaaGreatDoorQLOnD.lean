/-
  A text of this claim. Conditions: none.
-/
import Derived.Test.YtmmjbpgdkokjgaaGreatDoorQLPgE
import Derived.Test.YtmmjbpgdkokjgaaGreatDoorQLDn2
import Derived.Lib.ConvBytes
import Derived.Lib.AtoiErrMem
import Derived.Laws.AppendOwn
import Derived.Test.YtmmjbpgdkokjgaaGreatDoorQLOr1
import Derived.Test.YtmmjbpgdkokjgaaGreatDoorQLLw2
import Derived.Test.YtmmjbpgdkokjgaaGreatDoorQLOn0
import Derived.Test.YtmmjbpgdkokjgaaGreatDoorQLOn4
import Derived.Laws.CopyRow
import Derived.Laws.Slices
import Derived.WalkSpells
import Derived.Shelf.Strings.Count
set_option linter.unusedVariables false
set_option linter.unusedSimpArgs false
set_option maxRecDepth 100000
set_option maxHeartbeats 16000000
namespace Go.Proofs.YtmmjbpgdkokjgaaGreatDoor
open Go.RowKit
section
variable {E:Env}{N:Nm}{Q:Exit→St→Prop}{S:St}{ops l:List Oper}{ty:TypeId}{pos:String}{after:Array Edge}{gd:Option (Nat×Bool)}{d:Nat}
theorem WL.mkI {xt e:TypeId}{x:Operand}(hw:S.want ops ⟨some d,.makeInterface xt x,ty,pos,after,gd⟩=some true)(hd:Nat.blt d N.n=true)(hi:E.P.underlying xt=some (.pointer e))
 (k:WL E.P N ops l Q (S.set d (.ifc xt (S.ev x)))):WL E.P N ops (⟨some d,.makeInterface xt x,ty,pos,after,gd⟩::l) Q S:=
 WL.val hw hd (fun w0 σ0 a w g R=>by
  have hrun:(Instr.makeInterface xt (a.eval x)).run E.P w=.ok (.iface xt (a.eval x)) w:=by
   simp[Instr.makeInterface,run_underlying hi]
  refine⟨_,by simp only[execOp,Sem.run_bind,hrun,Result.andThen_ok,Sem.run_pure],.ifc _ _ _ (R.ev x)⟩) k
theorem run_indexArr {P:Program}{w:World}{t e:TypeId}{n:Nat}{inf:TypeInfo}(hu:P.underlying t=some (.array n e))(hi:P.info? e=some inf)(b off:Nat)(k:IntKind)(i:Int)(h:0≤i∧i<n):
 (Instr.indexAt t (.pointer (some ⟨b,off,none⟩)) (.int k i)).run P w=.ok (.pointer (some ⟨b,off+i.toNat*inf.size,none⟩)) w:=by
 simp[Instr.indexAt,asIntOf,run_underlying hu,sizeOf,typeInfo,hi,h,Addr.add_lit,Instr.sureAddr]
theorem WL.ixArr {t e:TypeId}{n:Nat}{x ix:Operand}{l0 off:Nat}{k:IntKind}{i:Int}(hw:S.want ops ⟨some d,.indexAddr t x ix,ty,pos,after,gd⟩=some true)(hd:Nat.blt d N.n=true)
 (ht:E.P.underlying t=some (.array n e)) (he:(E.ty e).known=true) (hz:(E.ty e).size=1) (hx:S.ev x=.lp l0 off) (hi:S.ev ix=.d (.v (.int k i))) (hb:0≤i∧i<n)
 (kk:WL E.P N ops l Q (S.set d (.lp l0 (off+i.toNat)))):WL E.P N ops (⟨some d,.indexAddr t x ix,ty,pos,after,gd⟩::l) Q S:=
 WL.val hw hd (fun w0 σ0 a w g R=>by
  have h1:=R.ev x
  rw[hx] at h1
  obtain⟨b,h0,hγ,hxv⟩:=h1.inv_lp
  have h2:=R.ev ix
  rw[hi] at h2
  have h2':=h2.inv_v
  obtain⟨inf,zz,hinf,hsz,_⟩:=E.info he
  refine⟨_,by simp only[execOp,Sem.run_bind,hxv,h2',run_indexArr ht hinf b off k i hb,Result.andThen_ok,Sem.run_pure];rfl,?_⟩
  rw[hsz,hz,Nat.mul_one]
  exact .lp l0 _ b h0 hγ) kk
def bytesOf (s:ByteArray):List (List D):=s.data.toList.map fun c=>[D.v (.int .u8 (c.toNat:Int))]
theorem WL.s2b {src dst e:TypeId}{x:Operand}{s:ByteArray}(hw:S.want ops ⟨some d,.convert src dst x,ty,pos,after,gd⟩=some true)(hd:Nat.blt d N.n=true)
 (hs:(E.ty src).kind=.string) (hdst:(E.ty dst).kind=.slice e) (he:(E.ty e).kind=.int .u8) (hx:S.ev x=.d (.v (.string s))) (hn:s.size≤1048576)
 (k:WL E.P N ops l Q ⟨(S.set d (.d (.sl 1 (bytesOf s)))).tm,S.ob⟩):WL E.P N ops (⟨some d,.convert src dst x,ty,pos,after,gd⟩::l) Q S:=
 WL.eff (Nat.le_refl _) hw hd (fun w0 σ0 a w g R=>by
  have h1:=R.ev x
  rw[hx] at h1
  have h1':=h1.inv_v
  have hrun:=Lib.run_convert_string_bytes (P:=E.P) w src dst e s (E.string hs) (E.slice hdst) (E.int he)
  let xs:List Value:=s.data.toList.map fun c=>Value.int .u8 (c.toNat:Int)
  have hcell: ∀(o:Nat) (u:Value),xs[o]? =some u→(Lib.bytesWorld w e s).cell? ⟨w.heap.size,o,none⟩=some u:=fun o u hu=>by
   have hlt:o<s.size:=by
    have:=(List.getElem?_eq_some_iff.1 hu).1
    simpa [xs] using this
   have h:=Lib.bytesWorld_cell w e s o hlt
   rw[h]
   simp only[xs,List.getElem?_map,Option.map_eq_some_iff] at hu
   obtain⟨c,hc,rfl⟩:=hu
   simp[List.getD_eq_getElem?_getD,hc]
  obtain⟨g',hle,hσ,I'⟩:=R.inv.known (Lib.bytesWorld_below w e s) w.heap.size xs (Nat.le_refl _) hcell
  refine⟨.slice (some ⟨w.heap.size,0,none⟩) s.size (grownCap w s.size 0 e),Lib.bytesWorld w e s,g',?_,hle,I',.d _ _ ?_⟩
  ·simp only[execOp,Sem.run_bind,h1',hrun,Result.andThen_ok,Sem.run_pure]
  ·have hlen:(bytesOf s).length=s.size:=by simp[bytesOf]
   rw[←hlen]
   refine .sl 1 (bytesOf s) w.heap.size 0 _ (fun i j=>(xs[i+j]?).getD undef) (by rw[hlen];exact grownCap_ge w s.size 0 e) ?_ (fun r hr=>?_) (fun i j hi hj=>?_) (fun i j r y hr hy=>?_)
   ·rw[hlen]
    exact grownCap_le_maxLen w s.size 0 e (by unfold maxLen;omega)
   ·obtain⟨c,_,rfl⟩:=List.mem_map.1 hr
    rfl
   ·obtain rfl:j=0:=by omega
    have hlt:i<xs.length:=by
     rw[hlen] at hi
     simpa [xs] using hi
    rw[Nat.zero_add,Nat.mul_one,Nat.add_zero,hσ,List.getElem?_eq_getElem hlt]
    refine⟨rfl,?_⟩
    simp[xs,Value.oneCell']
   ·simp only[bytesOf,List.getElem?_map,Option.map_eq_some_iff] at hr
    obtain⟨c,hc,rfl⟩:=hr
    match j with
    |0=>
     simp at hy
     subst hy
     rw[Nat.add_zero]
     simp only[xs,List.getElem?_map,hc,Option.map_some,Option.getD_some]
     exact .v _
    |j+1=>simp at hy) k
theorem WL.appendNilD {t e:TypeId}{s x:Operand}{z:Nat}{rows:List (List D)}(hw:S.want ops ⟨some d,.call ⟨.builtin .append,#[s,x],#[t,t]⟩,ty,pos,after,gd⟩=some true)(hd:Nat.blt d N.n=true)
 (ht:(E.ty t).kind=.slice e) (he:(E.ty e).known=true) (hz:(E.ty e).size=z) (hz0:Nat.blt 0 z=true) (hby:Nat.ble 1 (E.ty e).bytes=true) (hs:nilT (S.ev s)=true) (hx:srcRows S.ob (S.ev x)=some (z,rows))
 (hroom:(0+rows.length)*(E.ty e).bytes≤140737488355328)
 (k:WL E.P N ops l Q ⟨(S.set d (.d (.sl z rows))).tm,S.ob⟩):WL E.P N ops (⟨some d,.call ⟨.builtin .append,#[s,x],#[t,t]⟩,ty,pos,after,gd⟩::l) Q S:=
 WL.eff (Nat.le_refl _) hw hd (fun w0 σ0 a w g R=>by
  obtain⟨inf,zz,hinf,hsz,hbs,hzv,hzs,hzc⟩:=E.info he
  have hz0':0<z:=by simpa using hz0
  have hsv:=(R.ev s).nil hs
  obtain⟨A,c,news,hxv,hA,hnl,hcell,hn1,hnz,hnr⟩:=R.inv.src hx (R.ev x) hz0'
  obtain⟨v',w',hrun,hown,hgrow,_⟩:=run_append_slice (P:=E.P) (w:=w) w.heap.size t ty e inf zz z (E.ty e).bytes (E.slice ht) hinf hzv (hsz.trans hz) hbs (hzc.trans hz) hz0' (.slice none 0 0) 0 [] (World.ownsRow_nil w _ _ _)
   A rows.length c news (fun h=>by obtain⟨h1,h2⟩:=hA h;simp[h1,h2]) hnl hcell hn1 (room_of (Nat.le_of_ble_eq_true hby) hroom) hroom (Nat.le_refl _)
  have hb:Below w.heap.size w w':=⟨hgrow.os,hgrow.tape,hgrow.output,hgrow.size,fun b hb=>hgrow.block b hb (by simp[Value.ownBlock])⟩
  have hown':w'.ownsRow w.heap.size e z v' rows.length news:=by simpa using hown
  have hrun':(execOp a.eval ⟨some d,.call ⟨.builtin .append,#[s,x],#[t,t]⟩,ty,pos,after,gd⟩).run E.P w=.ok (.value v') w':=by simp[execOp,resolve,invoke,builtin,hsv,hxv,hrun]
  rcases hown'.2 with⟨hv,hn⟩|⟨blk,cap,cur,hv,hblk,hh,hc,hm,_,_⟩
  ·obtain⟨g',hle,hσ,I'⟩:=R.inv.known hb w'.heap.size [] hgrow.size (fun o u hu=>by simp at hu)
   refine⟨v',w',g',hrun',hle,I',.d _ _ ?_⟩
   have:rows=[]:=List.length_eq_zero_iff.1 hn
   subst this
   rw[hv]
   exact .nil z none
  ·have hcell': ∀(o:Nat) (u:Value),news[o]? =some u→w'.cell? ⟨blk,o,none⟩=some u:=fun o u hu=>by
    have:=hown'.cells (by rw[hv];rfl) o u hu
    rwa [Addr.add_lit,Nat.zero_add] at this
   obtain⟨g',hle,hσ,I'⟩:=R.inv.known hb blk news hblk hcell'
   refine⟨v',w',g',hrun',hle,I',.d _ _ ?_⟩
   rw[hv]
   have hin: ∀i j,i<rows.length→j<z→i*z+j<news.length:=fun i j hi hj=>by
    rw[hnl]
    exact row_lt hi hj
   refine .sl z rows blk 0 cap (fun i j=>(news[i*z+j]?).getD undef) hc hm hnz (fun i j hi hj=>?_) (fun i j r x hr hx=>?_)
   ·have hlt:=hin i j hi hj
    rw[Nat.zero_add,hσ,List.getElem?_eq_getElem hlt]
    exact⟨rfl,hn1 _ (List.getElem_mem hlt)⟩
   ·obtain⟨u,hu,hd⟩:=hnr i j r x hr hx
    rw[hu]
    exact hd.mono hle.σ) k
end
section
variable {E:Env}{N:Nm}{Q:Exit→St→Prop}{tm:Nat→T}{ob:List Ob}{ops l:List Oper}{ty:TypeId}{pos:String}{after:Array Edge}{gd:Option (Nat×Bool)}{d:Nat}{G:List Nat}
theorem WG.mkI {xt e:TypeId}{x:Operand}(hw:St.want ⟨tm,ob⟩ ops ⟨some d,.makeInterface xt x,ty,pos,after,gd⟩=some true)(hd:Nat.blt d N.n=true)(hi:E.P.underlying xt=some (.pointer e))
 (k:WG G E.P N ops l Q ⟨upd tm d (.ifc xt (St.ev ⟨tm,ob⟩ x)),ob⟩):WG G E.P N ops (⟨some d,.makeInterface xt x,ty,pos,after,gd⟩::l) Q ⟨tm,ob⟩:=WL.mkI (S:=⟨tm,ob⟩) hw hd hi k
theorem WG.ixArr {t e:TypeId}{n:Nat}{x ix:Operand}{l0 off:Nat}{k:IntKind}{i:Int}(hw:St.want ⟨tm,ob⟩ ops ⟨some d,.indexAddr t x ix,ty,pos,after,gd⟩=some true)(hd:Nat.blt d N.n=true)
 (ht:E.P.underlying t=some (.array n e)) (he:(E.ty e).known=true) (hz:(E.ty e).size=1) (hx:St.ev ⟨tm,ob⟩ x=.lp l0 off) (hi:St.ev ⟨tm,ob⟩ ix=.d (.v (.int k i))) (hb:0≤i∧i<n)
 (kk:WG G E.P N ops l Q ⟨upd tm d (.lp l0 (off+i.toNat)),ob⟩):WG G E.P N ops (⟨some d,.indexAddr t x ix,ty,pos,after,gd⟩::l) Q ⟨tm,ob⟩:=WL.ixArr (S:=⟨tm,ob⟩) hw hd ht he hz hx hi hb kk
theorem WG.s2b {src dst e:TypeId}{x:Operand}{s:ByteArray}(hw:St.want ⟨tm,ob⟩ ops ⟨some d,.convert src dst x,ty,pos,after,gd⟩=some true)(hd:Nat.blt d N.n=true)
 (hs:(E.ty src).kind=.string) (hdst:(E.ty dst).kind=.slice e) (he:(E.ty e).kind=.int .u8) (hx:St.ev ⟨tm,ob⟩ x=.d (.v (.string s))) (hn:s.size≤1048576)
 (k:WG G E.P N ops l Q ⟨upd tm d (.d (.sl 1 (bytesOf s))),ob⟩):WG G E.P N ops (⟨some d,.convert src dst x,ty,pos,after,gd⟩::l) Q ⟨tm,ob⟩:=WL.s2b (S:=⟨tm,ob⟩) hw hd hs hdst he hx hn k
theorem WG.apND {t e:TypeId}{s x:Operand}{z:Nat}{rows:List (List D)}(hw:St.want ⟨tm,ob⟩ ops ⟨some d,.call ⟨.builtin .append,#[s,x],#[t,t]⟩,ty,pos,after,gd⟩=some true)(hd:Nat.blt d N.n=true)
 (ht:(E.ty t).kind=.slice e) (he:(E.ty e).known=true) (hz:(E.ty e).size=z) (hz0:Nat.blt 0 z=true) (hby:Nat.ble 1 (E.ty e).bytes=true) (hs:nilT (St.ev ⟨tm,ob⟩ s)=true) (hx:srcRows ob (St.ev ⟨tm,ob⟩ x)=some (z,rows))
 (hroom:(0+rows.length)*(E.ty e).bytes≤140737488355328)
 (k:WG G E.P N ops l Q ⟨upd tm d (.d (.sl z rows)),ob⟩):WG G E.P N ops (⟨some d,.call ⟨.builtin .append,#[s,x],#[t,t]⟩,ty,pos,after,gd⟩::l) Q ⟨tm,ob⟩:=WL.appendNilD (S:=⟨tm,ob⟩) hw hd ht he hz hz0 hby hs hx hroom k
theorem WG.ixR {t e:TypeId}{x ix:Operand}{z:Nat}{rows:List (List D)}{k:IntKind}{i:Int}{r:List D}(hw:St.want ⟨tm,ob⟩ ops ⟨some d,.indexAddr t x ix,ty,pos,after,gd⟩=some true)(hd:Nat.blt d N.n=true)
 (ht:(E.ty t).kind=.slice e) (he:(E.ty e).known=true) (hz:(E.ty e).size=z) (hx:norm ob (St.ev ⟨tm,ob⟩ x)=.d (.sl z rows)) (hi:St.ev ⟨tm,ob⟩ ix=.d (.v (.int k i))) (hb:0≤i∧i<rows.length) (hr:rows[i.toNat]? =some r)
 (kk:WG G E.P N ops l Q ⟨upd tm d (.ea r 0),ob⟩):WG G E.P N ops (⟨some d,.indexAddr t x ix,ty,pos,after,gd⟩::l) Q ⟨tm,ob⟩:=WL.index (S:=⟨tm,ob⟩) hw hd ht he hz hx hi hb hr kk
theorem WG.nlEq {t e:TypeId}{rt:TypeId}{x:Operand}{z:Nat}(hw:St.want ⟨tm,ob⟩ ops ⟨some d,.binOp .eql t x (.const (.slice none 0 0)) rt,ty,pos,after,gd⟩=some true)(hd:Nat.blt d N.n=true)
 (ht:(E.ty t).kind=.slice e) (hx:St.ev ⟨tm,ob⟩ x=.d (.nl z))
 (k:WG G E.P N ops l Q ⟨upd tm d (.d (.v (.bool true))),ob⟩):WG G E.P N ops (⟨some d,.binOp .eql t x (.const (.slice none 0 0)) rt,ty,pos,after,gd⟩::l) Q ⟨tm,ob⟩:=
 WL.oper (S:=⟨tm,ob⟩) hw fun w0 σ0 a w g R=>by
  have hv:=R.ev x
  rw[hx] at hv
  have hu:a.eval x=.slice none 0 0:=hv.inv_d.inv_nl
  have h1:=Go.run_eql_slice_nil (P:=E.P) w t e none 0 0 (E.slice ht)
  have h2:a.eval (.const (.slice none 0 0))=.slice none 0 0:=rfl
  have h3:eqGuard .eql t x (.const (.slice none 0 0)) (.slice none 0 0) (.slice none 0 0)=pure ():=by simp[eqGuard]
  unfold Oper.wp Oper.upon
  simp only[execOp,hu,h2,h3]
  simp only[Sem.run_bind,Sem.run_pure,Result.andThen_ok,h1]
  exact k w0 σ0 _ w g (R.set (by simpa using hd) (.d _ _ (.v _)))
theorem WG.ldA {t:TypeId}{x:Operand}{l0 off:Nat}{cs:List T}{c:T}(hw:St.want ⟨tm,ob⟩ ops ⟨some d,.load t x,ty,pos,after,gd⟩=some true)(hd:Nat.blt d N.n=true)
 (hk:(E.ty t).known=true) (ha:(E.ty t).agg=false) (hx:St.ev ⟨tm,ob⟩ x=.lp l0 off) (hj:ob[l0]? =some (.pv cs)) (hc:cs[off]? =some c)
 (k:WG G E.P N ops l Q ⟨upd tm d c,ob⟩):WG G E.P N ops (⟨some d,.load t x,ty,pos,after,gd⟩::l) Q ⟨tm,ob⟩:=
 WG.s (p:=True) hw hd (by
  show evLoad E ⟨tm,ob⟩ t (St.ev ⟨tm,ob⟩ x)=_
  rw[hx]
  simp only[evLoad,hk,hj,ha,cond_true,cond_false,hc]) trivial k
end
abbrev oldnewR :List (List D):=[[dS ⟨#[34]⟩],[dS ⟨#[92,34]⟩],[dS ⟨#[92]⟩],[dS ⟨#[92,92]⟩]]
abbrev replR (done lock:Int)(r o:T):List T:=[.d (.v (.int .u32 done)),.d (.v (.int .i32 lock)),.d (.v (.int .u32 0)),r,o]
theorem NewReplacer_fn :Fun env.P 172 [.sl 1 oldnewR] (.lp 0 0) [.pv (replR 0 0 (.d (.v .nilIface)) (.d (.sl 1 oldnewR)))]:=by
 refine Fun.intro Tryz.func172 rfl (by kernel_rfl) rfl ?_
 repeat'(first|refine WG.apND (E:=env) (z:=1) rfl rfl rfl rfl rfl rfl rfl rfl rfl (by decide) ?_|refine Z1 ?_|fail)
 refine W.ret ?_
 exact RetR.own (t:=.lp 0 0) (ob':=[.pv (replR 0 0 (.d (.v .nilIface)) (.d (.sl 1 oldnewR)))]) ⟨[0],[0],1⟩ (.inl rfl) rfl rO rfl rfl rfl rfl rfl rfl ⟨rfl,trivial⟩ rfl ⟨rfl,rfl⟩
def bsrA (c34 c92 tail:T):List T:=((List.replicate 256 (T.d (.nl 1))).set 34 c34).set 92 c92++[tail]
def bsrR :List T:=((List.replicate 256 (T.d (.nl 1))).set 34 (.d (.sl 1 (bytesOf ⟨#[92,34]⟩)))).set 92 (.d (.sl 1 (bytesOf ⟨#[92,92]⟩)))++[.d (.sl 1 [[dS ⟨#[92]⟩],[dS ⟨#[34]⟩]])]
theorem build_fn :FunQ env.P 200 [.lp 0 0] [.pv (replR 0 1 (.d (.v .nilIface)) (.d (.sl 1 oldnewR)))] (just (.ifc 249 (.lp 1 0)) [.pv (replR 0 1 (.d (.v .nilIface)) (.d (.sl 1 oldnewR))),.pv bsrR]):=by
 refine FunQ.intro Tryz.func200 rfl (by kernel_rfl) rfl ?_
 have hl:oldnewR.length=4:=rfl
 have hq:((oldnewR.length:Int)).tdiv 2=2:=rfl
 have s1:(⟨#[34]⟩:ByteArray).size=1:=rfl
 have s2:(⟨#[92,34]⟩:ByteArray).size=2:=rfl
 have s3:(⟨#[92]⟩:ByteArray).size=1:=rfl
 have s4:(⟨#[92,92]⟩:ByteArray).size=2:=rfl
 repeat'(first|refine Z1 ?_)
 refine W.loop (fun m S=>(m=2∧S=⟨ofL [(0,.lp 0 0),(2,.d (.v .nilIface)),(3,.d (.sl 1 oldnewR)),(4,.d (dB true)),(5,vI .i64 0)],[.pv (replR 0 1 (.d (.v .nilIface)) (.d (.sl 1 oldnewR)))]⟩)∨(m=1∧S=⟨ofL [(0,.lp 0 0),(2,.d (.v .nilIface)),(3,.d (.sl 1 oldnewR)),(4,.d (dB false)),(5,vI .i64 2)],[.pv (replR 0 1 (.d (.v .nilIface)) (.d (.sl 1 oldnewR)))]⟩)∨
  (m=0∧S=⟨ofL [(0,.lp 0 0),(2,.d (.v .nilIface)),(3,.d (.sl 1 oldnewR)),(4,.d (dB false)),(5,vI .i64 4)],[.pv (replR 0 1 (.d (.v .nilIface)) (.d (.sl 1 oldnewR)))]⟩)) _ _ (.inl ⟨rfl,rfl⟩) lE ?_
 rintro m S (⟨rfl,rfl⟩|⟨rfl,rfl⟩|⟨rfl,rfl⟩)
 ·repeat'(first|refine WG.ixR (E:=env) rfl rfl rfl rfl rfl rfl rfl ⟨by decide,by decide⟩ rfl ?_|refine Z1 ?_|fail)
  all_goals first|(exfalso;omega)|exact⟨_,_,by omega,.inr (.inl ⟨rfl,rfl⟩),lE⟩|skip
 ·repeat'(first|refine WG.ixR (E:=env) rfl rfl rfl rfl rfl rfl rfl ⟨by decide,by decide⟩ rfl ?_|refine Z1 ?_|fail)
  all_goals first|(exfalso;omega)|exact⟨_,_,by omega,.inr (.inr ⟨rfl,rfl⟩),lE⟩|skip
 ·repeat'(first|refine WG.ixR (E:=env) rfl rfl rfl rfl rfl rfl rfl ⟨by decide,by decide⟩ rfl ?_|refine WG.mk (E:=env) (K:=1) rfl rfl rfl rfl rfl rfl rfl rfl rfl rfl rfl ⟨by decide,by decide,(show(16:Int)*2≤281474976710656 by decide)⟩ ?_|refine Z1 ?_|fail)
  refine W.loop (fun m S=>(m=2∧S=⟨ofL [(0,.lp 0 0),(2,.d (.v .nilIface)),(3,.d (.sl 1 oldnewR)),(11,.lp 2 0),(12,vI .i64 (2))],[.pv (replR 0 1 (.d (.v .nilIface)) (.d (.sl 1 oldnewR))),.gr 1 9 [] 0 false,.pv (bsrA (.d (.nl 1)) (.d (.nl 1)) (.og 1 0))]⟩)∨(m=1∧S=⟨ofL [(0,.lp 0 0),(2,.d (.v .nilIface)),(3,.d (.sl 1 oldnewR)),(11,.lp 2 0),(12,vI .i64 (0))],[.pv (replR 0 1 (.d (.v .nilIface)) (.d (.sl 1 oldnewR))),.gr 1 9 [[dS (strB [92])]] 1 false,.pv (bsrA (.d (.nl 1)) (.d (.sl 1 (bytesOf ⟨#[92,92]⟩))) (.og 1 1))]⟩)∨(m=0∧S=⟨ofL [(0,.lp 0 0),(2,.d (.v .nilIface)),(3,.d (.sl 1 oldnewR)),(11,.lp 2 0),(12,vI .i64 (-2))],[.pv (replR 0 1 (.d (.v .nilIface)) (.d (.sl 1 oldnewR))),.gr 1 9 [[dS (strB [92])],[dS (strB [34])]] 2 false,.pv (bsrA (.d (.sl 1 (bytesOf ⟨#[92,34]⟩))) (.d (.sl 1 (bytesOf ⟨#[92,92]⟩))) (.og 1 2))]⟩)) _ _ (.inl ⟨rfl,rfl⟩) lE ?_
  rintro m S (⟨rfl,rfl⟩|⟨rfl,rfl⟩|⟨rfl,rfl⟩)
  ·repeat'(first|refine WG.ixR (E:=env) rfl rfl rfl rfl rfl rfl rfl ⟨by decide,by decide⟩ rfl ?_|refine WG.ixArr (E:=env) (n:=256) (e:=22) rfl rfl (by kernel_rfl) rfl rfl rfl rfl ⟨by decide,by decide⟩ ?_|refine WG.nlEq (E:=env) rfl rfl rfl rfl ?_|refine WG.bsD (E:=env) ?_|refine WG.b2s (E:=env) (ns:=[92]) rfl rfl rfl rfl rfl rfl ?_|refine WG.b2s (E:=env) (ns:=[34]) rfl rfl rfl rfl rfl rfl ?_|refine WG.s2b (E:=env) rfl rfl rfl rfl rfl rfl (by decide) ?_|refine WG.mkI (E:=env) (e:=248) rfl rfl (by kernel_rfl) ?_|refine Z1 ?_|fail)
   refine⟨_,_,?_,.inr (.inl ⟨rfl,rfl⟩),?_⟩
   ·omega
   ·exact lE
  ·repeat'(first|refine WG.ixR (E:=env) rfl rfl rfl rfl rfl rfl rfl ⟨by decide,by decide⟩ rfl ?_|refine WG.ixArr (E:=env) (n:=256) (e:=22) rfl rfl (by kernel_rfl) rfl rfl rfl rfl ⟨by decide,by decide⟩ ?_|refine WG.nlEq (E:=env) rfl rfl rfl rfl ?_|refine WG.bsD (E:=env) ?_|refine WG.b2s (E:=env) (ns:=[92]) rfl rfl rfl rfl rfl rfl ?_|refine WG.b2s (E:=env) (ns:=[34]) rfl rfl rfl rfl rfl rfl ?_|refine WG.s2b (E:=env) rfl rfl rfl rfl rfl rfl (by decide) ?_|refine WG.mkI (E:=env) (e:=248) rfl rfl (by kernel_rfl) ?_|refine Z1 ?_|fail)
   refine⟨_,_,?_,.inr (.inr ⟨rfl,rfl⟩),?_⟩
   ·omega
   ·exact lE
  ·repeat'(first|(refine W.pubD 1 rfl ?_;refine W.imp (St.imp.pubP 1 rfl) ?_)|refine WG.ixR (E:=env) rfl rfl rfl rfl rfl rfl rfl ⟨by decide,by decide⟩ rfl ?_|refine WG.ixArr (E:=env) (n:=256) (e:=22) rfl rfl (by kernel_rfl) rfl rfl rfl rfl ⟨by decide,by decide⟩ ?_|refine WG.nlEq (E:=env) rfl rfl rfl rfl ?_|refine WG.bsD (E:=env) ?_|refine WG.b2s (E:=env) (ns:=[92]) rfl rfl rfl rfl rfl rfl ?_|refine WG.b2s (E:=env) (ns:=[34]) rfl rfl rfl rfl rfl rfl ?_|refine WG.s2b (E:=env) rfl rfl rfl rfl rfl rfl (by decide) ?_|refine WG.mkI (E:=env) (e:=248) rfl rfl (by kernel_rfl) ?_|refine Z1 ?_|fail)
   refine W.ret ?_
   exact RetR.own (t:=.ifc 249 (.lp 1 0)) (ob':=[.pv (replR 0 1 (.d (.v .nilIface)) (.d (.sl 1 oldnewR))),.pv bsrR]) ⟨[0,2],[0,0],3⟩ (.inl rfl) rfl rO rfl rfl rfl rfl rfl rfl ⟨rfl,rfl,trivial⟩ rfl ⟨rfl,rfl⟩
theorem buildOnce_fn :FunQ env.P 189 [.lp 0 0] [.pv (replR 0 1 (.d (.v .nilIface)) (.d (.sl 1 oldnewR)))] (just (.tup []) [.pv (replR 0 1 (.ifc 249 (.lp 1 0)) (.d (.nl 1))),.pv bsrR]):=by
 have hb:=build_fn
 refine FunQ.intro Tryz.func189 rfl (by kernel_rfl) rfl ?_
 repeat'(first|refine Z1 ?_|refine WG.cq (E:=env) [0] [0] false rfl rfl (hb) rfl rfl rfl rfl rfl rfl rfl (by first|exact trivial|exact⟨rfl,trivial⟩|exact⟨rfl,rfl,trivial⟩) (.inl rfl) rfl (fun h=>nomatch h) rfl rfl ?_)
 exact RetR.own (t:=.tup []) (ob':=[.pv (replR 0 1 (.ifc 249 (.lp 1 0)) (.d (.nl 1))),.pv bsrR]) ⟨[0,1],[0,0],2⟩ (.inr rfl) rfl rO rfl rfl rfl rfl rfl rfl ⟨rfl,rfl,trivial⟩ rfl ⟨rfl,rfl⟩
abbrev tBSR :TypeId:=249
theorem entersO {P:Program}{f:FuncId}{fn:Func}{c:Code}(hf:P.funcs[f]? =some fn)(hb:fn.body=some c)(hname:(fn.name== "runtime.NumGoroutine")=false)(vals:Array Value)(w:World):
 (callFunc f vals).run P w=.ok (.enter f vals) w:=by
 unfold callFunc
 simp only[Sem.run_bind,run_program,Result.andThen_ok,hf,hname,hb,Bool.false_eq_true,if_false,Option.isNone_some,Sem.run_pure]
theorem Replace_fn (s q:ByteArray)(h79:FunQ env.P 258 [.lp 1 0,.d (dS s)] [.pv (replR 1 0 (.ifc tBSR (.lp 1 0)) (.d (.nl 1))),.pv bsrR] (just (.d (dS q)) [.pv (replR 1 0 (.ifc tBSR (.lp 1 0)) (.d (.nl 1))),.pv bsrR])):
 FunQ env.P 173 [.lp 0 0,.d (dS s)] [.pv (replR 0 0 (.d (.v .nilIface)) (.d (.sl 1 oldnewR)))] (just (.d (dS q)) [.pv (replR 1 0 (.ifc tBSR (.lp 1 0)) (.d (.nl 1))),.pv bsrR]):=by
 refine⟨entersO Tryz.func173 (c:=_) rfl (by kernel_rfl),fun w g vals hI hl hr=>?_⟩
 match vals,hl with
 |[v0,v1],_=>
 obtain⟨b,hb0,hγ,hv0⟩:=(hr 0 (.lp 0 0) v0 rfl rfl).inv_lp
 have hv1:v1=.string s:=(hr 1 (.d (dS s)) v1 rfl rfl).inv_v
 subst hv0;subst hv1
 let R0:List T:=replR 0 0 (.d (.v .nilIface)) (.d (.sl 1 oldnewR))
 let R1:List T:=replR 0 1 (.d (.v .nilIface)) (.d (.sl 1 oldnewR))
 let R2:List T:=replR 0 1 (.ifc tBSR (.lp 1 0)) (.d (.nl 1))
 let R3:List T:=replR 1 0 (.ifc tBSR (.lp 1 0)) (.d (.nl 1))
 obtain⟨u0,c0,r0,f0⟩:=hI.cellV (l:=0) (cs:=R0) rfl hγ (i:=0) rfl
 obtain⟨u1,c1,r1,f1⟩:=hI.cellV (l:=0) (cs:=R0) rfl hγ (i:=1) rfl
 have e0:=r0.inv_v
 have e1:=r1.inv_v
 subst e0;subst e1
 have I1:Inv w (baseOf [.pv R0] g) [.pv R1] (w.setCell ⟨b,1,none⟩ (.int .i32 1)) g:=hI.setCell (l:=0) (i:=1) (cs:=R0) (t:=.d (.v (.int .i32 1))) rfl hγ (by decide) (.d _ _ (.v _)) rfl
 let Post:World→Prop:=fun w2=> ∃g2,Inv (w.setCell ⟨b,1,none⟩ (.int .i32 1)) (baseOf [.pv R1] g) [.pv R2,.pv bsrR] w2 g2
 have hγ2: ∀ {w2 g2},Inv (w.setCell ⟨b,1,none⟩ (.int .i32 1)) (baseOf [.pv R1] g) [.pv R2,.pv bsrR] w2 g2→g2.γ 0 0=.pointer (some ⟨b,0,none⟩):=fun {w2 g2} J=>by
  obtain⟨hlim,_⟩:=J.obs 0 _ rfl
  rcases J.ext 0 (by show 0<1;omega) with h|h
  ·omega
  ·rw[h]
   exact hγ
 have hf:Calls env.P 189 #[.pointer (some ⟨b,0,none⟩)] (w.setCell ⟨b,1,none⟩ (.int .i32 1)) fun e w'=>e=.returned (.tuple #[])∧Post w':=by
  refine(buildOnce_fn.calls _ g [.pointer (some ⟨b,0,none⟩)] I1.restart rfl fun i x u hx hu=>?_).mono fun e w' ⟨v,t,ob',g',he,⟨h1,h2⟩,J,hv⟩=>?_
  ·match i with
   |0=>
    simp at hx hu
    subst hx;subst hu
    exact .lp 0 0 b hb0 hγ
   |i+1=>simp at hx
  ·subst h1;subst h2
   obtain⟨vs,hvv,hvl,_⟩:=hv.inv_tup
   have:vs=[]:=List.length_eq_zero_iff.1 hvl.symm
   subst this
   exact⟨by rw[he,hvv],g',J⟩
 have hp: ∀w',Post w'→w'.cell? ⟨b,0,none⟩=some (.int .u32 0)∧w'.cell? ⟨b,1,none⟩=some (.int .i32 1)∧w'.frozen? ⟨b,0,none⟩=false∧w'.frozen? ⟨b,1,none⟩=false:=fun w' ⟨g2,J⟩=>by
  obtain⟨u0,c0,r0,f0⟩:=J.cellV (l:=0) (cs:=R2) rfl (hγ2 J) (i:=0) rfl
  obtain⟨u1,c1,r1,f1⟩:=J.cellV (l:=0) (cs:=R2) rfl (hγ2 J) (i:=1) rfl
  have e0:=r0.inv_v
  have e1:=r1.inv_v
  subst e0;subst e1
  exact⟨c0,c1,f0,f1⟩
 refine(replace_raw b s q w Post (fun w4=> ∃g4,Inv w (baseOf [.pv R0] g) [.pv R3,.pv bsrR] w4 g4) c0 c1 f0 f1 hf hp fun w2 ⟨g2,J⟩=>?_).mono fun e w' ⟨he,g4,K⟩=>⟨_,_,_,g4,he,⟨rfl,rfl⟩,K,.d _ _ (.v _)⟩
 have hg:=hγ2 J
 have K0:Inv w (baseOf [.pv R0] g) [.pv R2,.pv bsrR] w2 g2:=I1.after J (Nat.le_refl _) fun k hk=>rfl
 have K1:Inv w (baseOf [.pv R0] g) [.pv (R2.set 0 (.d (.v (.int .u32 1)))),.pv bsrR] (w2.drew.setCell ⟨b,0,none⟩ (.int .u32 1)) g2:=K0.drew.setCell (l:=0) (i:=0) (cs:=R2) (t:=.d (.v (.int .u32 1))) rfl hg (by decide) (.d _ _ (.v _)) rfl
 have K2:Inv w (baseOf [.pv R0] g) [.pv R3,.pv bsrR] ((w2.drew.setCell ⟨b,0,none⟩ (.int .u32 1)).setCell ⟨b,1,none⟩ (.int .i32 0)) g2:=K1.setCell (l:=0) (i:=1) (cs:=R2.set 0 (.d (.v (.int .u32 1)))) (t:=.d (.v (.int .i32 0))) rfl hg (by decide) (.d _ _ (.v _)) rfl
 obtain⟨u3,c3,r3,f3⟩:=K2.cellV (l:=0) (cs:=R3) rfl hg (i:=3) rfl
 obtain⟨c,hc0,hcγ,hu3⟩: ∃c,0<g2.lim 1∧g2.γ 1 0=.pointer (some ⟨c,0,none⟩)∧u3=.iface tBSR (.pointer (some ⟨c,0,none⟩)):=by
  cases r3 with
  |ifc _ _ u h=>
   obtain⟨c,h1,h2,h3⟩:=h.inv_lp
   exact⟨c,h1,h2,by rw[h3]⟩
 subst hu3
 refine⟨c,c3,(h79.calls _ g2 [.pointer (some ⟨c,0,none⟩),.string s] K2.restart rfl fun i x u hx hu=>?_).mono fun e w' ⟨v,t,ob',g',he,⟨h1,h2⟩,M,hv⟩=>?_⟩
 ·match i with
  |0=>
   simp at hx hu
   subst hx;subst hu
   exact .lp 1 0 c hc0 hcγ
  |1=>
   simp at hx hu
   subst hx;subst hu
   exact .d _ _ (.v _)
  |i+2=>simp at hx
 ·subst h1;subst h2
  refine⟨by rw[he,hv.inv_v],g',K2.after M (by simp) fun k hk=>?_⟩
  have:k=0:=by simp at hk;omega
  subst this
  rw[hg,hγ]
abbrev vI64 (n:Nat):Value:=.int .i64 (n:Int)
theorem setAll_splice {α:Type}(us cs:List α)(o:Nat)(h:o+us.length≤cs.length):cs.take o++us++cs.drop (o+us.length)=setAll cs o us:=by
 apply List.ext_getElem?
 intro i
 rw[setAll_at us cs o i h]
 by_cases h1:o≤i∧i<o+us.length
 ·rw[if_pos h1,List.getElem?_append_left (by simp;omega),List.getElem?_append_right (by simp;omega)]
  congr 1
  simp
  omega
 ·rw[if_neg h1]
  by_cases h2:i<o
  ·rw[List.getElem?_append_left (by simp;omega),List.getElem?_append_left (by simp;omega),List.getElem?_take_of_lt h2]
  ·rw[List.getElem?_append_right (by simp;omega),List.getElem?_drop]
   congr 1
   simp
   omega
section
variable {w0:World}{σ0:Bs}{ob:List Ob}{w:World}{g:Gh}
theorem Inv.setGr1 (I:Inv w0 σ0 ob w g){w':World}{m n i:Nat}{e e':TypeId}{rows news:List (List D)}{us cur:List Value}{b cap:Nat}(hm:ob[m]? =some (.gr 1 e rows n false))
 (hγ:g.γ m n=.slice (some ⟨b,0,none⟩) rows.length cap) (hh:w.heap[b]? =some (.cells cur.toArray e' (0,0)))
 (hi:i+news.length≤rows.length) (hul:news.length=us.length) (hn1: ∀r∈news,r.length=1) (hrd: ∀(j:Nat) (r:List D) (x:D) (u:Value),news[j]? =some r→r[0]? =some x→us[j]? =some u→RD g.σ x u) (h1: ∀u∈us,u.oneCell'=true)
 (hh':w'.heap[b]? =some (.cells (setAll cur i us).toArray e' (0,0))) (hos:w'.os=w.os) (htape:w'.tape=w.tape) (hout:w'.output=w.output) (hsize:w'.heap.size=w.heap.size)
 (hother: ∀k,k≠b→w'.heap[k]? =w.heap[k]?):Inv w0 σ0 (ob.set m (.gr 1 e (setAll rows i news) n false)) w' g:=by
 have hlt:m<ob.length:=(List.getElem?_eq_some_iff.1 hm).1
 obtain⟨hlim,xs,⟨hown,hmine⟩,hzr,hxr,hone,hσ⟩:=I.obs m _ hm
 have hown':=hown
 obtain⟨hxl,hown2⟩:=hown'
 rw[Nat.mul_one] at hxl
 obtain⟨hcapl,hcapm,hcs,htake,hee⟩:rows.length≤cap∧cap≤maxLen∧cur.length=cap∧cur.take rows.length=xs∧e'=e:=by
  rcases hown2 with⟨hv,_⟩|⟨b2,cap2,cur2,hv,hb,hhb,hc,hmm,hs,ht⟩
  ·rw[hγ] at hv;cases hv
  ·rw[hγ] at hv
   injection hv with e1 _ e3
   injection e1 with e1
   injection e1 with e1 _ _
   subst e1;subst e3
   rw[hh] at hhb
   have:=Option.some.inj hhb
   injection this with e4 e5 _
   subst e4
   exact⟨hc,hmm,by simpa using hs,by simpa using ht,e5⟩
 subst hee
 have hxs':(setAll cur i us).take rows.length=setAll xs i us:=by
  rw[setAll_take _ _ _ _ (by omega) (by omega),htake]
 refine I.turn hm (fun _ _ _ _ h=>by cases h) (by omega) (Gh.le_refl g) rfl (fun _ _=>⟨rfl,rfl⟩) hos htape hout (by omega) (fun b2 _ hb2=>hother b2 fun e=>hb2 (by subst e;simp[Gh.at,hγ,Value.ownBlock]))
  ⟨hlim,setAll xs i us,⟨⟨by rw[setAll_length,setAll_length,hxl];omega,.inr ⟨b,cap,_,by rw[hγ,setAll_length],Nat.zero_le _,hh',by rw[setAll_length];exact hcapl,hcapm,by simp[setAll_length,hcs],by rw[setAll_length,Nat.mul_one];simpa using hxs'⟩⟩,hmine⟩,fun q hq=>?_,fun i' j q x hq hx=>?_,fun u hu=>?_,hσ⟩ fun b2 hb2=>.inl hb2
 ·obtain⟨k,hk⟩:=List.getElem?_of_mem hq
  rw[setAll_at _ _ _ _ hi] at hk
  split at hk
  ·exact hn1 q (List.mem_of_getElem? hk)
  ·exact hzr q (List.mem_of_getElem? hk)
 ·rw[setAll_at _ _ _ _ hi] at hq
  have hj1:j=0:=by
   have hjl:=(List.getElem?_eq_some_iff.1 hx).1
   have hql:q.length=1:=by
    split at hq
    ·exact hn1 q (List.mem_of_getElem? hq)
    ·exact hzr q (List.mem_of_getElem? hq)
   omega
  subst hj1
  rw[Nat.mul_one,Nat.add_zero,setAll_at _ _ _ _ (by omega)]
  by_cases hin:i≤i'∧i'<i+news.length
  ·rw[if_pos hin] at hq
   rw[if_pos (by omega)]
   have hju:i' - i<us.length:=by omega
   exact⟨us[i' - i],List.getElem?_eq_getElem hju,hrd _ q x _ hq hx (List.getElem?_eq_getElem hju)⟩
  ·rw[if_neg hin] at hq
   rw[if_neg (by omega)]
   obtain⟨u,hu,hd⟩:=hxr i' 0 q x hq hx
   rw[Nat.mul_one,Nat.add_zero] at hu
   exact⟨u,hu,hd⟩
 ·obtain⟨q,hq⟩:=List.getElem?_of_mem hu
  rw[setAll_at _ _ _ _ (by omega)] at hq
  split at hq
  ·exact h1 u (List.mem_of_getElem? hq)
  ·exact hone u (List.mem_of_getElem? hq)
end
section
variable {E:Env}{N:Nm}{Q:Exit→St→Prop}{S:St}{ops l:List Oper}{ty:TypeId}{pos:String}{after:Array Edge}{gd:Option (Nat×Bool)}{d:Nat}
theorem WL.slO {t e e':TypeId}{x lo:Operand}{rows:List (List D)}{n m:Nat}{kl:IntKind}{li:Int}(hw:S.want ops ⟨some d,.slice t x (some lo) none none,ty,pos,after,gd⟩=some true)(hd:Nat.blt d N.n=true)
 (ht:(E.ty t).kind=.slice e) (he:(E.ty e).known=true) (hz:(E.ty e).size=1) (hx:S.ev x=.og m n) (hm:S.ob[m]? =some (.gr 1 e' rows n false)) (hl:S.ev lo=.d (.v (.int kl li))) (hb:0≤li∧li<rows.length)
 (k:WL E.P N ops l Q (S.set d (.os m n li.toNat))):WL E.P N ops (⟨some d,.slice t x (some lo) none none,ty,pos,after,gd⟩::l) Q S:=
 WL.val hw hd (fun w0 σ0 a w g R=>by
  have h1:=R.ev x
  rw[hx] at h1
  obtain⟨h1,h1'⟩:=h1.inv_og
  have h2:=R.ev lo
  rw[hl] at h2
  have h2':=h2.inv_v
  obtain⟨inf,zz,hinf,hsz,_⟩:=E.info he
  obtain⟨hlm,xs,⟨hown,_⟩,_⟩:=R.inv.obs m _ hm
  rcases hown.2 with⟨_,hn⟩|⟨b,cap,cur,hv,_,_,hcl,_⟩
  ·omega
  ·have hel:E.P.elem t=e:=by simp[Program.elem,E.slice ht]
   have ht':E.P.underlying t=some (.slice (E.P.elem t)):=by
    rw[hel]
    exact E.slice ht
   have hrun:(Instr.sliceAt t (.slice (some ⟨b,0,none⟩) rows.length cap) (some (.int kl li)) none none).run E.P w=.ok (.slice (some ⟨b,li.toNat,none⟩) (rows.length - li.toNat) (cap - li.toNat)) w:=by
    rw[run_sliceAt_slice (h:=ht'),run_slice_l (ht:=ht') (h0:=hb.1) (h1:=by omega)]
    have hso:(sizeOf (E.P.elem t)).run E.P w=.ok inf.size w:=by rw[hel];simp[sizeOf,typeInfo,hinf]
    rw[hso]
    simp only[Result.andThen_ok,sliced]
    rw[if_neg (by omega),hsz,hz]
    simp[Addr.add_lit]
   refine⟨_,by simp only[execOp,Sem.run_bind,Option.map_some,Option.map_none,h1',hv,h2',hrun,Result.andThen_ok,Sem.run_pure];rfl,?_⟩
   exact .os m n li.toNat b rows.length cap h1 hv (by omega)) k
theorem WL.cpO {t t' e e':TypeId}{s x:Operand}{rows news:List (List D)}{n m i:Nat}(hw:S.want ops ⟨some d,.call ⟨.builtin .copy,#[s,x],#[t,t']⟩,ty,pos,after,gd⟩=some true)(hd:Nat.blt d N.n=true)
 (ht:(E.ty t).kind=.slice e) (he:(E.ty e).known=true) (hz:(E.ty e).size=1) (hs:S.ev s=.os m n i) (hm:S.ob[m]? =some (.gr 1 e' rows n false)) (hx:S.ev x=.d (.sl 1 news)) (hb:i+news.length≤rows.length) (h0:0<news.length)
 (k:WL E.P N ops l Q ⟨(S.set d (vI .i64 news.length)).tm,S.ob.set m (.gr 1 e' (setAll rows i news) n false)⟩):WL E.P N ops (⟨some d,.call ⟨.builtin .copy,#[s,x],#[t,t']⟩,ty,pos,after,gd⟩::l) Q S:=
 WL.eff (by simp) hw hd (fun w0 σ0 a w g R=>by
  have h1:=R.ev s
  rw[hs] at h1
  obtain⟨b,len,cap,hlim,hγ,hil,hsv⟩:=h1.inv_os
  have h2:=R.ev x
  rw[hx] at h2
  obtain⟨inf,zz,hinf,hsz,_⟩:=E.info he
  obtain⟨hlm,xs,⟨hown,_⟩,_⟩:=R.inv.obs m _ hm
  rcases hown.2 with⟨hv0,_⟩|⟨b2,cap2,cur,hv,_,hh,hcl,hcm,hcs,_⟩
  ·rw[hγ] at hv0;cases hv0
  ·rw[hγ] at hv
   injection hv with e1 e2 e3
   injection e1 with e1
   injection e1 with e1 _ _
   subst e1;subst e3;subst e2
   obtain⟨cur⟩:=cur
   generalize hxe:a.eval x=xv at h2
   cases h2.inv_d with
   |nil=>simp at h0
   |sl _ _ bs off scap U hscap hsm hzr hc hrr=>
    let us:List Value:=(List.range news.length).map fun j=>U j 0
    have husl:us.length=news.length:=by simp[us]
    have husj: ∀(j:Nat) (u:Value),us[j]? =some u→j<news.length∧u=U j 0:=fun j u hu=>by
     simp only[us,List.getElem?_map,Option.map_eq_some_iff] at hu
     obtain⟨q,hq,rfl⟩:=hu
     have hlt:=(List.getElem?_eq_some_iff.1 hq).1
     simp at hlt
     rw[List.getElem?_range hlt] at hq
     simp at hq
     subst hq
     exact⟨hlt,rfl⟩
    have hsrc: ∀(j:Nat) (v:Value),us[j]? =some v→w.cell? ((⟨bs,off,none⟩:Addr).add j)=some v:=fun j v hv=>by
     obtain⟨hj,rfl⟩:=husj j v hv
     have:=(hc j 0 hj (by omega)).1
     rw[Nat.mul_one,Nat.add_zero] at this
     rw[Addr.add_lit]
     exact R.inv.con _ _ _ this
    have hones: ∀v∈us,v.oneCell'=true:=fun v hv=>by
     obtain⟨j,hj⟩:=List.getElem?_of_mem hv
     obtain⟨hj2,rfl⟩:=husj j v hj
     exact(hc j 0 hj2 (by omega)).2
    have hcur:cur.length=cap:=by simpa using hcs
    have hrun:=run_copy_row (P:=E.P) w t t' ty e b i (rows.length - i) (cap - i) ⟨bs,off,none⟩ news.length scap cur.toArray e' us (E.slice ht) (by simp[hinf,hsz,hz]) hh (by rw[husl];exact(Nat.min_eq_left (by omega)).symm) hsrc (by rw[husl];simp;omega) hones
    rw[show(cur.toArray.toList.take i++us++cur.toArray.toList.drop (i+us.length))=setAll cur i us from setAll_splice us cur i (by rw[husl];omega),husl] at hrun
    refine⟨vI64 news.length,w.setRow b (setAll cur i us).toArray,g,?_,Gh.le_refl g,R.inv.setGr1 (news:=news) (us:=us) (cur:=cur) hm hγ hh hb husl.symm hzr (fun j r y u hr hy hu=>?_) hones (setRow_heap w b _ _ _ _ hh) rfl rfl rfl (by simp[World.setRow]) (fun k hk=>setRow_other w b k _ hk),.d _ _ (.v _)⟩
    ·simp[execOp,resolve,invoke,builtin,hsv,hxe,hrun,vI64]
     rfl
    ·obtain⟨hj,rfl⟩:=husj j u hu
     exact hrr j 0 r y hr hy) k
end
section
variable {P:Program}{E:Env}{N:Nm}{tm:Nat→T}{ob:List Ob}{ops:List Oper}{ty:TypeId}{pos:String}{after:Array Edge}{gd:Option (Nat×Bool)}{d:Nat}
theorem OpS1.ixArr {t e:TypeId}{n:Nat}{x ix:Operand}{l0 off:Nat}{k:IntKind}{i:Int}(hw:St.want ⟨tm,ob⟩ ops ⟨some d,.indexAddr t x ix,ty,pos,after,gd⟩=some true)(hd:Nat.blt d N.n=true)
 (ht:E.P.underlying t=some (.array n e)) (he:(E.ty e).known=true) (hz:(E.ty e).size=1) (hx:St.ev ⟨tm,ob⟩ x=.lp l0 off) (hi:St.ev ⟨tm,ob⟩ ix=.d (.v (.int k i))) (hb:0≤i∧i<n):
 OpS1 E.P N ops ⟨some d,.indexAddr t x ix,ty,pos,after,gd⟩ tm (.lp l0 (off+i.toNat)) ob ob:=fun tm' hag l Q k'=>
 WL.ixArr (S:=⟨tm',ob⟩) (by rw[want_agree hag];exact hw) hd ht he hz (by rw[ev_agree hag (by simp[Op.operands])];exact hx) (by rw[ev_agree hag (by simp[Op.operands])];exact hi) hb k'
theorem OpS1.ldA {t:TypeId}{x:Operand}{l0 off:Nat}{cs:List T}{c:T}(hw:St.want ⟨tm,ob⟩ ops ⟨some d,.load t x,ty,pos,after,gd⟩=some true)(hd:Nat.blt d N.n=true)
 (hk:(E.ty t).known=true) (ha:(E.ty t).agg=false) (hx:St.ev ⟨tm,ob⟩ x=.lp l0 off) (hj:ob[l0]? =some (.pv cs)) (hc:cs[off]? =some c):
 OpS1 E.P N ops ⟨some d,.load t x,ty,pos,after,gd⟩ tm c ob ob:=fun tm' hag l Q k'=>
 WG.ldA (G:=[]) (by rw[want_agree hag];exact hw) hd hk ha (by rw[ev_agree hag (by simp[Op.operands])];exact hx) hj hc k'
theorem OpS1.slO {t e e':TypeId}{x lo:Operand}{rows:List (List D)}{n m:Nat}{kl:IntKind}{li:Int}(hw:St.want ⟨tm,ob⟩ ops ⟨some d,.slice t x (some lo) none none,ty,pos,after,gd⟩=some true)(hd:Nat.blt d N.n=true)
 (ht:(E.ty t).kind=.slice e) (he:(E.ty e).known=true) (hz:(E.ty e).size=1) (hx:St.ev ⟨tm,ob⟩ x=.og m n) (hm:ob[m]? =some (.gr 1 e' rows n false)) (hl:St.ev ⟨tm,ob⟩ lo=.d (.v (.int kl li))) (hb:0≤li∧li<rows.length):
 OpS1 E.P N ops ⟨some d,.slice t x (some lo) none none,ty,pos,after,gd⟩ tm (.os m n li.toNat) ob ob:=fun tm' hag l Q k'=>
 WL.slO (S:=⟨tm',ob⟩) (by rw[want_agree hag];exact hw) hd ht he hz (by rw[ev_agree hag (by simp[Op.operands])];exact hx) hm (by rw[ev_agree hag (by simp[Op.operands])];exact hl) hb k'
theorem OpS1.cpO {t t' e e':TypeId}{s x:Operand}{rows news:List (List D)}{n m i:Nat}{ob2:List Ob}(hw:St.want ⟨tm,ob⟩ ops ⟨some d,.call ⟨.builtin .copy,#[s,x],#[t,t']⟩,ty,pos,after,gd⟩=some true)(hd:Nat.blt d N.n=true)
 (ht:(E.ty t).kind=.slice e) (he:(E.ty e).known=true) (hz:(E.ty e).size=1) (hs:St.ev ⟨tm,ob⟩ s=.os m n i) (hm:ob[m]? =some (.gr 1 e' rows n false)) (hx:St.ev ⟨tm,ob⟩ x=.d (.sl 1 news)) (hb:i+news.length≤rows.length) (h0:0<news.length)
 (ho:ob.set m (.gr 1 e' (setAll rows i news) n false)=ob2):
 OpS1 E.P N ops ⟨some d,.call ⟨.builtin .copy,#[s,x],#[t,t']⟩,ty,pos,after,gd⟩ tm (vI .i64 news.length) ob ob2:=fun tm' hag l Q k'=>by
 subst ho
 exact WL.cpO (S:=⟨tm',ob⟩) (by rw[want_agree hag];exact hw) hd ht he hz (by rw[ev_agree hag (by simp[Op.operands,Call.operands])];exact hs) hm (by rw[ev_agree hag (by simp[Op.operands,Call.operands])];exact hx) hb h0 k'
end
section
variable {E:Env}{N:Nm}{Q:Exit→St→Prop}{tm:Nat→T}{ob:List Ob}{ops l:List Oper}{ty:TypeId}{pos:String}{after:Array Edge}{gd:Option (Nat×Bool)}{d:Nat}{G:List Nat}
theorem WG.neNil {t e:TypeId}{rt:TypeId}{x:Operand}{z:Nat}(hw:St.want ⟨tm,ob⟩ ops ⟨some d,.binOp .neq t x (.const (.slice none 0 0)) rt,ty,pos,after,gd⟩=some true)(hd:Nat.blt d N.n=true)
 (ht:(E.ty t).kind=.slice e) (hx:St.ev ⟨tm,ob⟩ x=.d (.nl z))
 (k:WG G E.P N ops l Q ⟨upd tm d (.d (.v (.bool false))),ob⟩):WG G E.P N ops (⟨some d,.binOp .neq t x (.const (.slice none 0 0)) rt,ty,pos,after,gd⟩::l) Q ⟨tm,ob⟩:=
 WL.oper (S:=⟨tm,ob⟩) hw fun w0 σ0 a w g R=>by
  have hv:=R.ev x
  rw[hx] at hv
  have hu:a.eval x=.slice none 0 0:=hv.inv_d.inv_nl
  have h1:=Go.run_neq_slice_nil_any (P:=E.P) w t e none 0 0 0 0 (E.slice ht)
  have h2:a.eval (.const (.slice none 0 0))=.slice none 0 0:=rfl
  have h3:eqGuard .neq t x (.const (.slice none 0 0)) (.slice none 0 0) (.slice none 0 0)=pure ():=by simp[eqGuard]
  unfold Oper.wp Oper.upon
  simp only[execOp,hu,h2,h3]
  simp only[Sem.run_bind,Sem.run_pure,Result.andThen_ok,h1]
  exact k w0 σ0 _ w g (R.set (by simpa using hd) (.d _ _ (.v _)))
theorem WG.neSl {t e:TypeId}{rt:TypeId}{x:Operand}{z:Nat}{rows:List (List D)}(hw:St.want ⟨tm,ob⟩ ops ⟨some d,.binOp .neq t x (.const (.slice none 0 0)) rt,ty,pos,after,gd⟩=some true)(hd:Nat.blt d N.n=true)
 (ht:(E.ty t).kind=.slice e) (hx:St.ev ⟨tm,ob⟩ x=.d (.sl z rows)) (hr:Nat.blt 0 rows.length=true)
 (k:WG G E.P N ops l Q ⟨upd tm d (.d (.v (.bool true))),ob⟩):WG G E.P N ops (⟨some d,.binOp .neq t x (.const (.slice none 0 0)) rt,ty,pos,after,gd⟩::l) Q ⟨tm,ob⟩:=
 WL.oper (S:=⟨tm,ob⟩) hw fun w0 σ0 a w g R=>by
  have hv:=R.ev x
  rw[hx] at hv
  have hv2:=hv.inv_d
  obtain⟨A,n,c,hu⟩: ∃(A:Addr) (n c:Nat),a.eval x=.slice (some A) n c:=by
   generalize a.eval x=u at hv2
   cases hv2 with
   |nil _ A=>simp at hr
   |sl _ _ b off cap U hcap hm hz hc hr=>exact⟨_,_,_,rfl⟩
  have h1:=Go.run_neq_slice_nil_any (P:=E.P) w t e (some A) n c 0 0 (E.slice ht)
  have h2:a.eval (.const (.slice none 0 0))=.slice none 0 0:=rfl
  have h3:eqGuard .neq t x (.const (.slice none 0 0)) (.slice (some A) n c) (.slice none 0 0)=pure ():=by simp[eqGuard]
  unfold Oper.wp Oper.upon
  simp only[execOp,hu,h2,h3]
  simp only[Sem.run_bind,Sem.run_pure,Result.andThen_ok,h1]
  exact k w0 σ0 _ w g (R.set (by simpa using hd) (.d _ _ (.v _)))
end
def spB (c:UInt8):Bool:=decide (c=34)||decide (c=92)
def escC (c:UInt8):List UInt8:=if spB c then [92,c] else [c]
def escL (l:List UInt8):List UInt8:=l.flatMap escC
def escS (s:ByteArray):ByteArray:=⟨(escL s.data.toList).toArray⟩
def eN (s:ByteArray)(k:Nat):Nat:=(escL (s.data.toList.take k)).length
theorem escL_app (l m:List UInt8):escL (l++m)=escL l++escL m:=by unfold escL;rw[List.flatMap_append]
theorem escL_one (c:UInt8):escL [c]=escC c:=by unfold escL;simp
theorem escL_step {l:List UInt8}{k:Nat}(h:k<l.length):escL (l.take (k+1))=escL (l.take k)++escC l[k]:=by
 rw[List.take_succ_eq_append_getElem h,escL_app,escL_one]
theorem escC_len (c:UInt8):(escC c).length=1+(if spB c then 1 else 0):=by
 unfold escC
 split<;>rfl
theorem eN_step {s:ByteArray}{k:Nat}(h:k<s.data.toList.length):eN s (k+1)=eN s k+1+(if spB s.data.toList[k] then 1 else 0):=by
 unfold eN
 rw[escL_step h,List.length_append,escC_len]
 omega
theorem eN_zero (s:ByteArray):eN s 0=0:=by simp[eN,escL]
theorem eN_ge (s:ByteArray): ∀k,k≤s.size→k≤eN s k∧eN s k≤2*k
 |0,_=>by rw[eN_zero];omega
 |k+1,h=>by
  have ih:=eN_ge s k (by omega)
  rw[eN_step (s:=s) (k:=k) h]
  split<;>omega
theorem eN_mono (s:ByteArray){k:Nat}: ∀j,k≤j→j≤s.size→eN s k+(j - k)≤eN s j:=by
 intro j hkj hj
 induction j with
 |zero=>have:k=0:=(by omega);subst this;omega
 |succ j ih=>
  by_cases e:k=j+1
  ·subst e;omega
  ·have:=ih (by omega) (by omega)
   rw[eN_step (s:=s) (k:=j) hj]
   omega
theorem eN_all (s:ByteArray):eN s s.size=(escL s.data.toList).length:=by
 unfold eN
 rw[show s.data.toList.take s.size=s.data.toList from List.take_length]
theorem escL_plain : ∀(l:List UInt8),(escL l).length=l.length→escL l=l
 |[],_=>rfl
 |c::r,h=>by
  have e:escL (c::r)=escC c++escL r:=by unfold escL;rw[List.flatMap_cons]
  have hl:r.length≤(escL r).length:=by
   clear h e
   induction r with
   |nil=>simp[escL]
   |cons d r ih=>
    have e:escL (d::r)=escC d++escL r:=by unfold escL;rw[List.flatMap_cons]
    rw[e,List.length_append,escC_len]
    simp only[List.length_cons]
    omega
  rw[e,List.length_append,escC_len] at h
  rw[e]
  simp only[List.length_cons] at h
  by_cases hs:spB c=true
  ·rw[if_pos hs] at h;omega
  ·rw[if_neg hs] at h
   have hc:escC c=[c]:=by unfold escC;rw[if_neg hs]
   rw[hc,escL_plain r (by omega)]
   rfl
theorem escL_count (l:List UInt8):(escL l).length=l.length+l.count 92+l.count 34:=by
 induction l with
 |nil=>rfl
 |cons c r ih=>
  have e:escL (c::r)=escC c++escL r:=by unfold escL;rw[List.flatMap_cons]
  rw[e,List.length_append,escC_len,ih,List.count_cons,List.count_cons,List.length_cons]
  unfold spB
  by_cases h1:c=34
  ·subst h1;simp;omega
  ·by_cases h2:c=92
   ·subst h2;simp;omega
   ·simp[h1,h2];omega
theorem entersB {P:Program}{f:FuncId}{fn:Func}{c:Code}(hf:P.funcs[f]? =some fn)(hb:fn.body=some c)(hname:(fn.name== "runtime.NumGoroutine")=false)(vals:Array Value)(w:World):
 (callFunc f vals).run P w=.ok (.enter f vals) w:=entersO hf hb hname vals w
theorem Count_fn (s:ByteArray)(c:UInt8):Fun env.P 260 [dS s,dS ⟨#[c]⟩] (.d (dI (s.data.toList.count c:Nat))) []:=by
 refine Fun.ofRaw (entersB Tryz.func260 (c:=_) rfl (by kernel_rfl)) fun w σ0 vals hσ hl hr=>?_
 match vals,hl with
 |[v0,v1],_=>
  have h0:v0=.string s:=by have:=hr 0 _ v0 rfl rfl;cases this;rfl
  have h1:v1=.string ⟨#[c]⟩:=by have:=hr 1 _ v1 rfl rfl;cases this;rfl
  subst h0;subst h1
  refine(Any.strings_Count_one lays138 s c w).mono fun e w' ⟨he,hw⟩=>?_
  subst he;subst hw
  exact⟨_,rfl,.refl _ _,fun g=>.d _ _ (.v _)⟩
theorem bsr_plain {c:UInt8}(h:spB c=false):bsrR[c.toNat]? =some (.d (.nl 1)):=by
 have hlt:c.toNat<256:=c.toNat_lt
 unfold spB at h
 simp only[Bool.or_eq_false_iff,decide_eq_false_iff_not] at h
 have h1:¬34=c.toNat:=fun e=>h.1 (UInt8.toNat_inj.1 e.symm)
 have h2:¬92=c.toNat:=fun e=>h.2 (UInt8.toNat_inj.1 e.symm)
 unfold bsrR
 rw[List.getElem?_append_left (by simp;exact hlt),List.getElem?_set_ne h2,List.getElem?_set_ne h1,List.getElem?_replicate,if_pos hlt]
theorem bsr_sp {c:UInt8}(h:spB c=true):bsrR[c.toNat]? =some (.d (.sl 1 (bytesOf ⟨#[92,c]⟩))):=by
 unfold spB at h
 simp only[Bool.or_eq_true,decide_eq_true_eq] at h
 rcases h with rfl|rfl
 ·rfl
 ·rfl
def byR (l:List UInt8):List (List D):=l.map fun c=>[D.v (.int .u8 (c.toNat:Int))]
theorem byR_app (l m:List UInt8):byR (l++m)=byR l++byR m:=by simp[byR]
theorem byR_len (l:List UInt8):(byR l).length=l.length:=by simp[byR]
theorem fill {α:Type}(A B:List α)(z:α)(m:Nat)(h:B.length≤m):setAll (A++List.replicate m z) A.length B=A++B++List.replicate (m - B.length) z:=by
 rw[←setAll_splice B (A++List.replicate m z) A.length (by simp;omega)]
 rw[List.take_left,List.drop_append]
 simp
abbrev obR :List Ob:=[.pv (replR 1 0 (.ifc tBSR (.lp 1 0)) (.d (.nl 1))),.pv bsrR]
theorem byte_at {s:ByteArray}{i:Nat}(h:i<s.data.toList.length):byteAt s i=((s.data.toList[i]).toNat:Int):=by
 unfold byteAt
 rw[List.getD_eq_getElem?_getD,List.getElem?_eq_getElem h,Option.getD_some]
theorem strB_go (l:List UInt8): ∀r:ByteArray,(l.map fun c=>(c.toNat:Int)).foldl (fun r n=>r.push (UInt8.ofNat n.toNat)) r=⟨(r.data.toList++l).toArray⟩:=by
 induction l with
 |nil=>intro r;cases r;simp
 |cons c l ih=>
  intro r
  rw[List.map_cons,List.foldl_cons,ih]
  cases r
  simp[ByteArray.push]
theorem strB_bytes (l:List UInt8):strB (l.map fun c=>(c.toNat:Int))=⟨l.toArray⟩:=by
 unfold strB
 rw[strB_go]
 rfl
theorem byR_rows (l:List UInt8):byR l=(l.map fun c=>(c.toNat:Int)).map byteRow:=by
 unfold byR
 rw[List.map_map]
 rfl
theorem bsr_fn (s:ByteArray)(hs:s.size≤1048576):FunQ env.P 258 [.lp 1 0,.d (dS s)] obR (just (.d (dS (escS s))) obR):=by
 have c92:=Count_fn s 92
 have c34:=Count_fn s 34
 have hct:=escL_count s.data.toList
 have hall:=eN_all s
 have hge:=eN_ge s s.size (Nat.le_refl _)
 have hsz:s.data.toList.length=s.size:=rfl
 have hrl:([[dS ⟨#[92]⟩],[dS ⟨#[34]⟩]]:List (List D)).length=2:=rfl
 refine FunQ.intro Tryz.func258 rfl (by kernel_rfl) rfl ?_
 by_cases hroute:16≤s.size
 ·generalize hm92:s.data.toList.count 92=m92 at*
  generalize hm34:s.data.toList.count 34=m34 at*
  repeat'(first|refine Z1 ?_|((refine SP (fun h=>?_) fun h=>?_)<;>(try(exfalso;first|contradiction|omega))))
  all_goals first|(exfalso;omega)|skip
  refine W.loop (fun m S=> ∃(a:Int) (b:Bool),(m=2∧(a=(s.size:Int)∧b=false)∧S=⟨ofL [(0,.lp 1 0),(1,vS s),(5,vI .i64 a),(6,.d (dB b)),(30,.d (.sl 1 [[dS ⟨#[92]⟩],[dS ⟨#[34]⟩]])),(31,vI .i64 2),(32,vI .i64 0)],obR⟩)∨(m=1∧(a=(s.size:Int)+m92∧b=decide (0<m92))∧S=⟨ofL [(0,.lp 1 0),(1,vS s),(5,vI .i64 a),(6,.d (dB b)),(30,.d (.sl 1 [[dS ⟨#[92]⟩],[dS ⟨#[34]⟩]])),(31,vI .i64 2),(32,vI .i64 1)],obR⟩)∨(m=0∧(a=(s.size:Int)+m92+m34∧b=decide (0<m92+m34))∧S=⟨ofL [(0,.lp 1 0),(1,vS s),(5,vI .i64 a),(6,.d (dB b)),(30,.d (.sl 1 [[dS ⟨#[92]⟩],[dS ⟨#[34]⟩]])),(31,vI .i64 2),(32,vI .i64 2)],obR⟩)) _ _ ⟨(s.size:Int),false,.inl ⟨rfl,⟨rfl,rfl⟩,rfl⟩⟩ lE ?_
  rintro m S ⟨a,b,(⟨rfl,⟨ha,hb⟩,rfl⟩|⟨rfl,⟨ha,hb⟩,rfl⟩|⟨rfl,⟨ha,hb⟩,rfl⟩)⟩
  ·have hl2:(bytesOf ⟨#[92,92]⟩).length=2:=rfl
   have hmv:((m92:Nat):Int)*(((bytesOf ⟨#[92,92]⟩).length:Int) - 1)=(m92:Nat):=by rw[hl2];omega
   have hmu:inRange .i64 (((m92:Nat):Int)*(((bytesOf ⟨#[92,92]⟩).length:Int) - 1)):=by rw[hmv];simp only[inRange];omega
   repeat'(first|refine WG.ixR (E:=env) rfl rfl rfl rfl rfl rfl rfl ⟨by decide,by decide⟩ rfl ?_|refine W.dre' (id:=9) [] (fun f=>obR) [(0,[0]),(0,[0]),(0,[0]),(0,[0]),(0,[0]),(0,[0]),(0,[0]),(0,[0]),(0,[0]),(0,[0]),(0,[0]),(0,[0]),(0,[0]),(0,[0])] obR ?_|(refine WE.mkd (.lp 1 (0+92)) ?_ ?_;rotate_left;exact .c (OpS1.ixArr (E:=env) (n:=256) (e:=22) (k:=.u8) (i:=92) rfl rfl (by kernel_rfl) rfl rfl rfl rfl ⟨by decide,by decide⟩) .n)|(refine WE.mkd (.d (.sl 1 (bytesOf ⟨#[92,92]⟩))) ?_ ?_;rotate_left;exact .c (OpS1.ldA (E:=env) rfl rfl rfl rfl rfl rfl rfl) .n)|(refine WE.mkd (.d (.v (.int .u8 92))) ?_ ?_;rotate_left;exact .c (OpS1.s (E:=env) rfl rfl rfl (by decide)) .n)|refine Z2 ?_|refine Z1 ?_|refine WG.c (E:=env) rfl rfl (c92) rfl rfl ?_|((refine SP (fun h=>?_) fun h=>?_)<;>(try(exfalso;first|contradiction|omega))))
   all_goals first
    |exact⟨_,_,by omega,⟨a+((m92:Nat):Int)*(((bytesOf ⟨#[92,92]⟩).length:Int) - 1),true,.inr (.inl ⟨rfl,⟨by omega,by first|(simp;omega)|(rw[hb];exact decide_eq_decide.2 (by omega))|(rw[hb];simp;omega)⟩,rfl⟩)⟩,lE⟩
    |exact⟨_,_,by omega,⟨a,b,.inr (.inl ⟨rfl,⟨by omega,by first|(simp;omega)|(rw[hb];exact decide_eq_decide.2 (by omega))|(rw[hb];simp;omega)⟩,rfl⟩)⟩,lE⟩
  ·have hl2:(bytesOf ⟨#[92,34]⟩).length=2:=rfl
   have hmv:((m34:Nat):Int)*(((bytesOf ⟨#[92,34]⟩).length:Int) - 1)=(m34:Nat):=by rw[hl2];omega
   have hmu:inRange .i64 (((m34:Nat):Int)*(((bytesOf ⟨#[92,34]⟩).length:Int) - 1)):=by rw[hmv];simp only[inRange];omega
   repeat'(first|refine WG.ixR (E:=env) rfl rfl rfl rfl rfl rfl rfl ⟨by decide,by decide⟩ rfl ?_|refine W.dre' (id:=9) [] (fun f=>obR) [(0,[0]),(0,[0]),(0,[0]),(0,[0]),(0,[0]),(0,[0]),(0,[0]),(0,[0]),(0,[0]),(0,[0]),(0,[0]),(0,[0]),(0,[0]),(0,[0])] obR ?_|(refine WE.mkd (.lp 1 (0+34)) ?_ ?_;rotate_left;exact .c (OpS1.ixArr (E:=env) (n:=256) (e:=22) (k:=.u8) (i:=34) rfl rfl (by kernel_rfl) rfl rfl rfl rfl ⟨by decide,by decide⟩) .n)|(refine WE.mkd (.d (.sl 1 (bytesOf ⟨#[92,34]⟩))) ?_ ?_;rotate_left;exact .c (OpS1.ldA (E:=env) rfl rfl rfl rfl rfl rfl rfl) .n)|(refine WE.mkd (.d (.v (.int .u8 34))) ?_ ?_;rotate_left;exact .c (OpS1.s (E:=env) rfl rfl rfl (by decide)) .n)|refine Z2 ?_|refine Z1 ?_|refine WG.c (E:=env) rfl rfl (c34) rfl rfl ?_|((refine SP (fun h=>?_) fun h=>?_)<;>(try(exfalso;first|contradiction|omega))))
   all_goals first
    |exact⟨_,_,by omega,⟨a+((m34:Nat):Int)*(((bytesOf ⟨#[92,34]⟩).length:Int) - 1),true,.inr (.inr ⟨rfl,⟨by omega,by first|(simp;omega)|(rw[hb];exact decide_eq_decide.2 (by omega))|(rw[hb];simp;omega)⟩,rfl⟩)⟩,lE⟩
    |exact⟨_,_,by omega,⟨a,b,.inr (.inr ⟨rfl,⟨by omega,by first|(simp;omega)|(rw[hb];exact decide_eq_decide.2 (by omega))|(rw[hb];simp;omega)⟩,rfl⟩)⟩,lE⟩
  ·by_cases hpl:eN s s.size=s.size
   ·have hes:escS s=s:=by
     unfold escS
     rw[escL_plain _ (by rw[←hall,hpl];rfl)]
    rw[hes]
    rw[show decide (0<m92+m34)=false by simp;omega] at hb
    subst hb
    repeat'(first|refine Z1 ?_|((refine SP (fun h=>?_) fun h=>?_)<;>(try(exfalso;first|contradiction|omega))))
    refine W.ret ?_
    exact RetR.own (t:=.d (dS s)) (ob':=obR) ⟨[0,1],[0,0],2⟩ (.inl rfl) rfl rO rfl rfl rfl rfl rfl rfl ⟨rfl,rfl,trivial⟩ rfl ⟨rfl,rfl⟩
   ·rw[show decide (0<m92+m34)=true by simp;omega] at hb
    subst hb
    obtain rfl:a=((eN s s.size:Nat):Int):=by omega
    repeat'(first|refine WG.mk (E:=env) (K:=2) rfl rfl rfl rfl rfl rfl rfl rfl rfl rfl rfl ⟨by omega,by omega,by(show(1:Int)*((eN s s.size:Nat):Int)≤281474976710656);omega⟩ ?_|refine Z1 ?_|fail|((refine SP (fun h=>?_) fun h=>?_)<;>(try(exfalso;first|contradiction|omega))))
    refine W.loop (fun m S=> ∃(i:Nat) (jv:Int) (rv:List (List D)),m=s.size - i∧(i≤s.size∧jv=((eN s i:Nat):Int)∧rv=byR (escL (s.data.toList.take i))++List.replicate (eN s s.size - eN s i) [D.v (.int .u8 0)])∧
     S=⟨ofL [(0,.lp 1 0),(1,vS s),(12,.og 2 0),(13,vI .i64 jv),(14,vI .i64 i)],obR++[.gr 1 5 rv 0 false]⟩) _ _ ⟨0,0,List.replicate (eN s s.size) [D.v (.int .u8 0)],rfl,⟨by omega,by simp[eN_zero],by simp[eN_zero,escL,byR]⟩,rfl⟩ lE ?_
    rintro m S ⟨i,jv,rv,rfl,⟨hi,hjv,hrv⟩,rfl⟩
    have hrl2:rv.length=eN s s.size:=by
     have:=eN_mono s s.size hi (Nat.le_refl _)
     rw[hrv,List.length_append,byR_len,List.length_replicate]
     show eN s i+_=_
     omega
    by_cases hlt:i<s.size
    ·have hst:=eN_step (s:=s) (k:=i) hlt
     have hes:=escL_step (l:=s.data.toList) (k:=i) hlt
     have hmo:=eN_mono s (k:=i+1) s.size (by omega) (Nat.le_refl _)
     have hby:byteAt s (Int.toNat (i:Int))=((s.data.toList[i]'hlt).toNat:Int):=byte_at hlt
     have hbr:0≤byteAt s (Int.toNat (i:Int))∧byteAt s (Int.toNat (i:Int))<(256:Nat):=by have:=byteAt_range s (Int.toNat (i:Int));omega
     generalize s.data.toList[i]'hlt=c at*
     have hix:0+(byteAt s (Int.toNat (i:Int))).toNat=c.toNat:=by rw[hby];simp
     have hjb:0≤jv∧jv<rv.length:=by omega
     have hjn:Int.toNat jv=(byR (escL (s.data.toList.take i))).length:=by rw[byR_len,hjv];rfl
     have hfill: ∀B:List (List D),B.length≤eN s s.size - eN s i→setAll rv (Int.toNat jv) B=byR (escL (s.data.toList.take i))++B++List.replicate (eN s s.size - eN s i - B.length) [D.v (.int .u8 0)]:=by
      intro B hB
      rw[hrv,hjn]
      exact fill _ _ _ _ hB
     cases hsp:spB c with
     |true=>
      have hcell:bsrR[(0+(byteAt s (Int.toNat (i:Int))).toNat)]? =some (.d (.sl 1 (bytesOf ⟨#[92,c]⟩))):=by rw[hix];exact bsr_sp hsp
      have hl2:(bytesOf ⟨#[92,c]⟩).length=2:=rfl
      have hl0:0<(bytesOf ⟨#[92,c]⟩).length:=by rw[hl2];decide
      rw[hsp] at hst
      simp only[if_true] at hst
      have hfit:Int.toNat jv+(bytesOf ⟨#[92,c]⟩).length≤rv.length:=by omega
      repeat'(first|refine WG.ixArr (E:=env) (n:=256) (e:=22) rfl rfl (by kernel_rfl) rfl rfl rfl rfl hbr ?_|refine WG.ldA (E:=env) rfl rfl rfl rfl rfl rfl hcell ?_|refine WG.neNil (E:=env) rfl rfl rfl rfl ?_|refine WG.neSl (E:=env) rfl rfl rfl rfl rfl ?_|refine W.dre' (id:=28) [10] (fun f=>bif bt f 1 then(obR++[.gr 1 5 (setAll rv (Int.toNat jv) (bytesOf ⟨#[92,c]⟩)) 0 false]) else(obR++[.gr 1 5 rv 0 false])) [(0,[0,1]),(0,[0]),(0,[0]),(0,[0]),(0,[0]),(0,[0]),(0,[0]),(0,[0]),(0,[0]),(0,[0]),(1,[0]),(0,[1]),(0,[1])] (obR++[.gr 1 5 (setAll rv (Int.toNat jv) (bytesOf ⟨#[92,c]⟩)) 0 false]) ?_|(refine WE.mkd (.os 2 0 (Int.toNat jv)) ?_ ?_;rotate_left;exact .c (OpS1.slO (E:=env) (kl:=.i64) (li:=jv) rfl rfl rfl rfl rfl rfl rfl rfl hjb) .n)|(refine WE.mkd (.lp 1 (0+(byteAt s (Int.toNat (i:Int))).toNat)) ?_ ?_;rotate_left;exact .c (OpS1.ixArr (E:=env) (n:=256) (e:=22) (k:=.u8) (i:=byteAt s (Int.toNat (i:Int))) rfl rfl (by kernel_rfl) rfl rfl rfl rfl hbr) .n)|(refine WE.mkd (.d (.sl 1 (bytesOf ⟨#[92,c]⟩))) ?_ ?_;rotate_left;exact .c (OpS1.ldA (E:=env) rfl rfl rfl rfl rfl rfl hcell) .n)|(refine WE.mkd (vI .i64 (bytesOf ⟨#[92,c]⟩).length) ?_ ?_;rotate_left;exact .c (OpS1.cpO (E:=env) rfl rfl rfl rfl rfl rfl rfl rfl hfit hl0 rfl) .n)|refine Z2 ?_|refine Z1 ?_|fail|((refine SP (fun h=>?_) fun h=>?_)<;>(try(exfalso;first|contradiction|omega))))
      refine⟨_,_,by omega,⟨i+1,jv+((bytesOf ⟨#[92,c]⟩).length:Int),setAll rv (Int.toNat jv) (bytesOf ⟨#[92,c]⟩),rfl,⟨by omega,by rw[hl2];omega,?_⟩,rfl⟩,lE⟩
      rw[hfill _ (by omega),hes,byR_app,show escC c=[92,c] by unfold escC;rw[hsp];rfl,show eN s s.size - eN s (i+1)=eN s s.size - eN s i - (bytesOf ⟨#[92,c]⟩).length by rw[hl2];omega]
      rfl
     |false=>
      have hcell:bsrR[(0+(byteAt s (Int.toNat (i:Int))).toNat)]? =some (.d (.nl 1)):=by rw[hix];exact bsr_plain hsp
      rw[hsp] at hst
      simp only[Bool.false_eq_true,if_false] at hst
      have hlj:Int.toNat jv<rv.length:=by omega
      have hri:rv[Int.toNat jv]? =some [D.v (.int .u8 0)]:=by
       rw[hrv,hjn,List.getElem?_append_right (Nat.le_refl _),Nat.sub_self,List.getElem?_replicate,if_pos (by omega)]
      repeat'(first|refine WG.ixArr (E:=env) (n:=256) (e:=22) rfl rfl (by kernel_rfl) rfl rfl rfl rfl hbr ?_|refine WG.ldA (E:=env) rfl rfl rfl rfl rfl rfl hcell ?_|refine WG.neNil (E:=env) rfl rfl rfl rfl ?_|refine WG.neSl (E:=env) rfl rfl rfl rfl rfl ?_|refine WG.ixo (E:=env) rfl rfl rfl rfl rfl rfl rfl rfl hjb ?_|refine WG.stE (E:=env) rfl rfl rfl rfl hri rfl rfl rfl rfl ?_|refine Z1 ?_|fail|((refine SP (fun h=>?_) fun h=>?_)<;>(try(exfalso;first|contradiction|omega))))
      refine⟨_,_,by omega,⟨i+1,jv+1,setAll rv (Int.toNat jv) (byR [c]),rfl,⟨by omega,by omega,?_⟩,rfl⟩,?_⟩
      ·rw[hfill _ (by show 1≤_;omega),hes,byR_app,show escC c=[c] by unfold escC;rw[hsp];rfl,show eN s s.size - eN s (i+1)=eN s s.size - eN s i - (byR [c]).length by show _=_ - 1;omega]
      ·rw[hby]
       exact lE
    ·obtain rfl:i=s.size:=by omega
     have hrv2:rv=((escL s.data.toList).map fun c=>(c.toNat:Int)).map byteRow:=by
      rw[hrv,Nat.sub_self,List.replicate_zero,List.append_nil,show s.data.toList.take s.size=s.data.toList from List.take_length,byR_rows]
     clear hrv
     subst hrv2
     repeat'(first|refine WG.b2s (E:=env) (ns:=(escL s.data.toList).map fun c=>(c.toNat:Int)) rfl rfl rfl rfl rfl rfl ?_|refine Z1 ?_|fail|((refine SP (fun h=>?_) fun h=>?_)<;>(try(exfalso;first|contradiction|omega))))
     rw[strB_bytes]
     refine W.ret ?_
     exact RetR.own (t:=.d (dS (escS s))) (ob':=obR) ⟨[0,1],[0,0],3⟩ (.inl rfl) rfl rO rfl rfl rfl rfl rfl rfl ⟨rfl,rfl,trivial⟩ rfl ⟨rfl,rfl⟩
 ·repeat'(first|refine Z1 ?_|((refine SP (fun h=>?_) fun h=>?_)<;>(try(exfalso;first|contradiction|omega))))
  all_goals first|(exfalso;omega)|skip
  refine W.loop (fun m S=> ∃(i:Nat) (a:Int) (b:Bool),m=s.size - i∧(i≤s.size∧a=(s.size:Int)+((eN s i:Int) - i)∧b=decide (i<eN s i))∧S=⟨ofL [(0,.lp 1 0),(1,vS s),(5,vI .i64 a),(6,.d (dB b)),(10,vI .i64 i)],obR⟩) _ _ ⟨0,(s.size:Int),false,rfl,⟨by omega,by simp[eN_zero],by simp[eN_zero]⟩,rfl⟩ lE ?_
  rintro m S ⟨i,a,b,rfl,⟨hi,ha,hb⟩,rfl⟩
  have hgi:=eN_ge s i hi
  by_cases hlt:i<s.size
  ·have hst:=eN_step (s:=s) (k:=i) hlt
   have hby:byteAt s (Int.toNat (i:Int))=((s.data.toList[i]'hlt).toNat:Int):=byte_at hlt
   have hbr:0≤byteAt s (Int.toNat (i:Int))∧byteAt s (Int.toNat (i:Int))<(256:Nat):=by have:=byteAt_range s (Int.toNat (i:Int));omega
   generalize s.data.toList[i]'hlt=c at*
   have hix:0+(byteAt s (Int.toNat (i:Int))).toNat=c.toNat:=by rw[hby];simp
   cases hsp:spB c with
   |true=>
    have hcell:bsrR[(0+(byteAt s (Int.toNat (i:Int))).toNat)]? =some (.d (.sl 1 (bytesOf ⟨#[92,c]⟩))):=by rw[hix];exact bsr_sp hsp
    have hl2:(bytesOf ⟨#[92,c]⟩).length=2:=rfl
    rw[hsp] at hst
    repeat'(first|refine WG.ixArr (E:=env) (n:=256) (e:=22) rfl rfl (by kernel_rfl) rfl rfl rfl rfl hbr ?_|refine WG.ldA (E:=env) rfl rfl rfl rfl rfl rfl hcell ?_|refine WG.neNil (E:=env) rfl rfl rfl rfl ?_|refine WG.neSl (E:=env) rfl rfl rfl rfl rfl ?_|refine Z1 ?_|fail|((refine SP (fun h=>?_) fun h=>?_)<;>(try(exfalso;first|contradiction|omega))))
    simp only[if_true] at hst
    all_goals first
     |(exfalso;omega)
     |exact⟨_,_,by omega,⟨i+1,a+(((bytesOf ⟨#[92,c]⟩).length:Int) - 1),true,rfl,⟨by omega,by omega,by simp;omega⟩,rfl⟩,lE⟩
   |false=>
    have hcell:bsrR[(0+(byteAt s (Int.toNat (i:Int))).toNat)]? =some (.d (.nl 1)):=by rw[hix];exact bsr_plain hsp
    rw[hsp] at hst
    repeat'(first|refine WG.ixArr (E:=env) (n:=256) (e:=22) rfl rfl (by kernel_rfl) rfl rfl rfl rfl hbr ?_|refine WG.ldA (E:=env) rfl rfl rfl rfl rfl rfl hcell ?_|refine WG.neNil (E:=env) rfl rfl rfl rfl ?_|refine WG.neSl (E:=env) rfl rfl rfl rfl rfl ?_|refine Z1 ?_|fail|((refine SP (fun h=>?_) fun h=>?_)<;>(try(exfalso;first|contradiction|omega))))
    simp only[Bool.false_eq_true,if_false] at hst
    all_goals first
     |(exfalso;omega)
     |exact⟨_,_,by omega,⟨i+1,a,b,rfl,⟨by omega,by omega,by rw[hb];exact decide_eq_decide.2 (by omega)⟩,rfl⟩,lE⟩
  ·obtain rfl:i=s.size:=by omega
   by_cases hpl:eN s s.size=s.size
   ·have hes:escS s=s:=by
     unfold escS
     rw[escL_plain _ (by rw[←hall,hpl];rfl)]
    rw[hes]
    rw[show decide (s.size<eN s s.size)=false by simp;omega] at hb
    subst hb
    repeat'(first|refine Z1 ?_|((refine SP (fun h=>?_) fun h=>?_)<;>(try(exfalso;first|contradiction|omega))))
    refine W.ret ?_
    exact RetR.own (t:=.d (dS s)) (ob':=obR) ⟨[0,1],[0,0],2⟩ (.inl rfl) rfl rO rfl rfl rfl rfl rfl rfl ⟨rfl,rfl,trivial⟩ rfl ⟨rfl,rfl⟩
   ·rw[show decide (s.size<eN s s.size)=true by simp;omega] at hb
    subst hb
    obtain rfl:a=((eN s s.size:Nat):Int):=by omega
    repeat'(first|refine WG.mk (E:=env) (K:=2) rfl rfl rfl rfl rfl rfl rfl rfl rfl rfl rfl ⟨by omega,by omega,by(show(1:Int)*((eN s s.size:Nat):Int)≤281474976710656);omega⟩ ?_|refine Z1 ?_|fail|((refine SP (fun h=>?_) fun h=>?_)<;>(try(exfalso;first|contradiction|omega))))
    refine W.loop (fun m S=> ∃(i:Nat) (jv:Int) (rv:List (List D)),m=s.size - i∧(i≤s.size∧jv=((eN s i:Nat):Int)∧rv=byR (escL (s.data.toList.take i))++List.replicate (eN s s.size - eN s i) [D.v (.int .u8 0)])∧
     S=⟨ofL [(0,.lp 1 0),(1,vS s),(12,.og 2 0),(13,vI .i64 jv),(14,vI .i64 i)],obR++[.gr 1 5 rv 0 false]⟩) _ _ ⟨0,0,List.replicate (eN s s.size) [D.v (.int .u8 0)],rfl,⟨by omega,by simp[eN_zero],by simp[eN_zero,escL,byR]⟩,rfl⟩ lE ?_
    rintro m S ⟨i,jv,rv,rfl,⟨hi,hjv,hrv⟩,rfl⟩
    have hrl2:rv.length=eN s s.size:=by
     have:=eN_mono s s.size hi (Nat.le_refl _)
     rw[hrv,List.length_append,byR_len,List.length_replicate]
     show eN s i+_=_
     omega
    by_cases hlt:i<s.size
    ·have hst:=eN_step (s:=s) (k:=i) hlt
     have hes:=escL_step (l:=s.data.toList) (k:=i) hlt
     have hmo:=eN_mono s (k:=i+1) s.size (by omega) (Nat.le_refl _)
     have hby:byteAt s (Int.toNat (i:Int))=((s.data.toList[i]'hlt).toNat:Int):=byte_at hlt
     have hbr:0≤byteAt s (Int.toNat (i:Int))∧byteAt s (Int.toNat (i:Int))<(256:Nat):=by have:=byteAt_range s (Int.toNat (i:Int));omega
     generalize s.data.toList[i]'hlt=c at*
     have hix:0+(byteAt s (Int.toNat (i:Int))).toNat=c.toNat:=by rw[hby];simp
     have hjb:0≤jv∧jv<rv.length:=by omega
     have hjn:Int.toNat jv=(byR (escL (s.data.toList.take i))).length:=by rw[byR_len,hjv];rfl
     have hfill: ∀B:List (List D),B.length≤eN s s.size - eN s i→setAll rv (Int.toNat jv) B=byR (escL (s.data.toList.take i))++B++List.replicate (eN s s.size - eN s i - B.length) [D.v (.int .u8 0)]:=by
      intro B hB
      rw[hrv,hjn]
      exact fill _ _ _ _ hB
     cases hsp:spB c with
     |true=>
      have hcell:bsrR[(0+(byteAt s (Int.toNat (i:Int))).toNat)]? =some (.d (.sl 1 (bytesOf ⟨#[92,c]⟩))):=by rw[hix];exact bsr_sp hsp
      have hl2:(bytesOf ⟨#[92,c]⟩).length=2:=rfl
      have hl0:0<(bytesOf ⟨#[92,c]⟩).length:=by rw[hl2];decide
      rw[hsp] at hst
      simp only[if_true] at hst
      have hfit:Int.toNat jv+(bytesOf ⟨#[92,c]⟩).length≤rv.length:=by omega
      repeat'(first|refine WG.ixArr (E:=env) (n:=256) (e:=22) rfl rfl (by kernel_rfl) rfl rfl rfl rfl hbr ?_|refine WG.ldA (E:=env) rfl rfl rfl rfl rfl rfl hcell ?_|refine WG.neNil (E:=env) rfl rfl rfl rfl ?_|refine WG.neSl (E:=env) rfl rfl rfl rfl rfl ?_|refine W.dre' (id:=28) [10] (fun f=>bif bt f 1 then(obR++[.gr 1 5 (setAll rv (Int.toNat jv) (bytesOf ⟨#[92,c]⟩)) 0 false]) else(obR++[.gr 1 5 rv 0 false])) [(0,[0,1]),(0,[0]),(0,[0]),(0,[0]),(0,[0]),(0,[0]),(0,[0]),(0,[0]),(0,[0]),(0,[0]),(1,[0]),(0,[1]),(0,[1])] (obR++[.gr 1 5 (setAll rv (Int.toNat jv) (bytesOf ⟨#[92,c]⟩)) 0 false]) ?_|(refine WE.mkd (.os 2 0 (Int.toNat jv)) ?_ ?_;rotate_left;exact .c (OpS1.slO (E:=env) (kl:=.i64) (li:=jv) rfl rfl rfl rfl rfl rfl rfl rfl hjb) .n)|(refine WE.mkd (.lp 1 (0+(byteAt s (Int.toNat (i:Int))).toNat)) ?_ ?_;rotate_left;exact .c (OpS1.ixArr (E:=env) (n:=256) (e:=22) (k:=.u8) (i:=byteAt s (Int.toNat (i:Int))) rfl rfl (by kernel_rfl) rfl rfl rfl rfl hbr) .n)|(refine WE.mkd (.d (.sl 1 (bytesOf ⟨#[92,c]⟩))) ?_ ?_;rotate_left;exact .c (OpS1.ldA (E:=env) rfl rfl rfl rfl rfl rfl hcell) .n)|(refine WE.mkd (vI .i64 (bytesOf ⟨#[92,c]⟩).length) ?_ ?_;rotate_left;exact .c (OpS1.cpO (E:=env) rfl rfl rfl rfl rfl rfl rfl rfl hfit hl0 rfl) .n)|refine Z2 ?_|refine Z1 ?_|fail|((refine SP (fun h=>?_) fun h=>?_)<;>(try(exfalso;first|contradiction|omega))))
      refine⟨_,_,by omega,⟨i+1,jv+((bytesOf ⟨#[92,c]⟩).length:Int),setAll rv (Int.toNat jv) (bytesOf ⟨#[92,c]⟩),rfl,⟨by omega,by rw[hl2];omega,?_⟩,rfl⟩,lE⟩
      rw[hfill _ (by omega),hes,byR_app,show escC c=[92,c] by unfold escC;rw[hsp];rfl,show eN s s.size - eN s (i+1)=eN s s.size - eN s i - (bytesOf ⟨#[92,c]⟩).length by rw[hl2];omega]
      rfl
     |false=>
      have hcell:bsrR[(0+(byteAt s (Int.toNat (i:Int))).toNat)]? =some (.d (.nl 1)):=by rw[hix];exact bsr_plain hsp
      rw[hsp] at hst
      simp only[Bool.false_eq_true,if_false] at hst
      have hlj:Int.toNat jv<rv.length:=by omega
      have hri:rv[Int.toNat jv]? =some [D.v (.int .u8 0)]:=by
       rw[hrv,hjn,List.getElem?_append_right (Nat.le_refl _),Nat.sub_self,List.getElem?_replicate,if_pos (by omega)]
      repeat'(first|refine WG.ixArr (E:=env) (n:=256) (e:=22) rfl rfl (by kernel_rfl) rfl rfl rfl rfl hbr ?_|refine WG.ldA (E:=env) rfl rfl rfl rfl rfl rfl hcell ?_|refine WG.neNil (E:=env) rfl rfl rfl rfl ?_|refine WG.neSl (E:=env) rfl rfl rfl rfl rfl ?_|refine WG.ixo (E:=env) rfl rfl rfl rfl rfl rfl rfl rfl hjb ?_|refine WG.stE (E:=env) rfl rfl rfl rfl hri rfl rfl rfl rfl ?_|refine Z1 ?_|fail|((refine SP (fun h=>?_) fun h=>?_)<;>(try(exfalso;first|contradiction|omega))))
      refine⟨_,_,by omega,⟨i+1,jv+1,setAll rv (Int.toNat jv) (byR [c]),rfl,⟨by omega,by omega,?_⟩,rfl⟩,?_⟩
      ·rw[hfill _ (by show 1≤_;omega),hes,byR_app,show escC c=[c] by unfold escC;rw[hsp];rfl,show eN s s.size - eN s (i+1)=eN s s.size - eN s i - (byR [c]).length by show _=_ - 1;omega]
      ·rw[hby]
       exact lE
    ·obtain rfl:i=s.size:=by omega
     have hrv2:rv=((escL s.data.toList).map fun c=>(c.toNat:Int)).map byteRow:=by
      rw[hrv,Nat.sub_self,List.replicate_zero,List.append_nil,show s.data.toList.take s.size=s.data.toList from List.take_length,byR_rows]
     clear hrv
     subst hrv2
     repeat'(first|refine WG.b2s (E:=env) (ns:=(escL s.data.toList).map fun c=>(c.toNat:Int)) rfl rfl rfl rfl rfl rfl ?_|refine Z1 ?_|fail|((refine SP (fun h=>?_) fun h=>?_)<;>(try(exfalso;first|contradiction|omega))))
     rw[strB_bytes]
     refine W.ret ?_
     exact RetR.own (t:=.d (dS (escS s))) (ob':=obR) ⟨[0,1],[0,0],3⟩ (.inl rfl) rfl rO rfl rfl rfl rfl rfl rfl ⟨rfl,rfl,trivial⟩ rfl ⟨rfl,rfl⟩
end Go.Proofs.YtmmjbpgdkokjgaaGreatDoor
