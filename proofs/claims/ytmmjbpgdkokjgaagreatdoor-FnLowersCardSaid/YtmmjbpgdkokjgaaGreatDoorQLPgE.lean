/-
  A text of this claim. Conditions: none.
-/
import Derived.Test.YtmmjbpgdkokjgaaGreatDoorQLPgD
import Derived.Lib.LazyBuf
set_option linter.unusedVariables false
set_option linter.unusedSimpArgs false
set_option maxRecDepth 100000
set_option maxHeartbeats 16000000
namespace Go.Proofs.YtmmjbpgdkokjgaaGreatDoor
open Go.RowKit
def OpS1 (P:Program)(N:Nm)(ops:List Oper)(o:Oper)(tm:Nat→T)(t:T)(ob ob':List Ob):Prop:=
 ∀tm':Nat→T,(∀s∈o.looksAt ops.toArray,tm' s=tm s)→ ∀(l:List Oper) (Q:Exit→St→Prop),WL P N ops l Q ⟨updO tm' o.dst t,ob'⟩→WL P N ops (o::l) Q ⟨tm',ob⟩
def bt (f k:Nat):Bool:=f / k % 2==1
theorem AllF.n {p:Nat→Prop}:AllF [] p:=trivial
theorem AllF.c {p:Nat→Prop}{f:Nat}{r:List Nat}(h:p f)(k:AllF r p):AllF (f::r) p:=⟨h,k⟩
section
variable {P:Program}{E:Env}{N:Nm}{K:(Nat→T)→Prop}{tm tm':Nat→T}{ob ob':List Ob}{ops l:List Oper}{o:Oper}{op:Op}{ty:TypeId}{pos:String}{after:Array Edge}{gd:Option (Nat×Bool)}{d w:Nat}{dst:Option Nat}{ps:List (Nat×List Nat)}{p:List Nat}{obF:Nat→List Ob}
theorem WE.mk (t:T)(h:AllF p fun f=>OpS1 P N ops o tm t (obF f) (obF (f+w)))(k:WE P N ops obF K ps l (updO tm o.dst t)):WE P N ops obF K ((w,p)::ps) (o::l) tm:=
 .cons t (fun f hf=>h.at f hf) k
theorem WE.mkd (t:T)(k:WE P N ops obF K ps l (upd tm d t))(h:AllF p fun f=>OpS1 P N ops ⟨some d,op,ty,pos,after,gd⟩ tm t (obF f) (obF (f+w))):WE P N ops obF K ((w,p)::ps) (⟨some d,op,ty,pos,after,gd⟩::l) tm:=
 .mk t h k
theorem WE.sp {q:Oper}{j:Nat}{b c:Bool}(hg:o.guard=some (j,b))(hp:ops[j]? =some q)(hd:q.dst=some d)(hc:tm d=.d (.v (.bool c)))
 (ht:c=true→WE P N ops obF K ps (o::l) (upd tm d (.d (.v (.bool true))))) (hf:c=false→WE P N ops obF K ps (o::l) (upd tm d (.d (.v (.bool false))))):
 WE P N ops obF K ps (o::l) tm:=by
 cases c with
 |true=>have:=ht rfl;rwa [←hc,upd_self] at this
 |false=>have:=hf rfl;rwa [←hc,upd_self] at this
theorem OpS1.s {p:Prop}{t:T}(hw:St.want ⟨tm,ob⟩ ops ⟨some d,op,ty,pos,after,gd⟩=some true)(hd:Nat.blt d N.n=true)(h:ev1 E ⟨tm,ob⟩ op ty=some (p,t))(hp:p):
 OpS1 E.P N ops ⟨some d,op,ty,pos,after,gd⟩ tm t ob ob:=fun tm' hag l Q k'=>WL.simple (S:=⟨tm',ob⟩) (by rw[want_agree hag];exact hw) hd (by rw[ev1_agree (S:=⟨tm,ob⟩) (S':=⟨tm',ob⟩) rfl fun x hx=>ev_agree hag hx];exact h) hp k'
theorem OpS1.pass (hw:St.want ⟨tm,ob⟩ ops ⟨some d,op,ty,pos,after,gd⟩=some false)(hd:Nat.blt d N.n=true):
 OpS1 P N ops ⟨some d,op,ty,pos,after,gd⟩ tm (.d (.v undef)) ob ob:=fun tm' hag l Q k'=>WL.pass (S:=⟨tm',ob⟩) (by rw[want_agree hag];exact hw) hd k'
theorem OpS1.px (hw:St.want ⟨tm,ob⟩ ops ⟨none,op,ty,pos,after,gd⟩=some false):
 OpS1 P N ops ⟨none,op,ty,pos,after,gd⟩ tm .any ob ob:=fun tm' hag l Q k'=>WL.passx (S:=⟨tm',ob⟩) (by rw[want_agree hag];exact hw) k'
theorem OpS1.ix {t e:TypeId}{x ix:Operand}{z:Nat}{rows:List (List D)}{k:IntKind}{i:Int}{r:List D}(hw:St.want ⟨tm,ob⟩ ops ⟨some d,.indexAddr t x ix,ty,pos,after,gd⟩=some true)(hd:Nat.blt d N.n=true)
 (ht:(E.ty t).kind=.slice e) (he:(E.ty e).known=true) (hz:(E.ty e).size=z) (hx:norm ob (St.ev ⟨tm,ob⟩ x)=.d (.sl z rows)) (hi:St.ev ⟨tm,ob⟩ ix=.d (.v (.int k i)))
 (hb:0≤i∧i<rows.length) (hr:rows[i.toNat]? =some r):
 OpS1 E.P N ops ⟨some d,.indexAddr t x ix,ty,pos,after,gd⟩ tm (.ea r 0) ob ob:=fun tm' hag l Q k'=>WL.index (S:=⟨tm',ob⟩) (by rw[want_agree hag];exact hw) hd ht he hz (by rw[ev_agree hag (by simp[Op.operands])];exact hx) (by rw[ev_agree hag (by simp[Op.operands])];exact hi) hb hr k'
theorem OpS1.slD {t e:TypeId}{x:Operand}{lo hi:Option Operand}{z:Nat}{rows:List (List D)}{li hh:Int}(hw:St.want ⟨tm,ob⟩ ops ⟨some d,.slice t x lo hi none,ty,pos,after,gd⟩=some true)(hd:Nat.blt d N.n=true)
 (ht:(E.ty t).kind=.slice e) (he:(E.ty e).known=true) (hz:(E.ty e).size=z) (hx:norm ob (St.ev ⟨tm,ob⟩ x)=.d (.sl z rows)) (hlo:evLow ⟨tm,ob⟩ lo=some li)
 (hhi:evBound ⟨tm,ob⟩ rows.length hi=some hh) (hb:0≤li∧li≤hh∧hh≤rows.length):
 OpS1 E.P N ops ⟨some d,.slice t x lo hi none,ty,pos,after,gd⟩ tm (.d (.sl z ((rows.drop li.toNat).take (hh.toNat - li.toNat)))) ob ob:=fun tm' hag l Q k'=>by
 refine WL.sliceD (S:=⟨tm',ob⟩) (by rw[want_agree hag];exact hw) hd ht he hz (by rw[ev_agree hag (by simp[Op.operands])];exact hx) (li:=li) (hh:=hh) ?_ ?_ hb k'
 ·cases lo with
  |none=>exact hlo
  |some y=>simp only[evLow,evBound] at hlo ⊢;rw[ev_agree hag (by simp[Op.operands])];exact hlo
 ·cases hi with
  |none=>exact hhi
  |some y=>simp only[evBound] at hhi ⊢;rw[ev_agree hag (by simp[Op.operands])];exact hhi
theorem OpS1.slS {t:TypeId}{x:Operand}{lo hi:Option Operand}{s:ByteArray}{li hh:Int}(hw:St.want ⟨tm,ob⟩ ops ⟨some d,.slice t x lo hi none,ty,pos,after,gd⟩=some true)(hd:Nat.blt d N.n=true)
 (ht:(E.ty t).kind=.string) (hx:St.ev ⟨tm,ob⟩ x=.d (.v (.string s))) (hlo:evLow ⟨tm,ob⟩ lo=some li)
 (hhi:evBound ⟨tm,ob⟩ s.size hi=some hh) (hb:0≤li∧li≤hh∧hh≤s.size):
 OpS1 E.P N ops ⟨some d,.slice t x lo hi none,ty,pos,after,gd⟩ tm (.d (.v (.string (s.extract li.toNat hh.toNat)))) ob ob:=fun tm' hag l Q k'=>by
 refine WL.sliceS (S:=⟨tm',ob⟩) (by rw[want_agree hag];exact hw) hd ht (by rw[ev_agree hag (by simp[Op.operands])];exact hx) (li:=li) (hh:=hh) ?_ ?_ hb k'
 ·cases lo with
  |none=>exact hlo
  |some y=>simp only[evLow,evBound] at hlo ⊢;rw[ev_agree hag (by simp[Op.operands])];exact hlo
 ·cases hi with
  |none=>exact hhi
  |some y=>simp only[evBound] at hhi ⊢;rw[ev_agree hag (by simp[Op.operands])];exact hhi
theorem OpS1.ixo {t e:TypeId}{x ix:Operand}{z:Nat}{e':TypeId}{rows:List (List D)}{n m:Nat}{pub:Bool}{k:IntKind}{i:Int}(hw:St.want ⟨tm,ob⟩ ops ⟨some d,.indexAddr t x ix,ty,pos,after,gd⟩=some true)(hd:Nat.blt d N.n=true)
 (ht:(E.ty t).kind=.slice e) (he:(E.ty e).known=true) (hz:(E.ty e).size=z) (hx:St.ev ⟨tm,ob⟩ x=.og m n) (hm:ob[m]? =some (.gr z e' rows n pub)) (hi:St.ev ⟨tm,ob⟩ ix=.d (.v (.int k i)))
 (hb:0≤i∧i<rows.length):
 OpS1 E.P N ops ⟨some d,.indexAddr t x ix,ty,pos,after,gd⟩ tm (.eg m n z i.toNat 0) ob ob:=fun tm' hag l Q k'=>WL.indexOg (S:=⟨tm',ob⟩) (by rw[want_agree hag];exact hw) hd ht he hz (by rw[ev_agree hag (by simp[Op.operands])];exact hx) hm (by rw[ev_agree hag (by simp[Op.operands])];exact hi) hb k'
theorem OpS1.leg {t:TypeId}{x:Operand}{z:Nat}{e':TypeId}{rows:List (List D)}{n m i off:Nat}{pub:Bool}{r:List D}{res:D}(hw:St.want ⟨tm,ob⟩ ops ⟨some d,.load t x,ty,pos,after,gd⟩=some true)(hd:Nat.blt d N.n=true)
 (hk:(E.ty t).known=true) (hx:St.ev ⟨tm,ob⟩ x=.eg m n z i off) (hm:ob[m]? =some (.gr z e' rows n pub)) (hr:rows[i]? =some r)
 (hres:(bif (E.ty t).agg then(bif Nat.ble (off+(E.ty t).size) r.length then some (.agg ((r.drop off).take (E.ty t).size)) else none) else r[off]?)=some res):
 OpS1 E.P N ops ⟨some d,.load t x,ty,pos,after,gd⟩ tm (.d res) ob ob:=fun tm' hag l Q k'=>WL.loadEg (S:=⟨tm',ob⟩) (by rw[want_agree hag];exact hw) hd hk (by rw[ev_agree hag (by simp[Op.operands])];exact hx) hm hr hres k'
theorem OpS1.c {f:FuncId}{xs:List Operand}{tys:List TypeId}{args:List D}{t:T}(hw:St.want ⟨tm,ob⟩ ops ⟨some d,.call ⟨.value (.func f),xs.toArray,tys.toArray⟩,ty,pos,after,gd⟩=some true)(hd:Nat.blt d N.n=true)
 (hc:Fun E.P f args t []) (hu:t.under 0=true) (ha:argsOf E ⟨tm,ob⟩ xs tys=some args):
 OpS1 E.P N ops ⟨some d,.call ⟨.value (.func f),xs.toArray,tys.toArray⟩,ty,pos,after,gd⟩ tm t ob ob:=fun tm' hag l Q k'=>WG.c (G:=[]) (by rw[want_agree hag];exact hw) hd hc hu (by rw[argsOf_agree (S:=⟨tm,ob⟩) (S':=⟨tm',ob⟩) rfl fun x hx=>ev_agree hag (by simp only[Op.operands,Call.operands,Array.toList_append,List.mem_append];exact .inr (by simpa using hx))];exact ha) k'
theorem OpS1.bs {t e:TypeId}{len:Nat}{parts:List (Nat×Operand)}{z:Nat}{rows:List (List D)}(hw:St.want ⟨tm,ob⟩ ops ⟨some d,.buildSlice t len parts.toArray,ty,pos,after,gd⟩=some true)(hd:Nat.blt d N.n=true)
 (ht:(E.ty t).kind=.slice e) (he:(E.ty e).known=true) (hz:(E.ty e).size=z) (hz0:Nat.blt 0 z=true) (hlen:Nat.beq len parts.length=true) (hmax:Nat.ble (len*z) 16777216=true)
 (hrows:rowsOf ⟨tm,ob⟩ 0 parts=some rows) (hwd:widths z rows=true):
 OpS1 E.P N ops ⟨some d,.buildSlice t len parts.toArray,ty,pos,after,gd⟩ tm (.d (.sl z rows)) ob ob:=fun tm' hag l Q k'=>WL.bsD (S:=⟨tm',ob⟩) (by rw[want_agree hag];exact hw) hd ht he hz hz0 hlen hmax (by
 rw[rowsOf_agree (S:=⟨tm,ob⟩) (S':=⟨tm',ob⟩) rfl parts 0 fun p hp=>ev_agree hag (by simp[Op.operands];exact⟨p.1,hp⟩)]
 exact hrows) hwd k'
theorem OpS1.ixm {α:Type} [Inhabited α]{f f':α→List D}{xs:List α}{t e:TypeId}{x ix:Operand}{z:Nat}{k:IntKind}{i:Int}(hw:St.want ⟨tm,ob⟩ ops ⟨some d,.indexAddr t x ix,ty,pos,after,gd⟩=some true)(hd:Nat.blt d N.n=true)
 (ht:(E.ty t).kind=.slice e) (he:(E.ty e).known=true) (hz:(E.ty e).size=z) (hx:norm ob (St.ev ⟨tm,ob⟩ x)=.d (.sl z (xs.map f))) (hi:St.ev ⟨tm,ob⟩ ix=.d (.v (.int k i)))
 (hf: ∀x,f x=f' x) (hb:0≤i∧i<xs.length):
 OpS1 E.P N ops ⟨some d,.indexAddr t x ix,ty,pos,after,gd⟩ tm (.ea (f' (xs.getD i.toNat default)) 0) ob ob:=by
 have hlt:i.toNat<xs.length:=by omega
 exact OpS1.ix hw hd ht he hz hx hi (by simpa using hb) (by rw[←hf];simp[hlt])
theorem OpS1.ap {t e e':TypeId}{s x:Operand}{z j n:Nat}{rows rows':List (List D)}(hw:St.want ⟨tm,ob⟩ ops ⟨some d,.call ⟨.builtin .append,#[s,x],#[t,t]⟩,ty,pos,after,gd⟩=some true)(hd:Nat.blt d N.n=true)
 (ht:(E.ty t).kind=.slice e) (he:(E.ty e).known=true) (hz:(E.ty e).size=z) (hz0:Nat.blt 0 z=true) (hby:Nat.ble 1 (E.ty e).bytes=true) (hs:St.ev ⟨tm,ob⟩ s=.og j n) (hj:ob[j]? =some (.gr z e' rows n false)) (hee:Nat.beq e e'=true)
 (hx:srcRows ob (St.ev ⟨tm,ob⟩ x)=some (z,rows')) (hroom:(rows.length+rows'.length)*(E.ty e).bytes≤140737488355328) (ho:ob.set j (.gr z e' (rows++rows') (n+1) false)=ob'):
 OpS1 E.P N ops ⟨some d,.call ⟨.builtin .append,#[s,x],#[t,t]⟩,ty,pos,after,gd⟩ tm (.og j (n+1)) ob ob':=fun tm' hag l Q k'=>by
 subst ho
 exact WL.append (S:=⟨tm',ob⟩) (by rw[want_agree hag];exact hw) hd ht he hz hz0 hby (by rw[ev_agree hag (by simp[Op.operands,Call.operands])];exact hs) hj hee (by rw[ev_agree hag (by simp[Op.operands,Call.operands])];exact hx) hroom k'
theorem OpS1.st {t:TypeId}{x v:Operand}{j off:Nat}{cs vals:List T}(hw:St.want ⟨tm,ob⟩ ops ⟨none,.store t x v,ty,pos,after,gd⟩=some true)(hk:(E.ty t).known=true)
 (hx:St.ev ⟨tm,ob⟩ x=.lp j off) (hj:ob[j]? =some (.pv cs)) (hv:cellsT ob (fixNil E t (St.ev ⟨tm,ob⟩ v))=some vals) (hn:Nat.beq vals.length (E.ty t).size=true) (ho:Nat.ble (off+vals.length) cs.length=true)
 (h1:onesT vals=true) (h2:cursT ob vals=true) (hob:ob.set j (.pv (setAll cs off vals))=ob'):
 OpS1 E.P N ops ⟨none,.store t x v,ty,pos,after,gd⟩ tm .any ob ob':=fun tm' hag l Q k'=>by
 subst hob
 exact WL.store (S:=⟨tm',ob⟩) (by rw[want_agree hag];exact hw) hk (by rw[ev_agree hag (by simp[Op.operands])];exact hx) hj (by rw[ev_agree hag (by simp[Op.operands])];exact hv) hn ho h1 h2 k'
theorem OpS1.seg {t:TypeId}{x v:Operand}{m z n i off:Nat}{e:TypeId}{rows:List (List D)}{r vals:List D}(hw:St.want ⟨tm,ob⟩ ops ⟨none,.store t x v,ty,pos,after,gd⟩=some true)(hk:(E.ty t).known=true)
 (hx:St.ev ⟨tm,ob⟩ x=.eg m n z i off) (hm:ob[m]? =some (.gr z e rows n false)) (hr:rows[i]? =some r) (hv:rowOf ob (fixNil E t (St.ev ⟨tm,ob⟩ v))=some vals) (hn:Nat.beq vals.length (E.ty t).size=true) (ho:Nat.ble (off+vals.length) z=true)
 (h1:onesD vals=true) (hob:ob.set m (.gr z e (rows.set i (setAll r off vals)) n false)=ob'):
 OpS1 E.P N ops ⟨none,.store t x v,ty,pos,after,gd⟩ tm .any ob ob':=fun tm' hag l Q k'=>by
 subst hob
 exact WL.storeEg (S:=⟨tm',ob⟩) (by rw[want_agree hag];exact hw) hk (by rw[ev_agree hag (by simp[Op.operands])];exact hx) hm hr (by rw[ev_agree hag (by simp[Op.operands])];exact hv) hn ho h1 k'
end
section
variable {P:Program}{E:Env}{N:Nm}{K:(Nat→T)→Prop}{tm:Nat→T}{ops l:List Oper}{op:Op}{ty:TypeId}{pos:String}{after:Array Edge}{gd:Option (Nat×Bool)}{d w:Nat}{ps:List (Nat×List Nat)}{p:List Nat}{obF:Nat→List Ob}
theorem WE.s' {t:T}(k:WE E.P N ops obF K ps l (upd tm d t))(h:AllF p (fun g=>OpS1 E.P N ops ⟨some d,op,ty,pos,after,gd⟩ tm t (obF g) (obF (g+w))):=by first|exact .n|(refine .c (OpS1.s (by exact rfl) (by exact rfl) (by exact rfl) (by first|exact trivial|(simp only[inRange,List.length_map,List.length_set];omega)|omega|assumption)) ?_;first|exact .n|(refine .c (OpS1.s (by exact rfl) (by exact rfl) (by exact rfl) (by first|exact trivial|(simp only[inRange,List.length_map,List.length_set];omega)|omega|assumption)) ?_;first|exact .n|(refine .c (OpS1.s (by exact rfl) (by exact rfl) (by exact rfl) (by first|exact trivial|(simp only[inRange,List.length_map,List.length_set];omega)|omega|assumption)) ?_;first|exact .n|(refine .c (OpS1.s (by exact rfl) (by exact rfl) (by exact rfl) (by first|exact trivial|(simp only[inRange,List.length_map,List.length_set];omega)|omega|assumption)) ?_;first|exact .n|(refine .c (OpS1.s (by exact rfl) (by exact rfl) (by exact rfl) (by first|exact trivial|(simp only[inRange,List.length_map,List.length_set];omega)|omega|assumption)) ?_;first|exact .n|(refine .c (OpS1.s (by exact rfl) (by exact rfl) (by exact rfl) (by first|exact trivial|(simp only[inRange,List.length_map,List.length_set];omega)|omega|assumption)) ?_;first|exact .n|(refine .c (OpS1.s (by exact rfl) (by exact rfl) (by exact rfl) (by first|exact trivial|(simp only[inRange,List.length_map,List.length_set];omega)|omega|assumption)) ?_;first|exact .n|(refine .c (OpS1.s (by exact rfl) (by exact rfl) (by exact rfl) (by first|exact trivial|(simp only[inRange,List.length_map,List.length_set];omega)|omega|assumption)) ?_;exact .n))))))))):WE E.P N ops obF K ((w,p)::ps) (⟨some d,op,ty,pos,after,gd⟩::l) tm:=
 .mk t h k
theorem WE.p'  (k:WE P N ops obF K ps l (upd tm d (.d (.v undef)))) (h:AllF p (fun g=>OpS1 P N ops ⟨some d,op,ty,pos,after,gd⟩ tm (.d (.v undef)) (obF g) (obF (g+w))):=by first|exact .n|(refine .c (OpS1.pass (by exact rfl) (by exact rfl)) ?_;first|exact .n|(refine .c (OpS1.pass (by exact rfl) (by exact rfl)) ?_;first|exact .n|(refine .c (OpS1.pass (by exact rfl) (by exact rfl)) ?_;first|exact .n|(refine .c (OpS1.pass (by exact rfl) (by exact rfl)) ?_;first|exact .n|(refine .c (OpS1.pass (by exact rfl) (by exact rfl)) ?_;first|exact .n|(refine .c (OpS1.pass (by exact rfl) (by exact rfl)) ?_;first|exact .n|(refine .c (OpS1.pass (by exact rfl) (by exact rfl)) ?_;first|exact .n|(refine .c (OpS1.pass (by exact rfl) (by exact rfl)) ?_;exact .n))))))))):WE P N ops obF K ((w,p)::ps) (⟨some d,op,ty,pos,after,gd⟩::l) tm:=
 .mk (.d (.v undef)) h k
theorem WE.px'  (k:WE P N ops obF K ps l tm) (h:AllF p (fun g=>OpS1 P N ops ⟨none,op,ty,pos,after,gd⟩ tm .any (obF g) (obF (g+w))):=by first|exact .n|(refine .c (OpS1.px (by exact rfl)) ?_;first|exact .n|(refine .c (OpS1.px (by exact rfl)) ?_;first|exact .n|(refine .c (OpS1.px (by exact rfl)) ?_;first|exact .n|(refine .c (OpS1.px (by exact rfl)) ?_;first|exact .n|(refine .c (OpS1.px (by exact rfl)) ?_;first|exact .n|(refine .c (OpS1.px (by exact rfl)) ?_;first|exact .n|(refine .c (OpS1.px (by exact rfl)) ?_;first|exact .n|(refine .c (OpS1.px (by exact rfl)) ?_;exact .n))))))))):WE P N ops obF K ((w,p)::ps) (⟨none,op,ty,pos,after,gd⟩::l) tm:=
 .mk .any h k
theorem WE.ixm' {α:Type} [Inhabited α]{f:α→List D}{xs:List α}{t:TypeId}{x ix:Operand}{i:Int}(k:WE E.P N ops obF K ps l (upd tm d (.ea (f (xs.getD i.toNat default)) 0)))(h:AllF p (fun g=>OpS1 E.P N ops ⟨some d,(.indexAddr t x ix),ty,pos,after,gd⟩ tm (.ea (f (xs.getD i.toNat default)) 0) (obF g) (obF (g+w))):=by first|exact .n|(refine .c (OpS1.ixm (by exact rfl) (by exact rfl) (by exact rfl) (by exact rfl) (by exact rfl) (by exact rfl) (by exact rfl) (by exact fun _=>rfl) (by first|exact trivial|(simp only[inRange,List.length_map,List.length_set];omega)|omega|assumption)) ?_;first|exact .n|(refine .c (OpS1.ixm (by exact rfl) (by exact rfl) (by exact rfl) (by exact rfl) (by exact rfl) (by exact rfl) (by exact rfl) (by exact fun _=>rfl) (by first|exact trivial|(simp only[inRange,List.length_map,List.length_set];omega)|omega|assumption)) ?_;first|exact .n|(refine .c (OpS1.ixm (by exact rfl) (by exact rfl) (by exact rfl) (by exact rfl) (by exact rfl) (by exact rfl) (by exact rfl) (by exact fun _=>rfl) (by first|exact trivial|(simp only[inRange,List.length_map,List.length_set];omega)|omega|assumption)) ?_;first|exact .n|(refine .c (OpS1.ixm (by exact rfl) (by exact rfl) (by exact rfl) (by exact rfl) (by exact rfl) (by exact rfl) (by exact rfl) (by exact fun _=>rfl) (by first|exact trivial|(simp only[inRange,List.length_map,List.length_set];omega)|omega|assumption)) ?_;first|exact .n|(refine .c (OpS1.ixm (by exact rfl) (by exact rfl) (by exact rfl) (by exact rfl) (by exact rfl) (by exact rfl) (by exact rfl) (by exact fun _=>rfl) (by first|exact trivial|(simp only[inRange,List.length_map,List.length_set];omega)|omega|assumption)) ?_;first|exact .n|(refine .c (OpS1.ixm (by exact rfl) (by exact rfl) (by exact rfl) (by exact rfl) (by exact rfl) (by exact rfl) (by exact rfl) (by exact fun _=>rfl) (by first|exact trivial|(simp only[inRange,List.length_map,List.length_set];omega)|omega|assumption)) ?_;first|exact .n|(refine .c (OpS1.ixm (by exact rfl) (by exact rfl) (by exact rfl) (by exact rfl) (by exact rfl) (by exact rfl) (by exact rfl) (by exact fun _=>rfl) (by first|exact trivial|(simp only[inRange,List.length_map,List.length_set];omega)|omega|assumption)) ?_;first|exact .n|(refine .c (OpS1.ixm (by exact rfl) (by exact rfl) (by exact rfl) (by exact rfl) (by exact rfl) (by exact rfl) (by exact rfl) (by exact fun _=>rfl) (by first|exact trivial|(simp only[inRange,List.length_map,List.length_set];omega)|omega|assumption)) ?_;exact .n))))))))):WE E.P N ops obF K ((w,p)::ps) (⟨some d,(.indexAddr t x ix),ty,pos,after,gd⟩::l) tm:=
 .mk (.ea (f (xs.getD i.toNat default)) 0) h k
theorem WE.ixo' {t:TypeId}{x ix:Operand}{m n z:Nat}{i:Int}(k:WE E.P N ops obF K ps l (upd tm d (.eg m n z i.toNat 0)))(h:AllF p (fun g=>OpS1 E.P N ops ⟨some d,(.indexAddr t x ix),ty,pos,after,gd⟩ tm (.eg m n z i.toNat 0) (obF g) (obF (g+w))):=by first|exact .n|(refine .c (OpS1.ixo (by exact rfl) (by exact rfl) (by exact rfl) (by exact rfl) (by exact rfl) (by exact rfl) (by exact rfl) (by exact rfl) (by first|exact trivial|(simp only[inRange,List.length_map,List.length_set];omega)|omega|assumption)) ?_;first|exact .n|(refine .c (OpS1.ixo (by exact rfl) (by exact rfl) (by exact rfl) (by exact rfl) (by exact rfl) (by exact rfl) (by exact rfl) (by exact rfl) (by first|exact trivial|(simp only[inRange,List.length_map,List.length_set];omega)|omega|assumption)) ?_;first|exact .n|(refine .c (OpS1.ixo (by exact rfl) (by exact rfl) (by exact rfl) (by exact rfl) (by exact rfl) (by exact rfl) (by exact rfl) (by exact rfl) (by first|exact trivial|(simp only[inRange,List.length_map,List.length_set];omega)|omega|assumption)) ?_;first|exact .n|(refine .c (OpS1.ixo (by exact rfl) (by exact rfl) (by exact rfl) (by exact rfl) (by exact rfl) (by exact rfl) (by exact rfl) (by exact rfl) (by first|exact trivial|(simp only[inRange,List.length_map,List.length_set];omega)|omega|assumption)) ?_;first|exact .n|(refine .c (OpS1.ixo (by exact rfl) (by exact rfl) (by exact rfl) (by exact rfl) (by exact rfl) (by exact rfl) (by exact rfl) (by exact rfl) (by first|exact trivial|(simp only[inRange,List.length_map,List.length_set];omega)|omega|assumption)) ?_;first|exact .n|(refine .c (OpS1.ixo (by exact rfl) (by exact rfl) (by exact rfl) (by exact rfl) (by exact rfl) (by exact rfl) (by exact rfl) (by exact rfl) (by first|exact trivial|(simp only[inRange,List.length_map,List.length_set];omega)|omega|assumption)) ?_;first|exact .n|(refine .c (OpS1.ixo (by exact rfl) (by exact rfl) (by exact rfl) (by exact rfl) (by exact rfl) (by exact rfl) (by exact rfl) (by exact rfl) (by first|exact trivial|(simp only[inRange,List.length_map,List.length_set];omega)|omega|assumption)) ?_;first|exact .n|(refine .c (OpS1.ixo (by exact rfl) (by exact rfl) (by exact rfl) (by exact rfl) (by exact rfl) (by exact rfl) (by exact rfl) (by exact rfl) (by first|exact trivial|(simp only[inRange,List.length_map,List.length_set];omega)|omega|assumption)) ?_;exact .n))))))))):WE E.P N ops obF K ((w,p)::ps) (⟨some d,(.indexAddr t x ix),ty,pos,after,gd⟩::l) tm:=
 .mk (.eg m n z i.toNat 0) h k
theorem WE.leg' {t:TypeId}{x:Operand}{res:D}(k:WE E.P N ops obF K ps l (upd tm d (.d res)))(h:AllF p (fun g=>OpS1 E.P N ops ⟨some d,(.load t x),ty,pos,after,gd⟩ tm (.d res) (obF g) (obF (g+w))):=by first|exact .n|(refine .c (OpS1.leg (by exact rfl) (by exact rfl) (by exact rfl) (by exact rfl) (by exact rfl) (by first|exact rfl|assumption) (by exact rfl)) ?_;first|exact .n|(refine .c (OpS1.leg (by exact rfl) (by exact rfl) (by exact rfl) (by exact rfl) (by exact rfl) (by first|exact rfl|assumption) (by exact rfl)) ?_;first|exact .n|(refine .c (OpS1.leg (by exact rfl) (by exact rfl) (by exact rfl) (by exact rfl) (by exact rfl) (by first|exact rfl|assumption) (by exact rfl)) ?_;first|exact .n|(refine .c (OpS1.leg (by exact rfl) (by exact rfl) (by exact rfl) (by exact rfl) (by exact rfl) (by first|exact rfl|assumption) (by exact rfl)) ?_;first|exact .n|(refine .c (OpS1.leg (by exact rfl) (by exact rfl) (by exact rfl) (by exact rfl) (by exact rfl) (by first|exact rfl|assumption) (by exact rfl)) ?_;first|exact .n|(refine .c (OpS1.leg (by exact rfl) (by exact rfl) (by exact rfl) (by exact rfl) (by exact rfl) (by first|exact rfl|assumption) (by exact rfl)) ?_;first|exact .n|(refine .c (OpS1.leg (by exact rfl) (by exact rfl) (by exact rfl) (by exact rfl) (by exact rfl) (by first|exact rfl|assumption) (by exact rfl)) ?_;first|exact .n|(refine .c (OpS1.leg (by exact rfl) (by exact rfl) (by exact rfl) (by exact rfl) (by exact rfl) (by first|exact rfl|assumption) (by exact rfl)) ?_;exact .n))))))))):WE E.P N ops obF K ((w,p)::ps) (⟨some d,(.load t x),ty,pos,after,gd⟩::l) tm:=
 .mk (.d res) h k
theorem WE.slS' {t:TypeId}{x:Operand}{lo hi:Option Operand}{s:ByteArray}{li hh:Int}(k:WE E.P N ops obF K ps l (upd tm d (.d (.v (.string (s.extract li.toNat hh.toNat))))))(h:AllF p (fun g=>OpS1 E.P N ops ⟨some d,(.slice t x lo hi none),ty,pos,after,gd⟩ tm (.d (.v (.string (s.extract li.toNat hh.toNat)))) (obF g) (obF (g+w))):=by first|exact .n|(refine .c (OpS1.slS (by exact rfl) (by exact rfl) (by exact rfl) (by exact rfl) (by exact rfl) (by exact rfl) (by first|omega|(simp only[List.length_map,List.length_append,List.length_cons,List.length_nil,List.length_set] at *;omega))) ?_;first|exact .n|(refine .c (OpS1.slS (by exact rfl) (by exact rfl) (by exact rfl) (by exact rfl) (by exact rfl) (by exact rfl) (by first|omega|(simp only[List.length_map,List.length_append,List.length_cons,List.length_nil,List.length_set] at *;omega))) ?_;first|exact .n|(refine .c (OpS1.slS (by exact rfl) (by exact rfl) (by exact rfl) (by exact rfl) (by exact rfl) (by exact rfl) (by first|omega|(simp only[List.length_map,List.length_append,List.length_cons,List.length_nil,List.length_set] at *;omega))) ?_;first|exact .n|(refine .c (OpS1.slS (by exact rfl) (by exact rfl) (by exact rfl) (by exact rfl) (by exact rfl) (by exact rfl) (by first|omega|(simp only[List.length_map,List.length_append,List.length_cons,List.length_nil,List.length_set] at *;omega))) ?_;first|exact .n|(refine .c (OpS1.slS (by exact rfl) (by exact rfl) (by exact rfl) (by exact rfl) (by exact rfl) (by exact rfl) (by first|omega|(simp only[List.length_map,List.length_append,List.length_cons,List.length_nil,List.length_set] at *;omega))) ?_;first|exact .n|(refine .c (OpS1.slS (by exact rfl) (by exact rfl) (by exact rfl) (by exact rfl) (by exact rfl) (by exact rfl) (by first|omega|(simp only[List.length_map,List.length_append,List.length_cons,List.length_nil,List.length_set] at *;omega))) ?_;first|exact .n|(refine .c (OpS1.slS (by exact rfl) (by exact rfl) (by exact rfl) (by exact rfl) (by exact rfl) (by exact rfl) (by first|omega|(simp only[List.length_map,List.length_append,List.length_cons,List.length_nil,List.length_set] at *;omega))) ?_;first|exact .n|(refine .c (OpS1.slS (by exact rfl) (by exact rfl) (by exact rfl) (by exact rfl) (by exact rfl) (by exact rfl) (by first|omega|(simp only[List.length_map,List.length_append,List.length_cons,List.length_nil,List.length_set] at *;omega))) ?_;exact .n))))))))):WE E.P N ops obF K ((w,p)::ps) (⟨some d,(.slice t x lo hi none),ty,pos,after,gd⟩::l) tm:=
 .mk (.d (.v (.string (s.extract li.toNat hh.toNat)))) h k
theorem WE.slD' {t:TypeId}{x:Operand}{lo hi:Option Operand}{z:Nat}{rows:List (List D)}{li hh:Int}(k:WE E.P N ops obF K ps l (upd tm d (.d (.sl z ((rows.drop li.toNat).take (hh.toNat - li.toNat))))))(h:AllF p (fun g=>OpS1 E.P N ops ⟨some d,(.slice t x lo hi none),ty,pos,after,gd⟩ tm (.d (.sl z ((rows.drop li.toNat).take (hh.toNat - li.toNat)))) (obF g) (obF (g+w))):=by first|exact .n|(refine .c (OpS1.slD (by exact rfl) (by exact rfl) (by exact rfl) (by exact rfl) (by exact rfl) (by exact rfl) (by exact rfl) (by exact rfl) (by first|omega|(simp only[List.length_map,List.length_append,List.length_cons,List.length_nil,List.length_set] at *;omega))) ?_;first|exact .n|(refine .c (OpS1.slD (by exact rfl) (by exact rfl) (by exact rfl) (by exact rfl) (by exact rfl) (by exact rfl) (by exact rfl) (by exact rfl) (by first|omega|(simp only[List.length_map,List.length_append,List.length_cons,List.length_nil,List.length_set] at *;omega))) ?_;first|exact .n|(refine .c (OpS1.slD (by exact rfl) (by exact rfl) (by exact rfl) (by exact rfl) (by exact rfl) (by exact rfl) (by exact rfl) (by exact rfl) (by first|omega|(simp only[List.length_map,List.length_append,List.length_cons,List.length_nil,List.length_set] at *;omega))) ?_;first|exact .n|(refine .c (OpS1.slD (by exact rfl) (by exact rfl) (by exact rfl) (by exact rfl) (by exact rfl) (by exact rfl) (by exact rfl) (by exact rfl) (by first|omega|(simp only[List.length_map,List.length_append,List.length_cons,List.length_nil,List.length_set] at *;omega))) ?_;first|exact .n|(refine .c (OpS1.slD (by exact rfl) (by exact rfl) (by exact rfl) (by exact rfl) (by exact rfl) (by exact rfl) (by exact rfl) (by exact rfl) (by first|omega|(simp only[List.length_map,List.length_append,List.length_cons,List.length_nil,List.length_set] at *;omega))) ?_;first|exact .n|(refine .c (OpS1.slD (by exact rfl) (by exact rfl) (by exact rfl) (by exact rfl) (by exact rfl) (by exact rfl) (by exact rfl) (by exact rfl) (by first|omega|(simp only[List.length_map,List.length_append,List.length_cons,List.length_nil,List.length_set] at *;omega))) ?_;first|exact .n|(refine .c (OpS1.slD (by exact rfl) (by exact rfl) (by exact rfl) (by exact rfl) (by exact rfl) (by exact rfl) (by exact rfl) (by exact rfl) (by first|omega|(simp only[List.length_map,List.length_append,List.length_cons,List.length_nil,List.length_set] at *;omega))) ?_;first|exact .n|(refine .c (OpS1.slD (by exact rfl) (by exact rfl) (by exact rfl) (by exact rfl) (by exact rfl) (by exact rfl) (by exact rfl) (by exact rfl) (by first|omega|(simp only[List.length_map,List.length_append,List.length_cons,List.length_nil,List.length_set] at *;omega))) ?_;exact .n))))))))):WE E.P N ops obF K ((w,p)::ps) (⟨some d,(.slice t x lo hi none),ty,pos,after,gd⟩::l) tm:=
 .mk (.d (.sl z ((rows.drop li.toNat).take (hh.toNat - li.toNat)))) h k
theorem WE.bs' {t:TypeId}{len:Nat}{parts:List (Nat×Operand)}{z:Nat}{rows:List (List D)}(k:WE E.P N ops obF K ps l (upd tm d (.d (.sl z rows))))(h:AllF p (fun g=>OpS1 E.P N ops ⟨some d,(.buildSlice t len parts.toArray),ty,pos,after,gd⟩ tm (.d (.sl z rows)) (obF g) (obF (g+w))):=by first|exact .n|(refine .c (OpS1.bs (by exact rfl) (by exact rfl) (by exact rfl) (by exact rfl) (by exact rfl) (by exact rfl) (by exact rfl) (by exact rfl) (by exact rfl) (by exact rfl)) ?_;first|exact .n|(refine .c (OpS1.bs (by exact rfl) (by exact rfl) (by exact rfl) (by exact rfl) (by exact rfl) (by exact rfl) (by exact rfl) (by exact rfl) (by exact rfl) (by exact rfl)) ?_;first|exact .n|(refine .c (OpS1.bs (by exact rfl) (by exact rfl) (by exact rfl) (by exact rfl) (by exact rfl) (by exact rfl) (by exact rfl) (by exact rfl) (by exact rfl) (by exact rfl)) ?_;first|exact .n|(refine .c (OpS1.bs (by exact rfl) (by exact rfl) (by exact rfl) (by exact rfl) (by exact rfl) (by exact rfl) (by exact rfl) (by exact rfl) (by exact rfl) (by exact rfl)) ?_;first|exact .n|(refine .c (OpS1.bs (by exact rfl) (by exact rfl) (by exact rfl) (by exact rfl) (by exact rfl) (by exact rfl) (by exact rfl) (by exact rfl) (by exact rfl) (by exact rfl)) ?_;first|exact .n|(refine .c (OpS1.bs (by exact rfl) (by exact rfl) (by exact rfl) (by exact rfl) (by exact rfl) (by exact rfl) (by exact rfl) (by exact rfl) (by exact rfl) (by exact rfl)) ?_;first|exact .n|(refine .c (OpS1.bs (by exact rfl) (by exact rfl) (by exact rfl) (by exact rfl) (by exact rfl) (by exact rfl) (by exact rfl) (by exact rfl) (by exact rfl) (by exact rfl)) ?_;first|exact .n|(refine .c (OpS1.bs (by exact rfl) (by exact rfl) (by exact rfl) (by exact rfl) (by exact rfl) (by exact rfl) (by exact rfl) (by exact rfl) (by exact rfl) (by exact rfl)) ?_;exact .n))))))))):WE E.P N ops obF K ((w,p)::ps) (⟨some d,(.buildSlice t len parts.toArray),ty,pos,after,gd⟩::l) tm:=
 .mk (.d (.sl z rows)) h k
theorem WE.ap' {t:TypeId}{s x:Operand}{j n:Nat}(k:WE E.P N ops obF K ps l (upd tm d (.og j (n+1))))(h:AllF p (fun g=>OpS1 E.P N ops ⟨some d,(.call ⟨.builtin .append,#[s,x],#[t,t]⟩),ty,pos,after,gd⟩ tm (.og j (n+1)) (obF g) (obF (g+w))):=by first|exact .n|(refine .c (OpS1.ap (by exact rfl) (by exact rfl) (by exact rfl) (by exact rfl) (by exact rfl) (by exact rfl) (by exact rfl) (by exact rfl) (by exact rfl) (by exact rfl) (by exact rfl) (by(try simp only[bt,Nat.reduceDiv,Nat.reduceMod,Nat.reduceBEq,cond_true,cond_false]);refine Nat.le_trans (Nat.mul_le_mul_right _ (m:=2097152) ?_) (Nat.le_of_ble_eq_true rfl);simp only[List.length_map,List.length_append,List.length_cons,List.length_nil,List.length_take,List.length_drop];omega) (by exact rfl)) ?_;first|exact .n|(refine .c (OpS1.ap (by exact rfl) (by exact rfl) (by exact rfl) (by exact rfl) (by exact rfl) (by exact rfl) (by exact rfl) (by exact rfl) (by exact rfl) (by exact rfl) (by exact rfl) (by(try simp only[bt,Nat.reduceDiv,Nat.reduceMod,Nat.reduceBEq,cond_true,cond_false]);refine Nat.le_trans (Nat.mul_le_mul_right _ (m:=2097152) ?_) (Nat.le_of_ble_eq_true rfl);simp only[List.length_map,List.length_append,List.length_cons,List.length_nil,List.length_take,List.length_drop];omega) (by exact rfl)) ?_;first|exact .n|(refine .c (OpS1.ap (by exact rfl) (by exact rfl) (by exact rfl) (by exact rfl) (by exact rfl) (by exact rfl) (by exact rfl) (by exact rfl) (by exact rfl) (by exact rfl) (by exact rfl) (by(try simp only[bt,Nat.reduceDiv,Nat.reduceMod,Nat.reduceBEq,cond_true,cond_false]);refine Nat.le_trans (Nat.mul_le_mul_right _ (m:=2097152) ?_) (Nat.le_of_ble_eq_true rfl);simp only[List.length_map,List.length_append,List.length_cons,List.length_nil,List.length_take,List.length_drop];omega) (by exact rfl)) ?_;first|exact .n|(refine .c (OpS1.ap (by exact rfl) (by exact rfl) (by exact rfl) (by exact rfl) (by exact rfl) (by exact rfl) (by exact rfl) (by exact rfl) (by exact rfl) (by exact rfl) (by exact rfl) (by(try simp only[bt,Nat.reduceDiv,Nat.reduceMod,Nat.reduceBEq,cond_true,cond_false]);refine Nat.le_trans (Nat.mul_le_mul_right _ (m:=2097152) ?_) (Nat.le_of_ble_eq_true rfl);simp only[List.length_map,List.length_append,List.length_cons,List.length_nil,List.length_take,List.length_drop];omega) (by exact rfl)) ?_;first|exact .n|(refine .c (OpS1.ap (by exact rfl) (by exact rfl) (by exact rfl) (by exact rfl) (by exact rfl) (by exact rfl) (by exact rfl) (by exact rfl) (by exact rfl) (by exact rfl) (by exact rfl) (by(try simp only[bt,Nat.reduceDiv,Nat.reduceMod,Nat.reduceBEq,cond_true,cond_false]);refine Nat.le_trans (Nat.mul_le_mul_right _ (m:=2097152) ?_) (Nat.le_of_ble_eq_true rfl);simp only[List.length_map,List.length_append,List.length_cons,List.length_nil,List.length_take,List.length_drop];omega) (by exact rfl)) ?_;first|exact .n|(refine .c (OpS1.ap (by exact rfl) (by exact rfl) (by exact rfl) (by exact rfl) (by exact rfl) (by exact rfl) (by exact rfl) (by exact rfl) (by exact rfl) (by exact rfl) (by exact rfl) (by(try simp only[bt,Nat.reduceDiv,Nat.reduceMod,Nat.reduceBEq,cond_true,cond_false]);refine Nat.le_trans (Nat.mul_le_mul_right _ (m:=2097152) ?_) (Nat.le_of_ble_eq_true rfl);simp only[List.length_map,List.length_append,List.length_cons,List.length_nil,List.length_take,List.length_drop];omega) (by exact rfl)) ?_;first|exact .n|(refine .c (OpS1.ap (by exact rfl) (by exact rfl) (by exact rfl) (by exact rfl) (by exact rfl) (by exact rfl) (by exact rfl) (by exact rfl) (by exact rfl) (by exact rfl) (by exact rfl) (by(try simp only[bt,Nat.reduceDiv,Nat.reduceMod,Nat.reduceBEq,cond_true,cond_false]);refine Nat.le_trans (Nat.mul_le_mul_right _ (m:=2097152) ?_) (Nat.le_of_ble_eq_true rfl);simp only[List.length_map,List.length_append,List.length_cons,List.length_nil,List.length_take,List.length_drop];omega) (by exact rfl)) ?_;first|exact .n|(refine .c (OpS1.ap (by exact rfl) (by exact rfl) (by exact rfl) (by exact rfl) (by exact rfl) (by exact rfl) (by exact rfl) (by exact rfl) (by exact rfl) (by exact rfl) (by exact rfl) (by(try simp only[bt,Nat.reduceDiv,Nat.reduceMod,Nat.reduceBEq,cond_true,cond_false]);refine Nat.le_trans (Nat.mul_le_mul_right _ (m:=2097152) ?_) (Nat.le_of_ble_eq_true rfl);simp only[List.length_map,List.length_append,List.length_cons,List.length_nil,List.length_take,List.length_drop];omega) (by exact rfl)) ?_;exact .n))))))))):WE E.P N ops obF K ((w,p)::ps) (⟨some d,(.call ⟨.builtin .append,#[s,x],#[t,t]⟩),ty,pos,after,gd⟩::l) tm:=
 .mk (.og j (n+1)) h k
theorem WE.st' {t:TypeId}{x v:Operand}(k:WE E.P N ops obF K ps l tm)(h:AllF p (fun g=>OpS1 E.P N ops ⟨none,(.store t x v),ty,pos,after,gd⟩ tm .any (obF g) (obF (g+w))):=by first|exact .n|(refine .c (OpS1.st (by exact rfl) (by exact rfl) (by exact rfl) (by exact rfl) (by exact rfl) (by exact rfl) (by exact rfl) (by exact rfl) (by exact rfl) (by exact rfl)) ?_;first|exact .n|(refine .c (OpS1.st (by exact rfl) (by exact rfl) (by exact rfl) (by exact rfl) (by exact rfl) (by exact rfl) (by exact rfl) (by exact rfl) (by exact rfl) (by exact rfl)) ?_;first|exact .n|(refine .c (OpS1.st (by exact rfl) (by exact rfl) (by exact rfl) (by exact rfl) (by exact rfl) (by exact rfl) (by exact rfl) (by exact rfl) (by exact rfl) (by exact rfl)) ?_;first|exact .n|(refine .c (OpS1.st (by exact rfl) (by exact rfl) (by exact rfl) (by exact rfl) (by exact rfl) (by exact rfl) (by exact rfl) (by exact rfl) (by exact rfl) (by exact rfl)) ?_;first|exact .n|(refine .c (OpS1.st (by exact rfl) (by exact rfl) (by exact rfl) (by exact rfl) (by exact rfl) (by exact rfl) (by exact rfl) (by exact rfl) (by exact rfl) (by exact rfl)) ?_;first|exact .n|(refine .c (OpS1.st (by exact rfl) (by exact rfl) (by exact rfl) (by exact rfl) (by exact rfl) (by exact rfl) (by exact rfl) (by exact rfl) (by exact rfl) (by exact rfl)) ?_;first|exact .n|(refine .c (OpS1.st (by exact rfl) (by exact rfl) (by exact rfl) (by exact rfl) (by exact rfl) (by exact rfl) (by exact rfl) (by exact rfl) (by exact rfl) (by exact rfl)) ?_;first|exact .n|(refine .c (OpS1.st (by exact rfl) (by exact rfl) (by exact rfl) (by exact rfl) (by exact rfl) (by exact rfl) (by exact rfl) (by exact rfl) (by exact rfl) (by exact rfl)) ?_;exact .n))))))))):WE E.P N ops obF K ((w,p)::ps) (⟨none,(.store t x v),ty,pos,after,gd⟩::l) tm:=
 .mk .any h k
theorem WE.seg' {t:TypeId}{x v:Operand}(k:WE E.P N ops obF K ps l tm)(h:AllF p (fun g=>OpS1 E.P N ops ⟨none,(.store t x v),ty,pos,after,gd⟩ tm .any (obF g) (obF (g+w))):=by first|exact .n|(refine .c (OpS1.seg (by exact rfl) (by exact rfl) (by exact rfl) (by exact rfl) (by first|exact rfl|assumption) (by exact rfl) (by exact rfl) (by exact rfl) (by exact rfl) (by exact rfl)) ?_;first|exact .n|(refine .c (OpS1.seg (by exact rfl) (by exact rfl) (by exact rfl) (by exact rfl) (by first|exact rfl|assumption) (by exact rfl) (by exact rfl) (by exact rfl) (by exact rfl) (by exact rfl)) ?_;first|exact .n|(refine .c (OpS1.seg (by exact rfl) (by exact rfl) (by exact rfl) (by exact rfl) (by first|exact rfl|assumption) (by exact rfl) (by exact rfl) (by exact rfl) (by exact rfl) (by exact rfl)) ?_;first|exact .n|(refine .c (OpS1.seg (by exact rfl) (by exact rfl) (by exact rfl) (by exact rfl) (by first|exact rfl|assumption) (by exact rfl) (by exact rfl) (by exact rfl) (by exact rfl) (by exact rfl)) ?_;first|exact .n|(refine .c (OpS1.seg (by exact rfl) (by exact rfl) (by exact rfl) (by exact rfl) (by first|exact rfl|assumption) (by exact rfl) (by exact rfl) (by exact rfl) (by exact rfl) (by exact rfl)) ?_;first|exact .n|(refine .c (OpS1.seg (by exact rfl) (by exact rfl) (by exact rfl) (by exact rfl) (by first|exact rfl|assumption) (by exact rfl) (by exact rfl) (by exact rfl) (by exact rfl) (by exact rfl)) ?_;first|exact .n|(refine .c (OpS1.seg (by exact rfl) (by exact rfl) (by exact rfl) (by exact rfl) (by first|exact rfl|assumption) (by exact rfl) (by exact rfl) (by exact rfl) (by exact rfl) (by exact rfl)) ?_;first|exact .n|(refine .c (OpS1.seg (by exact rfl) (by exact rfl) (by exact rfl) (by exact rfl) (by first|exact rfl|assumption) (by exact rfl) (by exact rfl) (by exact rfl) (by exact rfl) (by exact rfl)) ?_;exact .n))))))))):WE E.P N ops obF K ((w,p)::ps) (⟨none,(.store t x v),ty,pos,after,gd⟩::l) tm:=
 .mk .any h k
theorem WE.sp' {l:List Oper}{o:Oper}{q:Oper}{j:Nat}{b c:Bool}(ht:c=true→WE P N ops obF K ps (o::l) (upd tm d (.d (.v (.bool true)))))(hf:c=false→WE P N ops obF K ps (o::l) (upd tm d (.d (.v (.bool false)))))
 (hg:o.guard=some (j,b):=by exact rfl) (hp:ops[j]? =some q:=by exact rfl) (hd:q.dst=some d:=by exact rfl) (hc:tm d=.d (.v (.bool c)):=by exact rfl):WE P N ops obF K ps (o::l) tm:=
 WE.sp hg hp hd hc ht hf
theorem WE.c' {f:FuncId}{xs:List Operand}{tys:List TypeId}{args:List D}{t:T}(hc:Fun E.P f args t [])(k:WE E.P N ops obF K ps l (upd tm d t))
 (h:AllF p (fun g=>OpS1 E.P N ops ⟨some d,.call ⟨.value (.func f),xs.toArray,tys.toArray⟩,ty,pos,after,gd⟩ tm t (obF g) (obF (g+w))):=by first|exact .n|(refine .c (OpS1.c (by exact rfl) (by exact rfl) (by assumption) (by exact rfl) (by exact rfl)) ?_;first|exact .n|(refine .c (OpS1.c (by exact rfl) (by exact rfl) (by assumption) (by exact rfl) (by exact rfl)) ?_;first|exact .n|(refine .c (OpS1.c (by exact rfl) (by exact rfl) (by assumption) (by exact rfl) (by exact rfl)) ?_;first|exact .n|(refine .c (OpS1.c (by exact rfl) (by exact rfl) (by assumption) (by exact rfl) (by exact rfl)) ?_;first|exact .n|(refine .c (OpS1.c (by exact rfl) (by exact rfl) (by assumption) (by exact rfl) (by exact rfl)) ?_;first|exact .n|(refine .c (OpS1.c (by exact rfl) (by exact rfl) (by assumption) (by exact rfl) (by exact rfl)) ?_;first|exact .n|(refine .c (OpS1.c (by exact rfl) (by exact rfl) (by assumption) (by exact rfl) (by exact rfl)) ?_;first|exact .n|(refine .c (OpS1.c (by exact rfl) (by exact rfl) (by assumption) (by exact rfl) (by exact rfl)) ?_;exact .n))))))))):WE E.P N ops obF K ((w,p)::ps) (⟨some d,.call ⟨.value (.func f),xs.toArray,tys.toArray⟩,ty,pos,after,gd⟩::l) tm:=
 .mk t h k
theorem W.dre' {P:Program}{N:Nm}{id:Nat}{l:List Oper}{Q:Exit→St→Prop}{tm:Nat→T}{ob:List Ob}(es:List Nat)(obF:Nat→List Ob)(ps:List (Nat×List Nat))(obE:List Ob)
 (h:WE P N l obF (fun tm'=>Q .normal ⟨tm',obE⟩) ps l tm) (hm:P.follows .mixedOrders=true:=by kernel_rfl) (hk:dreOK l es ps=true:=by kernel_rfl) (h0:obF 0=ob:=by exact rfl) (hE:obF (flM (fun _=>true) es 1)=obE:=by exact rfl):W P N (.region id l.toArray true) Q ⟨tm,ob⟩:=by
 subst hE
 exact W.dre es obF ps hm hk h0 h
end
section
variable {w0:World}{σ0:Bs}{ob:List Ob}{w:World}{g:Gh}
theorem Inv.turnB (I:Inv w0 σ0 ob w g){w':World}{g':Gh}{k:Nat}{o o':Ob}(hk:ob[k]? =some o)(h0:0<g.lim k)(hle:g.le g')(hσ:g'.σ=g.σ)
 (hoj: ∀j,j≠k→g'.lim j=g.lim j∧g'.foot j=g.foot j) (hb:Below w.heap.size w w') (hok:ObOK (mineB w0 σ0) g' w' k o') (hat: ∀b,g'.at k o' b→w.heap.size≤b):
 Inv w0 σ0 (ob.set k o') w' g':=by
 have hlt:k<ob.length:=(List.getElem?_eq_some_iff.1 hk).1
 refine⟨I.below.trans hb,fun b x hb hn=>by rw[hσ];exact I.old b x hb hn,fun b x u hu=>?_,fun j p hp=>?_,fun j hj=>?_,fun i j p p' b hne hp hp' hb=>?_,fun j hj=>?_⟩
 ·rw[hσ] at hu
  rw[hb.cell (p:=⟨b,x,none⟩) (I.lt_of_σ hu)]
  exact I.con b x u hu
 ·by_cases hj:k=j
  ·subst hj
   rw[List.getElem?_set_self hlt] at hp
   simp only[Option.some.injEq] at hp
   subst hp
   exact hok
  ·rw[List.getElem?_set_ne hj] at hp
   have hj':j≠k:=fun h=>hj h.symm
   exact(I.obs j p hp).mono hle (hoj j hj').1 (hoj j hj').2 (fun b hbk=>⟨hb.block b ((I.obs j p hp).at_lt hbk).2,fun x=>by rw[hσ]⟩) hb.size
 ·have hj':j≠k:=fun h=>by subst h;simp at hj;omega
  rw[(hoj j hj').1]
  exact I.lim j (by simpa using hj)
 ·have same: ∀(i:Nat) (p:Ob) (b:Nat),(ob.set k o')[i]? =some p→g'.at i p b→(i=k∧p=o'∧w.heap.size≤b)∨(i≠k∧ob[i]? =some p∧g.at i p b):=by
   intro i p b hp hb
   by_cases hi:k=i
   ·subst hi
    rw[List.getElem?_set_self hlt] at hp
    simp only[Option.some.injEq] at hp
    subst hp
    exact .inl ⟨rfl,rfl,hat b hb⟩
   ·rw[List.getElem?_set_ne hi] at hp
    have hi':i≠k:=fun h=>hi h.symm
    rw[Gh.at_mono hle (I.obs i p hp) (hoj i hi').2] at hb
    exact .inr ⟨hi',hp,hb⟩
  intro hb'
  rcases same i p b hp hb with⟨h1,h2,h3⟩|⟨h1,h2,h3⟩
  ·rcases same j p' b hp' hb' with⟨h4,h5,h6⟩|⟨h4,h5,h6⟩
   ·exact hne (h1.trans h4.symm)
   ·have:=((I.obs j p' h5).at_lt h6).2;omega
  ·rcases same j p' b hp' hb' with⟨h4,h5,h6⟩|⟨h4,h5,h6⟩
   ·have:=((I.obs i p h2).at_lt h3).2;omega
   ·exact I.dis i j p p' b hne h2 h5 h3 h6
 ·by_cases hjk:j=k
  ·subst hjk
   rcases I.ext j hj with h|h
   ·omega
   ·exact .inr ((hle.γ j 0 h0).2.trans h)
  ·rcases I.ext j hj with h|h
   ·exact .inl ((hoj j hjk).1.trans h)
   ·by_cases h0:0<g.lim j
    ·exact .inr ((hle.γ j 0 h0).2.trans h)
    ·exact .inl ((hoj j hjk).1.trans (by omega))
theorem Inv.freshGr (I:Inv w0 σ0 ob w g){w':World}{k n z0:Nat}{e0:TypeId}{rows0:List (List D)}{p0:Bool}(hk:ob[k]? =some (.gr z0 e0 rows0 n p0))(hb:Below w.heap.size w w')(z:Nat)(e:TypeId)(rows:List (List D))(V:Value)(xs:List Value)
 (hown:w'.ownsRow w.heap.size e z V rows.length xs) (hz: ∀r∈rows,r.length=z)
 (hr: ∀(i j:Nat) (r:List D) (x:D),rows[i]? =some r→r[j]? =some x→ ∃u,xs[i*z+j]? =some u∧RD g.σ x u) (h1: ∀u∈xs,u.oneCell'=true):
 ∃g',g.le g'∧Inv w0 σ0 (ob.set k (.gr z e rows (n+1) false)) w' g'∧RT g' (.og k (n+1)) V:=by
 have hown':w'.ownsRow 0 e z V rows.length xs:=by
  refine⟨hown.1,?_⟩
  rcases hown.2 with h|⟨b,cap,cur,hv,hbb,rest⟩
  ·exact .inl h
  ·exact .inr ⟨b,cap,cur,hv,Nat.zero_le _,rest⟩
 have hlim:g.lim k=n+1:=(I.obs k _ hk).1
 let g':Gh:={ σ:=g.σ,γ:=fun j m=>if j=k∧m=n+1 then V else g.γ j m,lim:=fun j=>if j=k then n+2 else g.lim j,foot:=g.foot }
 have hle:g.le g':=⟨fun _ _ _ h=>h,fun j m hm=>by
  by_cases hj:j=k
  ·subst hj
   have:¬m=n+1:=by omega
   simp[g',this];omega
  ·simp[g',hj,hm]⟩
 have hγ:g'.γ k (n+1)=V:=by simp[g']
 refine⟨g',hle,I.turnB hk (by omega) hle rfl (fun j hj=>⟨by simp[g',hj],rfl⟩) hb ?_ ?_,?_⟩
 ·refine⟨by simp[g'],xs,⟨by rw[hγ];exact hown',fun b hb=>?_⟩,hz,hr,h1,fun b hbk=>?_⟩
  ·rw[hγ] at hb
   exact .inl (Nat.le_trans I.below.size (hown.lt b hb).1)
  ·simp only[Bool.false_eq_true,if_false]
   rw[hγ] at hbk
   exact fun o=>I.new_none (hown.lt b hbk).1 o
 ·intro b hb
  simp only[Gh.at,hγ] at hb
  exact(hown.lt b hb).1
 ·have:=RT.og (g:=g') k (n+1) (by simp[g'])
  rwa [hγ] at this
end
section
variable {E:Env}{N:Nm}{Q:Exit→St→Prop}{S:St}{ops l:List Oper}{ty:TypeId}{pos:String}{after:Array Edge}{gd:Option (Nat×Bool)}{d:Nat}{tm:Nat→T}{ob ob':List Ob}{G:List Nat}
theorem WL.bsF {t e:TypeId}{len:Nat}{parts:List (Nat×Operand)}{z j n z0:Nat}{e0:TypeId}{rows rows0:List (List D)}{p0:Bool}(hw:S.want ops ⟨some d,.buildSlice t len parts.toArray,ty,pos,after,gd⟩=some true)(hd:Nat.blt d N.n=true)
 (ht:(E.ty t).kind=.slice e) (he:(E.ty e).known=true) (hz:(E.ty e).size=z) (hz0:Nat.blt 0 z=true) (hlen:Nat.beq len parts.length=true) (hmax:Nat.ble (len*z) 16777216=true)
 (hrows:rowsOf S 0 parts=some rows) (hwd:widths z rows=true) (hj:S.ob[j]? =some (.gr z0 e0 rows0 n p0))
 (k:WL E.P N ops l Q ⟨(S.set d (.og j (n+1))).tm,S.ob.set j (.gr z e rows (n+1) false)⟩):WL E.P N ops (⟨some d,.buildSlice t len parts.toArray,ty,pos,after,gd⟩::l) Q S:=
 WL.eff (by simp) hw hd (fun w0 σ0 a w g R=>by
  obtain⟨xs,hrun,hown,h1,h2,h3⟩:=R.buildRun (d:=some d) (ty:=ty) (pos:=pos) (after:=after) (gd:=gd) ht he hz hz0 hlen hmax hrows hwd
  obtain⟨g',hle,I',ht'⟩:=R.inv.freshGr hj (below_alloc w _) z e rows _ xs hown h1 h2 h3
  exact⟨_,_,g',hrun,hle,I',ht'⟩) k
theorem OpS1.bsF {t e:TypeId}{len:Nat}{parts:List (Nat×Operand)}{z:Nat}{rows:List (List D)}(j:Nat){n z0:Nat}{e0:TypeId}{rows0:List (List D)}{p0:Bool}(hw:St.want ⟨tm,ob⟩ ops ⟨some d,.buildSlice t len parts.toArray,ty,pos,after,gd⟩=some true)(hd:Nat.blt d N.n=true)
 (ht:(E.ty t).kind=.slice e) (he:(E.ty e).known=true) (hz:(E.ty e).size=z) (hz0:Nat.blt 0 z=true) (hlen:Nat.beq len parts.length=true) (hmax:Nat.ble (len*z) 16777216=true)
 (hrows:rowsOf ⟨tm,ob⟩ 0 parts=some rows) (hwd:widths z rows=true) (hj:ob[j]? =some (.gr z0 e0 rows0 n p0)) (ho:ob.set j (.gr z e rows (n+1) false)=ob'):
 OpS1 E.P N ops ⟨some d,.buildSlice t len parts.toArray,ty,pos,after,gd⟩ tm (.og j (n+1)) ob ob':=fun tm' hag l Q k'=>by
 subst ho
 refine WL.bsF (S:=⟨tm',ob⟩) (by rw[want_agree hag];exact hw) hd ht he hz hz0 hlen hmax ?_ hwd hj k'
 rw[rowsOf_agree (S:=⟨tm,ob⟩) (S':=⟨tm',ob⟩) rfl parts 0 fun p hp=>ev_agree hag (by simp[Op.operands];exact⟨p.1,hp⟩)]
 exact hrows
theorem WE.bsF {w:Nat}{p:List Nat}{ps:List (Nat×List Nat)}{obF:Nat→List Ob}{K:(Nat→T)→Prop}{t:TypeId}{len:Nat}{parts:List (Nat×Operand)}(j n:Nat)(k:WE E.P N ops obF K ps l (upd tm d (.og j (n+1))))
 (h:AllF p (fun g=>OpS1 E.P N ops ⟨some d,.buildSlice t len parts.toArray,ty,pos,after,gd⟩ tm (.og j (n+1)) (obF g) (obF (g+w))):=by first|exact .n|(refine .c (OpS1.bsF _ (by exact rfl) (by exact rfl) (by exact rfl) (by exact rfl) (by exact rfl) (by exact rfl) (by exact rfl) (by exact rfl) (by exact rfl) (by exact rfl) (by exact rfl) (by exact rfl)) ?_;first|exact .n|(refine .c (OpS1.bsF _ (by exact rfl) (by exact rfl) (by exact rfl) (by exact rfl) (by exact rfl) (by exact rfl) (by exact rfl) (by exact rfl) (by exact rfl) (by exact rfl) (by exact rfl) (by exact rfl)) ?_;first|exact .n|(refine .c (OpS1.bsF _ (by exact rfl) (by exact rfl) (by exact rfl) (by exact rfl) (by exact rfl) (by exact rfl) (by exact rfl) (by exact rfl) (by exact rfl) (by exact rfl) (by exact rfl) (by exact rfl)) ?_;first|exact .n|(refine .c (OpS1.bsF _ (by exact rfl) (by exact rfl) (by exact rfl) (by exact rfl) (by exact rfl) (by exact rfl) (by exact rfl) (by exact rfl) (by exact rfl) (by exact rfl) (by exact rfl) (by exact rfl)) ?_;first|exact .n|(refine .c (OpS1.bsF _ (by exact rfl) (by exact rfl) (by exact rfl) (by exact rfl) (by exact rfl) (by exact rfl) (by exact rfl) (by exact rfl) (by exact rfl) (by exact rfl) (by exact rfl) (by exact rfl)) ?_;first|exact .n|(refine .c (OpS1.bsF _ (by exact rfl) (by exact rfl) (by exact rfl) (by exact rfl) (by exact rfl) (by exact rfl) (by exact rfl) (by exact rfl) (by exact rfl) (by exact rfl) (by exact rfl) (by exact rfl)) ?_;first|exact .n|(refine .c (OpS1.bsF _ (by exact rfl) (by exact rfl) (by exact rfl) (by exact rfl) (by exact rfl) (by exact rfl) (by exact rfl) (by exact rfl) (by exact rfl) (by exact rfl) (by exact rfl) (by exact rfl)) ?_;first|exact .n|(refine .c (OpS1.bsF _ (by exact rfl) (by exact rfl) (by exact rfl) (by exact rfl) (by exact rfl) (by exact rfl) (by exact rfl) (by exact rfl) (by exact rfl) (by exact rfl) (by exact rfl) (by exact rfl)) ?_;exact .n))))))))):
 WE E.P N ops obF K ((w,p)::ps) (⟨some d,.buildSlice t len parts.toArray,ty,pos,after,gd⟩::l) tm:=
 .mk _ h k
theorem WG.bsF {t e:TypeId}{len:Nat}{parts:List (Nat×Operand)}{z z0:Nat}{e0:TypeId}{rows rows0:List (List D)}{p0:Bool}(j n:Nat)
 (k:WG G E.P N ops l Q ⟨upd tm d (.og j (n+1)),ob.set j (.gr z e rows (n+1) false)⟩) (hw:St.want ⟨tm,ob⟩ ops ⟨some d,.buildSlice t len parts.toArray,ty,pos,after,gd⟩=some true:=by exact rfl) (hd:Nat.blt d N.n=true:=by exact rfl)
 (ht:(E.ty t).kind=.slice e:=by exact rfl) (he:(E.ty e).known=true:=by exact rfl) (hz:(E.ty e).size=z:=by exact rfl) (hz0:Nat.blt 0 z=true:=by exact rfl) (hlen:Nat.beq len parts.length=true:=by exact rfl) (hmax:Nat.ble (len*z) 16777216=true:=by exact rfl)
 (hrows:rowsOf ⟨tm,ob⟩ 0 parts=some rows:=by exact rfl) (hwd:widths z rows=true:=by exact rfl) (hj:ob[j]? =some (.gr z0 e0 rows0 n p0):=by exact rfl):WG G E.P N ops (⟨some d,.buildSlice t len parts.toArray,ty,pos,after,gd⟩::l) Q ⟨tm,ob⟩:=
 WL.bsF (S:=⟨tm,ob⟩) hw hd ht he hz hz0 hlen hmax hrows hwd hj k
def pubd (k n:Nat)(x:D):T→T
 |.og k' n'=>bif Nat.beq k' k&&Nat.beq n' n then .d x else .og k' n'
 |t=>t
theorem RT.pubd {w0:World}{σ0:Bs}{w:World}{g:Gh}{k n z:Nat}{e:TypeId}{rows:List (List D)}(I:Inv w0 σ0 ob w g)(hk:ob[k]? =some (.gr z e rows n true)){t:T}{u:Value}(h:RT g t u):RT g (pubd k n (.sl z rows) t) u:=by
 unfold Go.Proofs.YtmmjbpgdkokjgaaGreatDoor.pubd
 split
 ·rename_i k' n'
  cases hb:Nat.beq k' k&&Nat.beq n' n with
  |false=>exact h
  |true=>
   simp only[Bool.and_eq_true] at hb
   obtain rfl:=Nat.eq_of_beq_eq_true hb.1
   obtain rfl:=Nat.eq_of_beq_eq_true hb.2
   have:=I.norm h
   have e1:norm ob (.og k' n')=.d (.sl z rows):=by
    simp[norm,norm1,normC,hk]
   rw[e1] at this
   exact this
 ·exact h
theorem W.pubD {P:Program}{c:Code}(k:Nat){z n:Nat}{e:TypeId}{rows:List (List D)}(hk:S.ob[k]? =some (.gr z e rows n false))
 (h:W P N c Q ⟨fun i=>pubd k n (.sl z rows) (S.tm i),S.ob.set k (.gr z e rows n true)⟩):W P N c Q S:=fun w0 σ0 a w g r=>by
 obtain⟨g',hle,hlim,I⟩:=r.inv.pub hk
 have hlt:k<S.ob.length:=(List.getElem?_eq_some_iff.1 hk).1
 exact h w0 σ0 a w g' ⟨I,r.defers,r.size,r.hm,by simpa using r.hl,fun i=>((r.tm i).mono hle).pubd I (List.getElem?_set_self hlt)⟩
end
section
variable {E:Env}{N:Nm}{Q:Exit→St→Prop}{S:St}{ops l:List Oper}{ty:TypeId}{pos:String}{after:Array Edge}{gd:Option (Nat×Bool)}{d:Nat}{tm:Nat→T}{ob:List Ob}{G:List Nat}
theorem Rel.callG {w0:World}{σ0:Bs}{a:Act}{w:World}{g:Gh}(R:Rel N w0 σ0 S a w g){f:FuncId}{fop:Operand}{xs:List Operand}{tys:List TypeId}{cap args:List T}(as:List T){obA:List Ob}{Rr:T→List Ob→Prop}(r:Rn)
 (hc:FunQ E.P f args obA Rr) (hclo:cloOf (norm S.ob (S.ev fop))=some (f,cap)) (h1:as.length=xs.length) (h2: ∀(i:Nat) (x:T) (u:Value),as[i]? =some x→(xs.map a.eval)[i]? =some u→RT g x u) (ha:as++cap=T.renL r args) (hlp:T.lpOKL r args=true) (hK:r.K=S.ob.length) (hnd:nodupB r.idx=true)
 (hA:Nat.beq obA.length r.idx.length=true) (hs:startL r 0 obA=true) (hmt:matchO r S.ob 0 obA) (hal: ∀t obB,Rr t obB→aliveN r.idx.length obB=true)
 {dst:Option Nat} (K:Act→World→Prop) (QQ:Exit→Act→World→Prop)
 (k: ∀t obB,Rr t obB→ ∀v w' g',g.le g'→Inv w0 σ0 (mergeO r 0 S.ob r.idx obB) w' g'→RT g' (t.ren r) v→K (a.put dst v) w'):
 Oper.wp E.P ⟨dst,.call ⟨.value fop,xs.toArray,tys.toArray⟩,ty,pos,after,gd⟩ a w K QQ:=by
 have I:=R.inv
 obtain⟨vs,hv,hvl,hvr⟩:=(I.norm (R.ev fop)).clo_of hclo
 have hlen:obA.length=r.idx.length:=Nat.eq_of_beq_eq_true hA
 have hK': ∀k,r.K≤k→g.lim k=0:=fun k hk=>I.lim k (by omega)
 have hown: ∀i o b,obA[i]? =some o→(g.pull r).at i o b→ ∀x,g.σ b x=none:=fun i o b hi hb x=>by
  have h3:=startL_at hs i o hi
  have h4:=matchO_at hmt i o hi
  rw[Nat.zero_add] at h3 h4
  simp only[Ob.start,Bool.and_eq_true] at h3
  have hlt:i<r.idx.length:=by rw[←hlen];exact(List.getElem?_eq_some_iff.1 hi).1
  obtain⟨p1,p2⟩:=(I.obs _ _ h4).pull hK' hlt h3.1
  refine p1.hid (fun z e rows n he=>?_) hb x
  subst he
  simp at h3
 have hst:=I.start hK (nodupB_ok hnd) hlen hs hmt g.σ (fun _ _ _ h=>h) I.con hown
 unfold Oper.wp
 rw[run_callV hv hc.enter,Oper.upon_enter]
 obtain⟨p1,p2⟩:=RT.pullL (g:=g) (r:=r) hK' args (xs.map a.eval++vs) hlp (by rw[←ha];simp[h1,hvl]) (by
  rw[←ha]
  exact app_at (by simp[h1]) h2 hvr)
 refine(hc.calls w _ (xs.map a.eval++vs) hst p1.symm p2).mono fun e w' ⟨v,t,obB,g1,he,hR,J,hv⟩=>?_
 subst he
 obtain⟨g',hle,I',hmap⟩:=I.behind hK (by rw[R.hm];exact R.hl) (nodupB_ok hnd) hlen hs hmt g.σ J (.inl fun _ _=>rfl) (hal t obB hR)
 exact k t obB hR v w' g' hle I' (hmap t v hv (.inl fun _ _=>rfl))
theorem WG.cqN {f:FuncId}{fop:Operand}{xs:List Operand}{tys:List TypeId}{cap args:List T}{obA obB ob2:List Ob}{t t':T}(p:Nat)(e:TypeId)(z:Nat)(idx off:List Nat){K:Nat}(hw:St.want ⟨tm,ob⟩ ops ⟨some d,.call ⟨.value fop,xs.toArray,tys.toArray⟩,ty,pos,after,gd⟩=some true)(hd:Nat.blt d N.n=true)
 (hc:FunQ E.P f args obA (just t obB)) (hclo:cloOf (norm (ob++[.gr z e [] 0 false]) (St.ev ⟨tm,ob++[.gr z e [] 0 false]⟩ fop))=some (f,cap)) (hp:(xs[p]?).map (St.ev ⟨tm,ob⟩)=some (.d (.v (.slice none 0 0)))) (hK:K=ob.length+1)
 (ha:(argsT E ⟨tm,ob++[.gr z e [] 0 false]⟩ false xs tys).set p (.og ob.length 0)++cap=T.renL ⟨idx,off,K⟩ args) (hlp:T.lpOKL ⟨idx,off,K⟩ args=true) (hnd:nodupB idx=true)
 (hA:Nat.beq obA.length idx.length=true) (hs:startL ⟨idx,off,K⟩ 0 obA=true) (hmt:matchO ⟨idx,off,K⟩ (ob++[.gr z e [] 0 false]) 0 obA) (hal:aliveN idx.length obB=true)
 (ht:T.ren ⟨idx,off,K⟩ t=t') (ho:mergeO ⟨idx,off,K⟩ 0 (ob++[.gr z e [] 0 false]) idx obB=ob2)
 (k:WG G E.P N ops l Q ⟨upd tm d t',ob2⟩):WG G E.P N ops (⟨some d,.call ⟨.value fop,xs.toArray,tys.toArray⟩,ty,pos,after,gd⟩::l) Q ⟨tm,ob⟩:=by
 subst ht;subst ho
 refine WL.oper (S:=⟨tm,ob⟩) hw fun w0 σ0 a w g R=>?_
 obtain⟨g',hle,I,hnil⟩:=R.inv.adopt (by rw[R.hm];exact R.hl) z e
 have R':Rel N w0 σ0 ⟨tm,ob++[.gr z e [] 0 false]⟩ a w g':=⟨I,R.defers,R.size,R.hm,by have:=R.hl;simp at this ⊢;omega,fun i=>(R.tm i).mono hle⟩
 obtain⟨h1,h2⟩:=R'.argsL (E:=E) false xs tys
 refine R'.callG ((argsT E ⟨tm,ob++[.gr z e [] 0 false]⟩ false xs tys).set p (.og ob.length 0)) ⟨idx,off,K⟩ hc hclo (by simpa using h1) (fun i x u hx hu=>?_) ha hlp (by simp[hK]) hnd hA hs hmt (fun t2 o2 h=>by obtain⟨rfl,rfl⟩:=h;exact hal) _ _ fun t2 o2 hR v w' g2 hle2 I' hv=>?_
 ·by_cases hi:p=i
  ·subst hi
   have hx2:x=.og ob.length 0:=by
    have hlt:p<(argsT E ⟨tm,ob++[.gr z e [] 0 false]⟩ false xs tys).length:=by
     have:=(List.getElem?_eq_some_iff.1 hx).1
     simpa using this
    rw[List.getElem?_set_self hlt] at hx
    exact(Option.some.inj hx).symm
   subst hx2
   rw[List.getElem?_map] at hu
   cases hxp:xs[p]? with
   |none=>rw[hxp] at hu;cases hu
   |some q=>
    rw[hxp] at hu hp
    simp only[Option.map_some,Option.some.injEq] at hu hp
    have:=R.ev q
    rw[hp] at this
    have hv:=this.inv_v
    rw[←hu,hv]
    exact hnil
  ·rw[List.getElem?_set_ne hi] at hx
   exact h2 i x u hx hu
 ·obtain⟨rfl,rfl⟩:=hR
  have r':Rel N w0 σ0 ⟨tm,mergeO ⟨idx,off,K⟩ 0 (ob++[.gr z e [] 0 false]) idx o2⟩ a w' g2:=⟨I',R'.defers,R'.size,R'.hm,Nat.le_trans R'.hl (mergeO_length ..),fun i=>(R'.tm i).mono hle2⟩
  exact k w0 σ0 _ w' g2 (r'.set (by simpa using hd) hv)
theorem WG.nilB {t e:TypeId}{rt:TypeId}{x:Operand}{z:Nat}{rows:List (List D)}(hw:St.want ⟨tm,ob⟩ ops ⟨some d,.binOp .eql t x (.const (.slice none 0 0)) rt,ty,pos,after,gd⟩=some true)(hd:Nat.blt d N.n=true)
 (ht:(E.ty t).kind=.slice e) (hx:St.ev ⟨tm,ob⟩ x=.d (.sl z rows))
 (k: ∀b:Bool,(b=true→rows=[])→WG G E.P N ops l Q ⟨upd tm d (.d (.v (.bool b))),ob⟩):WG G E.P N ops (⟨some d,.binOp .eql t x (.const (.slice none 0 0)) rt,ty,pos,after,gd⟩::l) Q ⟨tm,ob⟩:=
 WL.oper (S:=⟨tm,ob⟩) hw fun w0 σ0 a w g R=>by
  have hv:=R.ev x
  rw[hx] at hv
  have hv2:=hv.inv_d
  obtain⟨A,n,c,hu,hn⟩: ∃A n c,a.eval x=.slice A n c∧(A.isNone=true→rows=[]):=by
   generalize a.eval x=u at hv2
   cases hv2 with
   |nil _ A=>exact⟨_,_,_,rfl,fun _=>rfl⟩
   |sl _ _ b off cap U hcap hm hz hc hr=>exact⟨_,_,_,rfl,fun h=>by simp at h⟩
  have h1:=Go.run_eql_slice_nil (P:=E.P) w t e A n c (E.slice ht)
  have h2:a.eval (.const (.slice none 0 0))=.slice none 0 0:=rfl
  have h3:eqGuard .eql t x (.const (.slice none 0 0)) (.slice A n c) (.slice none 0 0)=pure ():=by simp[eqGuard]
  unfold Oper.wp Oper.upon
  simp only[execOp,hu,h2,h3]
  simp only[Sem.run_bind,Sem.run_pure,Result.andThen_ok,h1]
  exact k A.isNone hn w0 σ0 _ w g (R.set (by simpa using hd) (.d _ _ (.v _)))
end
section
variable {P:Program}{E:Env}{N:Nm}{K:(Nat→T)→Prop}{tm tm':Nat→T}{ob ob':List Ob}{ops l:List Oper}{o:Oper}{op:Op}{ty:TypeId}{pos:String}{after:Array Edge}{gd:Option (Nat×Bool)}{d w:Nat}{dst:Option Nat}{ps:List (Nat×List Nat)}{p:List Nat}{obF:Nat→List Ob}
theorem OpS1.coG {f:FuncId}{xs:List Operand}{tys:List TypeId}{args:List D}{z KK:Nat}{e:TypeId}{rows:List (List D)}(hw:St.want ⟨tm,ob⟩ ops ⟨some d,.call ⟨.value (.func f),xs.toArray,tys.toArray⟩,ty,pos,after,gd⟩=some true)(hd:Nat.blt d N.n=true)
 (hc:Fun E.P f args (.og 0 0) [.gr z e rows 0 false]) (ha:argsOf E ⟨tm,ob⟩ xs tys=some args) (hK:ob.length=KK) (ho:ob++[.gr z e rows 0 false]=ob'):
 OpS1 E.P N ops ⟨some d,.call ⟨.value (.func f),xs.toArray,tys.toArray⟩,ty,pos,after,gd⟩ tm (.og KK 0) ob ob':=fun tm' hag l Q k'=>by
 subst ho
 exact WG.coG (G:=[]) (by rw[want_agree hag];exact hw) hd hc (by rw[argsOf_agree (S:=⟨tm,ob⟩) (S':=⟨tm',ob⟩) rfl fun x hx=>ev_agree hag (by simp only[Op.operands,Call.operands,Array.toList_append,List.mem_append];exact .inr (by simpa using hx))];exact ha) hK k'
theorem OpS1.bsO {t e:TypeId}{len:Nat}{parts:List (Nat×Operand)}{z KK:Nat}{rows:List (List D)}(hw:St.want ⟨tm,ob⟩ ops ⟨some d,.buildSlice t len parts.toArray,ty,pos,after,gd⟩=some true)(hd:Nat.blt d N.n=true)
 (ht:(E.ty t).kind=.slice e) (he:(E.ty e).known=true) (hz:(E.ty e).size=z) (hz0:Nat.blt 0 z=true) (hlen:Nat.beq len parts.length=true) (hmax:Nat.ble (len*z) 16777216=true)
 (hrows:rowsOf ⟨tm,ob⟩ 0 parts=some rows) (hwd:widths z rows=true) (hK:ob.length=KK) (ho:ob++[.gr z e rows 0 false]=ob'):
 OpS1 E.P N ops ⟨some d,.buildSlice t len parts.toArray,ty,pos,after,gd⟩ tm (.og KK 0) ob ob':=fun tm' hag l Q k'=>by
 subst ho;subst hK
 refine WL.buildSlice (S:=⟨tm',ob⟩) (by rw[want_agree hag];exact hw) hd ht he hz hz0 hlen hmax (by
  rw[rowsOf_agree (S:=⟨tm,ob⟩) (S':=⟨tm',ob⟩) rfl parts 0 fun p hp=>ev_agree hag (by simp[Op.operands];exact⟨p.1,hp⟩)]
  exact hrows) hwd k'
end
section
variable {w0:World}{σ0:Bs}{ob:List Ob}{w:World}{g:Gh}
theorem Inv.newF (I:Inv w0 σ0 ob w g){w':World}(hb:Below w.heap.size w w'){j:Nat}(hj:ob[j]? =some .new)(hm:σ0.m≤j)(o:Ob)(V:Value)(F:Nat→Prop)
 (hnew: ∀g':Gh,g.le g'→g'.σ=g.σ→g'.lim j=1→g'.γ j 0=V→g'.foot j=F→ObOK (mineB w0 σ0) g' w' j o∧ ∀b,g'.at j o b→w.heap.size≤b):
 ∃g',g.le g'∧g'.σ=g.σ∧g'.lim j=1∧g'.γ j 0=V∧Inv w0 σ0 (ob.set j o) w' g':=by
 have h0:g.lim j=0:=I.obs j _ hj
 let g':Gh:={ σ:=g.σ,γ:=fun k n=>if k=j then V else g.γ k n,lim:=fun k=>if k=j then 1 else g.lim k,foot:=fun k=>if k=j then F else g.foot k }
 have hle:g.le g':=⟨fun _ _ _ h=>h,fun k n hn=>by
  have:¬k=j:=fun e=>by subst e;omega
  simp[g',this,hn]⟩
 obtain⟨hok,hblk⟩:=hnew g' hle rfl (by simp[g']) (by simp[g']) (by simp[g'])
 exact⟨g',hle,rfl,by simp[g'],by simp[g'],I.turnM hj (fun _ _ _ _ h=>by cases h) (.inr hm) hle rfl (fun i hi=>by simp[g',hi]) hb.os hb.tape hb.output hb.size (fun b hb' _=>hb.block b hb') hok fun b hb'=>.inr (hblk b hb')⟩
theorem Inv.newPv (I:Inv w0 σ0 ob w g){j:Nat}(hj:ob[j]? =some .new)(hm:σ0.m≤j)(e:TypeId)(cs:List T)(vs:List Value)(hl:cs.length=vs.length)
 (h: ∀(i:Nat) (x:T) (u:Value),cs[i]? =some x→vs[i]? =some u→RT g x u) (h1: ∀u∈vs,u.oneCell'=true):
 ∃g',g.le g'∧Inv w0 σ0 (ob.set j (.pv cs)) (w.alloc (.cells vs.toArray e)) g'∧RT g' (.lp j 0) (.pointer (some ⟨w.heap.size,0,none⟩)):=by
 obtain⟨g',hle,hσ,hl1,hγ,I'⟩:=I.newF (below_alloc w (.cells vs.toArray e)) hj hm (.pv cs) (.pointer (some ⟨w.heap.size,0,none⟩)) (fun _=>False) (fun g' hle hσ hl1 hγ _=>by
  refine⟨⟨hl1,w.heap.size,vs,e,hγ,.inl I.below.size,heap_alloc_new w _,hl,fun i x u hx hu=>(h i x u hx hu).mono hle,h1,fun o=>?_⟩,fun b hb=>?_⟩
  ·rw[hσ];exact I.new_none (Nat.le_refl _) o
  ·simp only[Gh.at,hγ,Value.pointer.injEq,Option.some.injEq,Addr.mk.injEq,and_true] at hb;omega)
 exact⟨g',hle,I',.lp _ _ _ (by omega) hγ⟩
theorem Inv.newGr (I:Inv w0 σ0 ob w g){j:Nat}(hj:ob[j]? =some .new)(hm:σ0.m≤j){w':World}(hb:Below w.heap.size w w')(z:Nat)(e:TypeId)(rows:List (List D))(V:Value)(xs:List Value)
 (hown:w'.ownsRow w.heap.size e z V rows.length xs) (hz: ∀r∈rows,r.length=z)
 (hr: ∀(i j:Nat) (r:List D) (x:D),rows[i]? =some r→r[j]? =some x→ ∃u,xs[i*z+j]? =some u∧RD g.σ x u) (h1: ∀u∈xs,u.oneCell'=true):
 ∃g',g.le g'∧Inv w0 σ0 (ob.set j (.gr z e rows 0 false)) w' g'∧RT g' (.og j 0) V:=by
 have hown':w'.ownsRow 0 e z V rows.length xs:=by
  refine⟨hown.1,?_⟩
  rcases hown.2 with h|⟨b,cap,cur,hv,hbb,rest⟩
  ·exact .inl h
  ·exact .inr ⟨b,cap,cur,hv,Nat.zero_le _,rest⟩
 obtain⟨g',hle,hσ,hl1,hγ,I'⟩:=I.newF hb hj hm (.gr z e rows 0 false) V (fun _=>False) (fun g' hle hσ hl1 hγ _=>by
  refine⟨⟨hl1,xs,⟨by rw[hγ];exact hown',fun b hb=>?_⟩,hz,fun i j r x hri hx=>?_,h1,fun b hbk=>?_⟩,fun b hbk=>?_⟩
  ·rw[hγ] at hb
   exact .inl (Nat.le_trans I.below.size (hown.lt b hb).1)
  ·obtain⟨u,hu,hd⟩:=hr i j r x hri hx
   exact⟨u,hu,hσ▸hd⟩
  ·simp only[Bool.false_eq_true,if_false]
   rw[hγ] at hbk
   rw[hσ]
   exact fun o=>I.new_none (hown.lt b hbk).1 o
  ·simp only[Gh.at,hγ] at hbk
   exact(hown.lt b hbk).1)
 refine⟨g',hle,I',?_⟩
 have:=RT.og (g:=g') j 0 (by omega)
 rwa [hγ] at this
end
theorem St.imp.new {N:Nm}{S:St}:St.imp N S ⟨S.tm,S.ob++[.new]⟩:=fun w0 σ0 a w g r=>by
 have I:=r.inv
 have hget: ∀(k:Nat) (p:Ob),(S.ob++[Ob.new])[k]? =some p→S.ob[k]? =some p∨(k=S.ob.length∧p=.new):=fun k p hp=>by
  rcases Nat.lt_trichotomy k S.ob.length with h|h|h
  ·rw[List.getElem?_append_left h] at hp;exact .inl hp
  ·subst h;simp at hp;exact .inr ⟨rfl,hp.symm⟩
  ·rw[List.getElem?_append_right (by omega)] at hp
   rw[List.getElem?_eq_none (by simp;omega)] at hp;cases hp
 refine⟨g,⟨I.below,I.old,I.con,fun k p hp=>?_,fun k hk=>I.lim k (by simp at hk;omega),fun k k' p p' b hne hp hp' hbk=>?_,I.ext⟩,r.defers,r.size,r.hm,by simp;exact Nat.le_succ_of_le r.hl,r.tm⟩
 ·rcases hget k p hp with h|⟨rfl,rfl⟩
  ·exact I.obs k p h
  ·exact I.lim _ (Nat.le_refl _)
 ·rcases hget k p hp with h|⟨rfl,rfl⟩
  ·rcases hget k' p' hp' with h'|⟨rfl,rfl⟩
   ·exact I.dis k k' p p' b hne h h' hbk
   ·exact fun h=>h
  ·exact hbk.elim
section
variable {E:Env}{N:Nm}{Q:Exit→St→Prop}{S:St}{ops l:List Oper}{ty:TypeId}{pos:String}{after:Array Edge}{gd:Option (Nat×Bool)}{d:Nat}
theorem WL.allocN {t:TypeId}{j:Nat}(hw:S.want ops ⟨some d,.alloc t,ty,pos,after,gd⟩=some true)(hd:Nat.blt d N.n=true)(hk:(E.ty t).known=true)(hj:S.ob[j]? =some .new)(hm:Nat.ble N.m j=true)
 (k:WL E.P N ops l Q ⟨(S.set d (.lp j 0)).tm,S.ob.set j (.pv ((E.ty t).zero.map .d))⟩):WL E.P N ops (⟨some d,.alloc t,ty,pos,after,gd⟩::l) Q S:=
 WL.eff (by simp) hw hd (fun w0 σ0 a w g r=>by
  obtain⟨inf,z,hinf,hsz,_,hz,hzs,hzc⟩:=E.info hk
  obtain⟨h1,h2,h3⟩:=zerosAre_ok hzs
  obtain⟨g',hle,I',ht⟩:=r.inv.newPv hj (by rw[r.hm];exact Nat.le_of_ble_eq_true hm) t ((E.ty t).zero.map .d) z.cells.toList (by simpa using h1) (fun i x u hx hu=>by
   simp only[List.getElem?_map,Option.map_eq_some_iff] at hx
   obtain⟨y,hy,rfl⟩:=hx
   exact .d _ _ (h3 _ i y u hy hu)) h2
  refine⟨_,_,g',?_,hle,I',ht⟩
  simp[execOp,Instr.alloc,zeroValue,typeInfo,hinf,hz,newVar,newRow]) k
end
section
variable {P:Program}{E:Env}{N:Nm}{K:(Nat→T)→Prop}{tm tm':Nat→T}{ob ob':List Ob}{ops l:List Oper}{o:Oper}{op:Op}{ty:TypeId}{pos:String}{after:Array Edge}{gd:Option (Nat×Bool)}{d w:Nat}{dst:Option Nat}{ps:List (Nat×List Nat)}{p:List Nat}{obF:Nat→List Ob}
theorem OpS1.alN {t:TypeId}{zs:List D}(j:Nat)(hw:St.want ⟨tm,ob⟩ ops ⟨some d,.alloc t,ty,pos,after,gd⟩=some true)(hd:Nat.blt d N.n=true)(hk:(E.ty t).known=true)(hz:(E.ty t).zero=zs)
 (hj:ob[j]? =some .new) (hm:Nat.ble N.m j=true) (ho:ob.set j (.pv (zs.map .d))=ob'):
 OpS1 E.P N ops ⟨some d,.alloc t,ty,pos,after,gd⟩ tm (.lp j 0) ob ob':=fun tm' hag l Q k'=>by
 subst ho;subst hz
 exact WL.allocN (S:=⟨tm',ob⟩) (by rw[want_agree hag];exact hw) hd hk hj hm k'
theorem OpS1.bd {t:TypeId}{parts:List (Nat×Operand)}{cs:List T}{r:T}(hw:St.want ⟨tm,ob⟩ ops ⟨some d,.build t parts.toArray,ty,pos,after,gd⟩=some true)(hd:Nat.blt d N.n=true)
 (ha:(E.ty t).agg=true) (hf:fillT ob (E.ty t).offs ((E.ty t).zero.map .d) (evParts ⟨tm,ob⟩ parts)=some cs) (hr:mkAgg cs=r):
 OpS1 E.P N ops ⟨some d,.build t parts.toArray,ty,pos,after,gd⟩ tm r ob ob:=fun tm' hag l Q k'=>by
 subst hr
 have e:evParts ⟨tm',ob⟩ parts=evParts ⟨tm,ob⟩ parts:=List.map_congr_left fun p hp=>by
  rw[ev_agree hag (by simp[Op.operands];exact⟨p.1,hp⟩)]
 exact WL.build (S:=⟨tm',ob⟩) (by rw[want_agree hag];exact hw) hd ha (by rw[e];exact hf) k'
theorem WE.bd' {t:TypeId}{parts:List (Nat×Operand)}{r:T}(k:WE E.P N ops obF K ps l (upd tm d r))(h:AllF p (fun g=>OpS1 E.P N ops ⟨some d,.build t parts.toArray,ty,pos,after,gd⟩ tm r (obF g) (obF (g+w))):=by first|exact .n|(refine .c (OpS1.bd (by exact rfl) (by exact rfl) (by exact rfl) (by exact rfl) (by exact rfl)) ?_;first|exact .n|(refine .c (OpS1.bd (by exact rfl) (by exact rfl) (by exact rfl) (by exact rfl) (by exact rfl)) ?_;first|exact .n|(refine .c (OpS1.bd (by exact rfl) (by exact rfl) (by exact rfl) (by exact rfl) (by exact rfl)) ?_;first|exact .n|(refine .c (OpS1.bd (by exact rfl) (by exact rfl) (by exact rfl) (by exact rfl) (by exact rfl)) ?_;first|exact .n|(refine .c (OpS1.bd (by exact rfl) (by exact rfl) (by exact rfl) (by exact rfl) (by exact rfl)) ?_;first|exact .n|(refine .c (OpS1.bd (by exact rfl) (by exact rfl) (by exact rfl) (by exact rfl) (by exact rfl)) ?_;first|exact .n|(refine .c (OpS1.bd (by exact rfl) (by exact rfl) (by exact rfl) (by exact rfl) (by exact rfl)) ?_;first|exact .n|(refine .c (OpS1.bd (by exact rfl) (by exact rfl) (by exact rfl) (by exact rfl) (by exact rfl)) ?_;exact .n))))))))):WE E.P N ops obF K ((w,p)::ps) (⟨some d,.build t parts.toArray,ty,pos,after,gd⟩::l) tm:=
 .mk r h k
theorem WE.alN' {t:TypeId}(j:Nat)(k:WE E.P N ops obF K ps l (upd tm d (.lp j 0)))(h:AllF p (fun g=>OpS1 E.P N ops ⟨some d,.alloc t,ty,pos,after,gd⟩ tm (.lp j 0) (obF g) (obF (g+w))):=by first|exact .n|(refine .c (OpS1.alN _ (by exact rfl) (by exact rfl) (by exact rfl) (by exact rfl) (by exact rfl) (by exact rfl) (by exact rfl)) ?_;first|exact .n|(refine .c (OpS1.alN _ (by exact rfl) (by exact rfl) (by exact rfl) (by exact rfl) (by exact rfl) (by exact rfl) (by exact rfl)) ?_;first|exact .n|(refine .c (OpS1.alN _ (by exact rfl) (by exact rfl) (by exact rfl) (by exact rfl) (by exact rfl) (by exact rfl) (by exact rfl)) ?_;first|exact .n|(refine .c (OpS1.alN _ (by exact rfl) (by exact rfl) (by exact rfl) (by exact rfl) (by exact rfl) (by exact rfl) (by exact rfl)) ?_;exact .n))))):WE E.P N ops obF K ((w,p)::ps) (⟨some d,.alloc t,ty,pos,after,gd⟩::l) tm:=
 .mk (.lp j 0) h k
variable {Q:Exit→St→Prop}{G:List Nat}
theorem WG.bsD {t e:TypeId}{len:Nat}{parts:List (Nat×Operand)}{z:Nat}{rows:List (List D)}
 (k:WG G E.P N ops l Q ⟨upd tm d (.d (.sl z rows)),ob⟩) (hw:St.want ⟨tm,ob⟩ ops ⟨some d,.buildSlice t len parts.toArray,ty,pos,after,gd⟩=some true:=by exact rfl) (hd:Nat.blt d N.n=true:=by exact rfl)
 (ht:(E.ty t).kind=.slice e:=by exact rfl) (he:(E.ty e).known=true:=by exact rfl) (hz:(E.ty e).size=z:=by exact rfl) (hz0:Nat.blt 0 z=true:=by exact rfl) (hlen:Nat.beq len parts.length=true:=by exact rfl) (hmax:Nat.ble (len*z) 16777216=true:=by exact rfl)
 (hrows:rowsOf ⟨tm,ob⟩ 0 parts=some rows:=by exact rfl) (hwd:widths z rows=true:=by exact rfl):WG G E.P N ops (⟨some d,.buildSlice t len parts.toArray,ty,pos,after,gd⟩::l) Q ⟨tm,ob⟩:=
 WL.bsD (S:=⟨tm,ob⟩) hw hd ht he hz hz0 hlen hmax hrows hwd k
end
end Go.Proofs.YtmmjbpgdkokjgaaGreatDoor
