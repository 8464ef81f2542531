/-
  A text of this claim. Conditions: none.
-/
import Derived.Test.YtmmjbpgdkokjgaaGreatDoorQLOr1
import Derived.Test.YtmmjbpgdkokjgaaGreatDoorQLPgD
import Derived.Test.YtmmjbpgdkokjgaaGreatDoorQLV6
import Derived.Test.YtmmjbpgdkokjgaaGreatDoorQLPgF
import Derived.Test.YtmmjbpgdkokjgaaGreatDoorQLPgE
import Derived.Test.YtmmjbpgdkokjgaaGreatDoorQLRf1
set_option linter.unusedVariables false
set_option linter.unusedSimpArgs false
set_option maxRecDepth 100000
set_option maxHeartbeats 16000000
namespace Go.Proofs.YtmmjbpgdkokjgaaGreatDoor
open Go.RowKit
structure Co where
 op:Int
 a:Int
 b:Int
 c:Int
 num:Int
 val:List Cell
 deriving Inhabited,DecidableEq
def Co.row (n:Co):List D:=[dI n.op,dI n.a,dI n.b,dI n.c,dI n.num,cellsD n.val]
abbrev coresD (ns:List Co):D:=.sl 6 (ns.map Co.row)
def Co.fine (n:Co):Prop:=(∀c∈n.val,c.text.size≤1048576∧c.key.size≤1048576)∧n.val.length≤1048576
def arC (op:Int):Nat:=
 if op=3∨op=4∨op=5∨op=6∨op=7∨op=11∨op=14 then 2
 else if op=8∨op=9∨op=10 then 1
 else if op=12∨op=13 then 3 else 0
theorem arC_le (op:Int):arC op≤3:=by unfold arC;(repeat' split)<;>omega
def hasVl (op:Int):Bool:=decide (op=2∨op=11)
def hasNc (op:Int):Bool:=decide (op=6∨op=13∨op=14∨op=15∨op=16)
theorem coreArity_fn (op:Int):Fun env.P 120 [dI op] (.d (dI (arC op))) []:=by
 refine Fun.intro Tryz.func120 rfl (by kernel_rfl) rfl ?_
 repeat'(first|refine Z1 ?_|((refine SP (fun h=>?_) fun h=>?_)<;>(try(exfalso;first|contradiction|omega))))
 all_goals (refine W.ret ?_;(first|refine RetQ.i' ?_))
 all_goals simp [arC, *]
theorem l6Kids_fn (op:Int):Fun env.P 93 [dI op] (.d (dI (arC op))) []:=by
 refine Fun.intro Tryz.func93 rfl (by kernel_rfl) rfl ?_
 repeat'(first|refine Z1 ?_|((refine SP (fun h=>?_) fun h=>?_)<;>(try(exfalso;first|contradiction|omega))))
 all_goals (refine W.ret ?_;(first|refine RetQ.i' ?_))
 all_goals simp [arC, *]
def numHiC (op:Int):Int:=if op=6 then 11 else if op=13∨op=14∨op=15 then 59 else if op=16 then 8 else 0
def numLoC (op:Int):Int:=if op=6∨op=16 then 1 else 0
theorem l6Nums_fn (op:Int):Fun env.P 148 [dI op] (.tup [.d (dI (numLoC op)),.d (dI (numHiC op))]) []:=by
 refine Fun.intro Tryz.func148 rfl (by kernel_rfl) rfl ?_
 repeat'(first|refine Z1 ?_|((refine SP (fun h=>?_) fun h=>?_)<;>(try(exfalso;first|contradiction|omega))))
 all_goals (refine W.ret ?_;(first|refine RetQ.t2' ?_ ?_))
 all_goals (simp[numLoC,numHiC, *];rfl)
def numOkC (n:Co):Bool:=if hasNc n.op then decide (numLoC n.op≤n.num)&&decide (n.num≤numHiC n.op) else true
theorem l6HasVal_fn (op:Int):Fun env.P 36 [dI op] (.d (dB (hasVl op))) []:=by
 refine Fun.intro Tryz.func36 rfl (by kernel_rfl) rfl ?_
 repeat'(first|refine Z1 ?_|((refine SP (fun h=>?_) fun h=>?_)<;>(try(exfalso;first|contradiction|omega))))
 all_goals (refine W.ret ?_;(first|refine RetQ.b' ?_))
 all_goals simp [hasVl, *]
theorem hasVal_fn (n:Co):Fun env.P 69 [.agg n.row] (.d (dB (hasVl n.op))) []:=by
 refine Fun.intro Tryz.func69 rfl (by kernel_rfl) rfl ?_
 repeat'(first|refine Z1 ?_|((refine SP (fun h=>?_) fun h=>?_)<;>(try(exfalso;first|contradiction|omega))))
 all_goals (refine W.ret ?_;(first|refine RetQ.b' ?_))
 all_goals simp [hasVl, *]
theorem hasNum_fn (n:Co):Fun env.P 121 [.agg n.row] (.d (dB (hasNc n.op))) []:=by
 refine Fun.intro Tryz.func121 rfl (by kernel_rfl) rfl ?_
 repeat'(first|refine Z1 ?_|((refine SP (fun h=>?_) fun h=>?_)<;>(try(exfalso;first|contradiction|omega))))
 all_goals (refine W.ret ?_;(first|refine RetQ.b' ?_))
 all_goals simp [hasNc, *]
theorem isCoreNum_fn (n:Co):Fun env.P 71 [.agg n.row] (.d (dB (numOkC n))) []:=by
 refine Fun.intro Tryz.func71 rfl (by kernel_rfl) rfl ?_
 repeat'(first|refine Z1 ?_|refine WG.c (E:=env) rfl rfl (within_fn _ _ _) rfl rfl ?_|((refine SP (fun h=>?_) fun h=>?_)<;>(try(exfalso;first|contradiction|omega))))
 all_goals (refine W.ret ?_;(first|refine RetQ.b' ?_))
 all_goals simp [numOkC,hasNc,numLoC,numHiC, *]
def Co.named (n:Co):List Int:=[n.a,n.b,n.c].take (arC n.op)
def kidC (n:Co)(i:Nat):Int:=if i=0 then n.a else if i=1 then n.b else n.c
def kidCB (n:Co)(k:Nat)(i:Nat):Bool:=if i<arC n.op then decide (0≤kidC n i)&&decide (kidC n i≤(k:Int) - 1) else decide (kidC n i=0)
def formC3 (n:Co)(k:Nat):Bool:=kidCB n k 0&&kidCB n k 1&&kidCB n k 2&&(hasNc n.op||decide (n.num=0))&&(hasVl n.op||decide (n.val.length=0))
theorem l6Kid_fn (n:Co)(i:Nat)(h:i<3):Fun env.P 95 [.agg n.row,dI i] (.d (dI (kidC n i))) []:=by
 refine Fun.intro Tryz.func95 rfl (by kernel_rfl) rfl ?_
 repeat'(first|refine Z1 ?_|((refine SP (fun h=>?_) fun h=>?_)<;>(try(exfalso;first|contradiction|omega))))
 all_goals (refine W.ret ?_;(first|refine RetQ.i' ?_))
 all_goals (simp[kidC];first|done|omega|(intro h;omega)|skip)
theorem namedC_fn (n:Co):Fun env.P 73 [.agg n.row] (.d (.sl 1 (n.named.map intRow))) []:=by
 have ha:=coreArity_fn n.op
 have hle:=arC_le n.op
 refine Fun.intro Tryz.func73 rfl (by kernel_rfl) rfl ?_
 repeat'(first|refine Z1 ?_|refine WD.c (E:=env) rfl rfl (ha) rfl rfl ?_)
 (refine W.ret ?_;(first|refine RetQ.d' ?_))
 simp[Co.named,List.map_take]
 rfl
def Co.abc (n:Co):List Int:=[n.a,n.b,n.c]
theorem Co.abc_length (n:Co):n.abc.length=3:=rfl
theorem Co.abc_at (n:Co)(i:Nat)(h:i<3):n.abc.getD i default=kidC n i:=by
 have:i=0∨i=1∨i=2:=by omega
 rcases this with rfl|rfl|rfl<;>rfl
theorem formC3_of {n:Co}{k i:Nat}(hi:i<3)(h:kidCB n k i=false):formC3 n k=false:=by
 have:i=0∨i=1∨i=2:=by omega
 unfold formC3
 rcases this with rfl|rfl|rfl<;>simp[h]
theorem formsOkC_fn (n:Co)(k:Nat)(hk:k≤1048576):Fun env.P 68 [.agg n.row,dI k] (.d (dB (formC3 n k))) []:=by
 have ha:=coreArity_fn n.op
 have hle:=arC_le n.op
 have ht:=hasVal_fn n
 have hu:=hasNum_fn n
 refine Fun.intro Tryz.func68 rfl (by kernel_rfl) rfl ?_
 repeat'(first|refine Z1 ?_|((refine SP (fun h=>?_) fun h=>?_)<;>(try(exfalso;first|contradiction|omega))))
 refine W.pubD 1 rfl ?_
 refine W.loop (fun m S=> ∃i:Nat,m=3 - i∧(i≤3∧ ∀j,j<i→kidCB n k j=true)∧S=⟨ofL [(1,vI .i64 k),(2,.lp 0 0),(13,.d (.sl 1 (n.abc.map intRow))),(14,vI .i64 3),(15,vI .i64 i)],[.pv (n.row.map .d)]⟩) _ _ ⟨0,rfl,⟨by omega,fun j hj=>by omega⟩,rfl⟩ lE ?_
 rintro m S ⟨i,rfl,⟨hi,hb⟩,rfl⟩
 have hkid:=n.abc_at i
 have h3:=n.abc_length
 repeat'(first|refine Z1 ?_|refine WG.c (E:=env) rfl rfl (ha) rfl rfl ?_|refine WG.c (E:=env) rfl rfl (within_fn _ _ _) rfl rfl ?_|refine WG.c (E:=env) rfl rfl (ht) rfl rfl ?_|refine WG.c (E:=env) rfl rfl (hu) rfl rfl ?_|((refine SP (fun h=>?_) fun h=>?_)<;>(try(exfalso;first|contradiction|omega))))
 all_goals (try simp only[Int.toNat_natCast] at *)
 ·have e:=hkid (by omega)
  rw[e] at*
  have hf:kidCB n k i=false:=by
   rw[kidCB,if_pos (by omega)];simp;omega
  (refine W.ret ?_;(first|refine RetQ.b' ?_))
  rw[formC3_of (by omega) hf]
 ·have e:=hkid (by omega)
  rw[e] at*
  have hf:kidCB n k i=true:=by
   rw[kidCB,if_pos (by omega)];simp;omega
  exact⟨_,_,by omega,⟨i+1,rfl,⟨by omega,fun j hj=>by
   by_cases e:j=i
   ·rw[e];exact hf
   ·exact hb j (by omega)⟩,rfl⟩,lE⟩
 ·have e:=hkid (by omega)
  rw[e] at*
  have hf:kidCB n k i=false:=by
   rw[kidCB,if_neg (by omega)];simp;omega
  (refine W.ret ?_;(first|refine RetQ.b' ?_))
  rw[formC3_of (by omega) hf]
 ·have e:=hkid (by omega)
  rw[e] at*
  have hf:kidCB n k i=true:=by
   rw[kidCB,if_neg (by omega)];simp;omega
  exact⟨_,_,by omega,⟨i+1,rfl,⟨by omega,fun j hj=>by
   by_cases e:j=i
   ·rw[e];exact hf
   ·exact hb j (by omega)⟩,rfl⟩,lE⟩
 all_goals
  have hb0:=hb 0 (by omega)
  have hb1:=hb 1 (by omega)
  have hb2:=hb 2 (by omega)
  clear ha ht hu hb hkid
  (refine W.ret ?_;(first|refine RetQ.b' ?_))
  simp_all [formC3]
theorem formC3_named {n:Co}{k:Nat}(h:formC3 n k=true): ∀m∈n.named,0≤m∧m<k:=by
 intro m hm
 unfold formC3 at h
 simp only[Bool.and_eq_true] at h
 obtain⟨⟨⟨⟨h0,h1⟩,h2⟩,_⟩,_⟩:=h
 have hle:=arC_le n.op
 have key: ∀i,i<arC n.op→kidCB n k i=true→0≤kidC n i∧kidC n i<k:=fun i hi hb=>by
  rw[kidCB,if_pos hi] at hb
  simp only[Bool.and_eq_true,decide_eq_true_eq] at hb
  omega
 obtain⟨i,hi,rfl⟩:=List.getElem_of_mem hm
 have hi2:i<arC n.op:=by simp[Co.named] at hi;omega
 have e:n.named[i]=kidC n i:=by
  have:i=0∨i=1∨i=2:=by omega
  simp only[Co.named,List.getElem_take]
  rcases this with rfl|rfl|rfl<;>rfl
 rw[e]
 have:i=0∨i=1∨i=2:=by omega
 rcases this with rfl|rfl|rfl
 ·exact key 0 hi2 h0
 ·exact key 1 hi2 h1
 ·exact key 2 hi2 h2
def coreC (n:Co)(k:Nat):Int:=
 if ¬(1≤n.op∧n.op≤17) then 6
 else if formC3 n k=false then 1
 else if hasVl n.op=true∧(valOfM n.val).2≠0 then(valOfM n.val).2
 else if n.op=11∧(valOfM n.val).1.kind≠4 then 6
 else if numOkC n=false then 3 else 0
theorem coreNodeFault_fn (n:Co)(k:Nat)(hk:k≤1048576)(hf:n.fine):Fun env.P 22 [.agg n.row,dI k] (.d (dI (coreC n k))) []:=by
 have h1:=formsOkC_fn n k hk
 have h2:=hasVal_fn n
 have h3:=isCoreNum_fn n
 have hin:=within_fn n.op 1 17
 have hv:=valOf_fn n.val hf.1 hf.2
 unfold coreC
 generalize valOfM n.val=p at hv ⊢
 obtain⟨⟨vk,vn,vt,vks,vkd⟩,code⟩:=p
 have h11:hasVl n.op=false→¬n.op=11:=fun h e=>by simp[hasVl,e] at h
 refine Fun.intro Tryz.func22 rfl (by kernel_rfl) rfl ?_
 repeat'(first|refine Z1 ?_|refine WG.c (E:=env) rfl rfl (hin) rfl rfl ?_|refine WG.c (E:=env) rfl rfl (h1) rfl rfl ?_|refine WG.c (E:=env) rfl rfl (h2) rfl rfl ?_|refine WG.c (E:=env) rfl rfl (h3) rfl rfl ?_|refine WG.c (E:=env) rfl rfl (hv) rfl rfl ?_|((refine SP (fun h=>?_) fun h=>?_)<;>(try(exfalso;first|contradiction|omega))))
 all_goals (refine W.ret ?_;(first|refine RetQ.i' ?_))
 all_goals (clear h1 h2 h3 hin hv;simp_all [V.kind];try(intros;first|omega|(exfalso;omega)))
 all_goals trace_state
def coreS (n:Co)(k:Nat):Int:=
 if ¬(1≤n.op∧n.op≤17) then 6
 else if(numHiC n.op=0∧n.num≠0)∨(hasVl n.op=false∧n.val.length≠0) then 1
 else if kidCB n k 0=false∨kidCB n k 1=false∨kidCB n k 2=false then 1
 else if hasVl n.op=true∧(valOfM n.val).2≠0 then(valOfM n.val).2
 else if n.op=11∧(n.val.getD 0 default).kind≠4 then 6
 else if ¬(numLoC n.op≤n.num∧n.num≤numHiC n.op) then 3 else 0
theorem numHiC_zero (op:Int):numHiC op=0↔hasNc op=false:=by
 unfold numHiC hasNc
 constructor
 ·intro h
  repeat' split at h
  all_goals first|omega|(simp;omega)
 ·intro h
  simp at h
  rw[if_neg h.1,if_neg (by omega),if_neg (by omega)]
theorem coreS_eq (n:Co)(k:Nat):coreS n k=coreC n k:=by
 unfold coreS coreC
 by_cases h0:1≤n.op∧n.op≤17
 ·have h0':¬ ¬(1≤n.op∧n.op≤17):=fun h=>h h0
  rw[if_neg h0',if_neg h0']
  by_cases hf:formC3 n k=true
  ·have hf':=hf
   unfold formC3 at hf
   simp only[Bool.and_eq_true,Bool.or_eq_true,decide_eq_true_eq] at hf
   obtain⟨⟨⟨⟨f0,f1⟩,f2⟩,f3⟩,f4⟩:=hf
   have g1:¬((numHiC n.op=0∧n.num≠0)∨(hasVl n.op=false∧n.val.length≠0)):=by
    rintro(⟨a,b⟩|⟨a,b⟩)
    ·rw[numHiC_zero] at a
     rcases f3 with f3|f3
     ·rw[a] at f3;cases f3
     ·exact b f3
    ·rcases f4 with f4|f4
     ·rw[a] at f4;cases f4
     ·exact b f4
   have g3:(¬(numLoC n.op≤n.num∧n.num≤numHiC n.op))↔numOkC n=false:=by
    unfold numOkC
    by_cases hn:hasNc n.op=true
    ·rw[if_pos hn]<;>simp<;>omega
    ·rw[if_neg hn]
     have hn':hasNc n.op=false:=by simpa using hn
     rcases f3 with f3|f3
     ·exact absurd f3 hn
     ·have h1:=(numHiC_zero n.op).2 hn'
      have h2:numLoC n.op=0:=by
       unfold hasNc at hn'
       simp at hn'
       unfold numLoC
       rw[if_neg (by omega)]
      rw[h1,h2,f3];simp
   rw[if_neg g1,if_neg (by simp[f0,f1,f2]),if_neg (by simp[hf']:¬formC3 n k=false)]
   by_cases hv:hasVl n.op=true∧(valOfM n.val).2≠0
   ·rw[if_pos hv,if_pos hv]
   ·rw[if_neg hv,if_neg hv]
    have g4:(n.op=11∧(n.val.getD 0 default).kind≠4)↔(n.op=11∧(valOfM n.val).1.kind≠4):=by
     by_cases h11:n.op=11
     ·have hz:(valOfM n.val).2=0:=by
       by_cases h:(valOfM n.val).2=0
       ·exact h
       ·exact absurd ⟨by simp[hasVl,h11],h⟩ hv
      rw[(valOfM_kind hz).1]
     ·simp[h11]
    simp only[g4]
    by_cases hk:n.op=11∧(valOfM n.val).1.kind≠4
    ·rw[if_pos hk,if_pos hk]
    ·rw[if_neg hk,if_neg hk]
     by_cases hn:numOkC n=false
     ·rw[if_pos (g3.2 hn),if_pos hn]
     ·rw[if_neg (fun h=>hn (g3.1 h)),if_neg hn]
  ·rw[if_pos (show formC3 n k=false by simpa using hf)]
   by_cases g1:(numHiC n.op=0∧n.num≠0)∨(hasVl n.op=false∧n.val.length≠0)
   ·rw[if_pos g1]
   ·rw[if_neg g1]
    by_cases g2:kidCB n k 0=false∨kidCB n k 1=false∨kidCB n k 2=false
    ·rw[if_pos g2]
    ·exfalso
     apply hf
     simp only[not_or,Bool.not_eq_false,not_and,ne_eq,Decidable.not_not] at g1 g2
     unfold formC3
     rw[g2.1,g2.2.1,g2.2.2]
     simp only[Bool.and_true,Bool.true_and,Bool.and_eq_true,Bool.or_eq_true,decide_eq_true_eq]
     refine⟨?_,?_⟩
     ·by_cases h:hasNc n.op=true
      ·exact .inl h
      ·exact .inr (g1.1 ((numHiC_zero _).2 (by simpa using h)))
     ·by_cases h:hasVl n.op=true
      ·exact .inl h
      ·exact .inr (g1.2 (by simpa using h))
 ·rw[if_pos h0,if_pos h0]
theorem l6Node_fn (cs:List Co)(k:Nat)(hk:k<cs.length)(hl:cs.length≤1048576)(ht: ∀n∈cs,n.fine):Fun env.P 90 [coresD cs,dI k] (.d (dI (coreC (cs.getD k default) k))) []:=by
 have htk:=ht _ (getD_mem' hk)
 refine Fun.intro Tryz.func90 rfl (by kernel_rfl) rfl ?_
 repeat(first|refine Z1 ?_)
 have hat:cs.getD (Int.toNat k) default=cs.getD k default:=by simp
 rw[hat]
 generalize hn:cs.getD k default=n at htk
 have hin:=l1In_fn n.op 1 17
 have hnm:=l6Nums_fn n.op
 have htx:=l6HasVal_fn n.op
 have hks:=l6Kids_fn n.op
 have hvf:=ValueFaultS_fn n.val htk.1 htk.2
 have hle:=arC_le n.op
 clear hn hat
 rw[←coreS_eq]
 repeat(first|refine Z1 ?_|refine WG.c (E:=env) rfl rfl (hin) rfl rfl ?_)
 refine W.cond rfl (fun e1=>?_) (fun e1=>?_)
 ·repeat'(first|refine Z1 ?_|((refine SP (fun h=>?_) fun h=>?_)<;>(try(exfalso;first|contradiction|omega))))
  (refine W.ret ?_;(first|refine RetQ.i' ?_))
  simp at e1
  unfold coreS;rw[if_pos (by omega)]
 have h0:¬ ¬(1≤n.op∧n.op≤17):=by simp at e1;omega
 refine W.skip ?_
 repeat refine W.seq ?_
 refine W.rg ?_
 repeat(first|refine WG.nil ?_|refine WG.run' (E:=env) ?_|refine WG.gt' ?_|refine WG.gf' ?_|refine WG.ixm' (E:=env) ?_|refine WG.c (E:=env) rfl rfl (hnm) rfl rfl ?_)
 repeat refine W.seq ?_
 refine W.jb 43 (decide ((numHiC n.op=0∧n.num≠0)∨(hasVl n.op=false∧n.val.length≠0))) ?_ ?_
 ·repeat'(first|refine WG.nil ?_|refine WG.run' (E:=env) ?_|refine WG.gt' ?_|refine WG.gf' ?_|refine WG.ixm' (E:=env) ?_|refine WG.c (E:=env) rfl rfl (htx) rfl rfl ?_|(refine WG.sp' (fun h=>?_) fun h=>?_<;>(try simp only[atS,List.length_map,beq_self_eq_true] at h)<;>(try(exfalso;first|contradiction|omega))))
  all_goals refine ⟨rfl,rfl,_,rfl,?_,by(repeat refine leU.step rfl ?_)<;>first|exact leU.forget (leU.refl _)|exact leU.refl _|(repeat(first|exact leU.forget (leU.refl _)|exact leU.refl _|refine leU.step rfl ?_))⟩
  all_goals (simp_all;try(cases n.val<;>simp))
 refine W.cond rfl (fun e2=>?_) (fun e2=>?_)
 ·repeat'(first|refine Z1 ?_|((refine SP (fun h=>?_) fun h=>?_)<;>(try(exfalso;first|contradiction|omega))))
  (refine W.ret ?_;(first|refine RetQ.i' ?_))
  simp only[decide_eq_true_eq] at e2
  unfold coreS;rw[if_neg h0,if_pos e2]
 rw[decide_eq_false_iff_not] at e2
 refine W.skip ?_
 repeat(first|refine Z1 ?_)
 refine W.loop (fun m S=> ∃i:Nat,m=3 - i∧(i≤3∧ ∀j,j<i→kidCB n k j=true)∧S=⟨ofL [(0,.d (coresD cs)),(1,vI .i64 k),(5,.lp 0 0),(6,vI .i64 (numLoC n.op)),(7,vI .i64 (numHiC n.op)),(8,vI .i64 i)],[.pv (n.row.map .d)]⟩) _ _ ⟨0,rfl,⟨by omega,fun j hj=>by omega⟩,rfl⟩ lE ?_
 rintro m S ⟨i,rfl,⟨hi,hb⟩,rfl⟩
 by_cases hi3:i<3
 ·have hkd:=l6Kid_fn n i hi3
  repeat(first|refine Z1 ?_)
  refine W.cond rfl (fun e3=>?_) (fun e3=>?_)
  rotate_left
  ·exfalso;simp at e3;omega
  refine W.skip ?_
  repeat refine W.seq ?_
  refine W.block ?_
  repeat refine W.seq ?_
  refine W.rg ?_
  repeat(first|refine WG.nil ?_|refine WG.run' (E:=env) ?_|refine WG.gt' ?_|refine WG.gf' ?_|refine WG.ixm' (E:=env) ?_|refine WG.c (E:=env) rfl rfl (hkd) rfl rfl ?_)
  repeat refine W.seq ?_
  refine W.jb 73 (!kidCB n k i) ?_ ?_
  ·repeat'(first|refine WG.nil ?_|refine WG.run' (E:=env) ?_|refine WG.gt' ?_|refine WG.gf' ?_|refine WG.ixm' (E:=env) ?_|refine WG.c (E:=env) rfl rfl (hks) rfl rfl ?_|refine WG.c (E:=env) rfl rfl (l1In_fn _ _ _) rfl rfl ?_|(refine WG.sp' (fun h=>?_) fun h=>?_<;>(try simp only[atS,List.length_map,beq_self_eq_true] at h)<;>(try(exfalso;first|contradiction|omega))))
   all_goals refine ⟨rfl,rfl,_,rfl,?_,by(repeat refine leU.step rfl ?_)<;>first|exact leU.forget (leU.refl _)|exact leU.refl _|(repeat(first|exact leU.forget (leU.refl _)|exact leU.refl _|refine leU.step rfl ?_))⟩
   all_goals first|(rw[kidCB,if_pos (by omega)];done)|(rw[kidCB,if_pos (by omega)];simp;done)|(rw[kidCB,if_pos (by omega)];simp;omega)|(rw[kidCB,if_neg (by omega)];simp;done)|(rw[kidCB,if_neg (by omega)];simp;omega)
  refine W.cond rfl (fun e4=>?_) (fun e4=>?_)
  ·repeat'(first|refine Z1 ?_|((refine SP (fun h=>?_) fun h=>?_)<;>(try(exfalso;first|contradiction|omega))))
   (refine W.ret ?_;(first|refine RetQ.i' ?_))
   unfold coreS
   rw[if_neg h0,if_neg e2,if_pos (by
    have:i=0∨i=1∨i=2:=by omega
    rcases this with rfl|rfl|rfl<;>simp_all)]
  ·repeat'(first|refine Z1 ?_|((refine SP (fun h=>?_) fun h=>?_)<;>(try(exfalso;first|contradiction|omega))))
   exact⟨_,_,by omega,⟨i+1,rfl,⟨by omega,fun j hj=>by
    by_cases e:j=i
    ·rw[e];simpa using e4
    ·exact hb j (by omega)⟩,rfl⟩,lE⟩
 ·have hb0:=hb 0 (by omega)
  have hb1:=hb 1 (by omega)
  have hb2:=hb 2 (by omega)
  have g2:¬(kidCB n k 0=false∨kidCB n k 1=false∨kidCB n k 2=false):=by simp[hb0,hb1,hb2]
  have e:coreS n k=if hasVl n.op=true∧(valOfM n.val).2≠0 then(valOfM n.val).2 else if n.op=11∧(n.val.getD 0 default).kind≠4 then 6 else if ¬(numLoC n.op≤n.num∧n.num≤numHiC n.op) then 3 else 0:=by
   unfold coreS
   rw[if_neg h0,if_neg e2,if_neg g2]
  rw[e]
  clear e
  have hi2:=l1In_fn n.num (numLoC n.op) (numHiC n.op)
  have h11:hasVl n.op=false→¬n.op=11:=fun h e=>by simp[hasVl,e] at h
  by_cases hv0:(valOfM n.val).2=0
  ·obtain⟨_,hv1,_,_⟩:=valOfM_kind hv0
   rw[hv0] at hvf ⊢
   by_cases hvl:hasVl n.op=true
   ·rw[hvl] at htx
    repeat'(first|refine Z1 ?_|refine WG.c (E:=env) rfl rfl (htx) rfl rfl ?_|refine WG.c (E:=env) rfl rfl (hvf) rfl rfl ?_|refine WG.c (E:=env) rfl rfl (hi2) rfl rfl ?_|((refine SP (fun h=>?_) fun h=>?_)<;>(try(exfalso;first|contradiction|omega))))
    all_goals first|(exfalso;omega)|skip
    all_goals (refine W.ret ?_;(first|refine RetQ.i' ?_))
    all_goals (clear hvf hi2 hks htx hnm hin ht hb;simp_all;try(intros;first|omega|(exfalso;omega)))
   ·rw[Bool.not_eq_true] at hvl
    have hno:=h11 hvl
    rw[hvl] at htx
    repeat'(first|refine Z1 ?_|refine WG.c (E:=env) rfl rfl (htx) rfl rfl ?_|refine WG.c (E:=env) rfl rfl (hvf) rfl rfl ?_|refine WG.c (E:=env) rfl rfl (hi2) rfl rfl ?_|((refine SP (fun h=>?_) fun h=>?_)<;>(try(exfalso;first|contradiction|omega))))
    all_goals first|(exfalso;omega)|skip
    all_goals (refine W.ret ?_;(first|refine RetQ.i' ?_))
    all_goals (clear hvf hi2 hks htx hnm hin ht hb;simp_all;try(intros;first|omega|(exfalso;omega)))
  ·by_cases hvl:hasVl n.op=true
   ·rw[hvl] at htx
    repeat'(first|refine Z1 ?_|refine WG.c (E:=env) rfl rfl (htx) rfl rfl ?_|refine WG.c (E:=env) rfl rfl (hvf) rfl rfl ?_|refine WG.c (E:=env) rfl rfl (hi2) rfl rfl ?_|((refine SP (fun h=>?_) fun h=>?_)<;>(try(exfalso;first|contradiction|omega))))
    all_goals first|(exfalso;omega)|skip
    all_goals (refine W.ret ?_;(first|refine RetQ.i' ?_))
    all_goals (clear hvf hi2 hks htx hnm hin ht hb;simp_all;try(intros;first|omega|(exfalso;omega)))
   ·rw[Bool.not_eq_true] at hvl
    have hno:=h11 hvl
    rw[hvl] at htx
    repeat'(first|refine Z1 ?_|refine WG.c (E:=env) rfl rfl (htx) rfl rfl ?_|refine WG.c (E:=env) rfl rfl (hvf) rfl rfl ?_|refine WG.c (E:=env) rfl rfl (hi2) rfl rfl ?_|((refine SP (fun h=>?_) fun h=>?_)<;>(try(exfalso;first|contradiction|omega))))
    all_goals first|(exfalso;omega)|skip
    all_goals (refine W.ret ?_;(first|refine RetQ.i' ?_))
    all_goals (clear hvf hi2 hks htx hnm hin ht hb;simp_all;try(intros;first|omega|(exfalso;omega)))
section
def nmC (ns:List Co)(k:Nat):List Int:=(ns.getD k default).named
def NcOK (ns:List Co):Prop:= ∀k,k<ns.length→ ∀m∈nmC ns k,0≤m∧m<k
theorem coreC_named {ns:List Co}{k:Nat}(h:coreC (ns.getD k default) k=0): ∀m∈nmC ns k,0≤m∧m<k:=by
 unfold coreC at h
 split at h
 ·cases h
 ·split at h
  ·cases h
  ·rename_i hf
   exact formC3_named (by simpa using hf)
theorem namedKC_fn (ns:List Co)(k:Nat)(h: ∀m∈nmC ns k,0≤m∧m<k):Fun env.P 73 [.agg (ns.getD k default).row] (.d (.sl 1 ((intsN (kidsOf (nmC ns) k)).map intRow))) []:=
 (namedC_fn (ns.getD k default)).cast rfl (by rw[←kidsOf_eq h];rfl) rfl
theorem core_cells {ns:List Co}{k:Nat}(hk:k<ns.length){σ0:Sto}{tv:Value}(hrd:RD σ0 (coresD ns) tv): ∃b off cap A l c,tv=.slice (some ⟨b,off,none⟩) ns.length cap∧
 σ0 b (off+k*6)=some (.int .i64 (ns.getD k default).op)∧σ0 b (off+k*6+1)=some (.int .i64 (ns.getD k default).a)∧σ0 b (off+k*6+2)=some (.int .i64 (ns.getD k default).b)∧
 σ0 b (off+k*6+3)=some (.int .i64 (ns.getD k default).c)∧σ0 b (off+k*6+4)=some (.int .i64 (ns.getD k default).num)∧σ0 b (off+k*6+5)=some (.slice A l c):=by
 obtain⟨b,off,cap,U,h1,hc,hr⟩:=rd_rows hrd (by simp;omega)
 have hrow:(ns.map Co.row)[k]? =some (ns.getD k default).row:=map_rowN Co.row ns k hk
 have hk':k<(ns.map Co.row).length:=by simpa using hk
 have v:=fun j x hj=>RD.val_v (hr k j _ (.v x) hrow hj)
 have c:=fun j (hj:j<6)=>hc k j hk' hj
 rw[List.length_map] at h1
 obtain⟨A,l,cc,hu⟩: ∃A l cc,U k 5=.slice A l cc:=by
  have h5:=hr k 5 _ (cellsD (ns.getD k default).val) hrow rfl
  revert h5
  unfold cellsD
  generalize U k 5=u
  generalize (ns.getD k default).val.map Cell.row=rows
  intro h5
  cases h5 with
  |nil _ A=>exact⟨_,_,_,rfl⟩
  |sl _ _ b off cap U=>exact⟨_,_,_,rfl⟩
 refine⟨b,off,cap,A,l,cc,h1,?_,?_,?_,?_,?_,?_⟩
 ·rw[←v 0 _ rfl];exact c 0 (by omega)
 ·rw[←v 1 _ rfl];exact c 1 (by omega)
 ·rw[←v 2 _ rfl];exact c 2 (by omega)
 ·rw[←v 3 _ rfl];exact c 3 (by omega)
 ·rw[←v 4 _ rfl];exact c 4 (by omega)
 ·rw[←hu];exact c 5 (by omega)
theorem namedU_fn (n:Co)(A:Option Addr)(l c:Nat):Fun env.P 73 [.agg [dI n.op,dI n.a,dI n.b,dI n.c,dI n.num,.v (.slice A l c)]] (.d (.sl 1 (n.named.map intRow))) []:=by
 have ha:=coreArity_fn n.op
 have hle:=arC_le n.op
 refine Fun.intro Tryz.func73 rfl (by kernel_rfl) rfl ?_
 repeat'(first|refine Z1 ?_|refine WD.c (E:=env) rfl rfl (ha) rfl rfl ?_)
 (refine W.ret ?_;(first|refine RetQ.d' ?_))
 simp[Co.named,List.map_take]
 rfl
theorem namedC_calls (ns:List Co)(k:Nat)(h: ∀m∈nmC ns k,0≤m∧m<k)(A:Option Addr)(l c:Nat)(w:World):
 Calls Tryz.prog 73 #[.agg #[.int .i64 (ns.getD k default).op,.int .i64 (ns.getD k default).a,.int .i64 (ns.getD k default).b,.int .i64 (ns.getD k default).c,.int .i64 (ns.getD k default).num,.slice A l c]] w
  fun e w'=> ∃sv,e=.returned sv∧Below w.heap.size w w'∧IntsAt w.heap.size w'.heap.size w' sv (intsN (kidsOf (nmC ns) k)):=by
 have hc:=(namedU_fn (ns.getD k default) A l c).cast (t':=.d (.sl 1 ((intsN (kidsOf (nmC ns) k)).map intRow))) rfl (by rw[←kidsOf_eq h];rfl) rfl
 refine(hc.raw0 w [.agg #[.int .i64 (ns.getD k default).op,.int .i64 (ns.getD k default).a,.int .i64 (ns.getD k default).b,.int .i64 (ns.getD k default).c,.int .i64 (ns.getD k default).num,.slice A l c]] rfl fun i x u hx hu=>?_).mono fun e w' ⟨v,g,h1,h2,h3,h3b,h4⟩=>?_
 ·cases i with
  |succ i=>simp at hx
  |zero=>
   simp at hx hu
   subst hx;subst hu
   refine .agg _ [.int .i64 (ns.getD k default).op,.int .i64 (ns.getD k default).a,.int .i64 (ns.getD k default).b,.int .i64 (ns.getD k default).c,.int .i64 (ns.getD k default).num,.slice A l c] rfl fun j y v hy hv=>?_
   match j,hy,hv with
   |0,hy,hv=>cases hy;cases hv;exact .v _
   |1,hy,hv=>cases hy;cases hv;exact .v _
   |2,hy,hv=>cases hy;cases hv;exact .v _
   |3,hy,hv=>cases hy;cases hv;exact .v _
   |4,hy,hv=>cases hy;cases hv;exact .v _
   |5,hy,hv=>cases hy;cases hv;exact .v _
   |j+6,hy,hv=>simp at hy
 ·exact⟨v,h1,h2,IntsAt.ofRD h3 h3b h4.inv_d⟩
open Go.Shelf
attribute [local go_sem] Oper.semAt_some
theorem coreBegin_calls (ns:List Co)(hl:ns.length≤1048576)(hok:NcOK ns): ∀k,k<ns.length→ ∀(w:World) (σ0:Sto) (tv:Value),(∀b o u,σ0 b o=some u→w.cell? ⟨b,o,none⟩=some u)→RD σ0 (coresD ns) tv→
 Calls Tryz.prog 23 #[tv,.int .i64 k] w fun e w'=>e=.returned (.int .i64 (begM (nmC ns) k))∧Below w.heap.size w w':=fun k=>by
 induction k using Nat.strongRecOn with
 |_ k ih=>
  intro hk w σ0 tv hσ hrd
  have hcells:=core_cells hk hrd
  obtain⟨b,off,cap,vA,vl,vc,rfl,c0,c1,c2,c3,c4,c5⟩:=hcells
  have hbl:b<w.heap.size:=World.block_lt_of_cell? w ⟨b,off+k*6,none⟩ (hσ _ _ _ c0)
  have hnm:=namedC_calls ns k (hok k hk) vA vl vc
  generalize hn:ns.getD k default=n at c0 c1 c2 c3 c4 c5 hnm
  refine(callsIn_wide (n:=3)).1 ?_
  refine callsIn_of_wp_marks Tryz.func23 rfl trivial ?_ rfl
  simp only[Tryz.ntmps23,List.size_toArray,List.length_cons,List.length_nil,Nat.reduceAdd,Nat.reduceSub,Array.replicate_succ,Array.replicate_zero,List.push_toArray,List.append_toArray,List.nil_append,List.cons_append]
  have hB3:Below w.heap.size w (((w.alloc (.cells #[.slice (some ⟨b,off,none⟩) ns.length cap] 26)).alloc (.cells #[.int .i64 0] 2)).alloc (.cells #[.int .i64 k] 2)):=
   (((Below.refl _ w).alloc (Nat.le_refl _) _).alloc (by simp) _).alloc (by simp;omega) _
  have d0:=(hB3.cell (p:=⟨b,off+k*6,none⟩) hbl).trans (hσ _ _ _ c0)
  have d1:=(hB3.cell (p:=⟨b,off+k*6+1,none⟩) hbl).trans (hσ _ _ _ c1)
  have d2:=(hB3.cell (p:=⟨b,off+k*6+2,none⟩) hbl).trans (hσ _ _ _ c2)
  have d3:=(hB3.cell (p:=⟨b,off+k*6+3,none⟩) hbl).trans (hσ _ _ _ c3)
  have d4:=(hB3.cell (p:=⟨b,off+k*6+4,none⟩) hbl).trans (hσ _ _ _ c4)
  have d5:=(hB3.cell (p:=⟨b,off+k*6+5,none⟩) hbl).trans (hσ _ _ _ c5)
  gi_wp2_with (first
   |(refine⟨trivial,?_⟩;gi_at_call 73;refine(callsIn_wide.2 (hnm _)).mono ?_;rintro e w' ⟨sv,rfl,hB4,hI⟩;obtain⟨sa,scap,rfl⟩:=hI.slice)
   |(refine⟨trivial,?_⟩;gi_at_call 72;refine(back_in Fence.wide _ trivial rfl _ _ _ _).mono ?_;rintro e w'' ⟨rfl,rfl⟩))
  have hsz3:(((w.alloc (.cells #[.slice (some ⟨b,off,none⟩) ns.length cap] 26)).alloc (.cells #[.int .i64 0] 2)).alloc (.cells #[.int .i64 k] 2)).heap.size=w.heap.size+3:=by simp
  have e0:=box_new w (.slice (some ⟨b,off,none⟩) ns.length cap) 26
  have e1:=box_new (w.alloc (.cells #[.slice (some ⟨b,off,none⟩) ns.length cap] 26)) (.int .i64 0) 2
  have e2:=box_new ((w.alloc (.cells #[.slice (some ⟨b,off,none⟩) ns.length cap] 26)).alloc (.cells #[.int .i64 0] 2)) (.int .i64 k) 2
  simp only[World.size_alloc] at e1 e2
  have f0:=cell_grown (.cells #[.int .i64 k] 2) (cell_grown (.cells #[.int .i64 0] 2) e0.1)
  have f1:=cell_grown (.cells #[.int .i64 k] 2) e1.1
  have g1:=frozen_grown (.cells #[.int .i64 k] 2) e1.1 e1.2
  obtain⟨f2,g2⟩:=e2
  clear e0 e1 d0 d1 d2 d3 d4 d5 hnm
  generalize hW3:(((w.alloc (.cells #[.slice (some ⟨b,off,none⟩) ns.length cap] 26)).alloc (.cells #[.int .i64 0] 2)).alloc (.cells #[.int .i64 k] 2))=W3 at*
  clear hW3
  have hlt: ∀j∈kidsOf (nmC ns) k,j<k:=fun j hj=>kidsOf_lt hj
  have hkl:(kidsOf (nmC ns) k).length≤3:=by
   rw[kidsOf_length (hok k hk)]
   simp[nmC,Co.named];omega
  have hst:=Seen.start (nmC ns) k
  generalize kidsOf (nmC ns) k=ks at*
  have hil:=intsN_length ks
  have hBw:Below w.heap.size w w':=hB3.trans (hB4.mono (by omega))
  have f0':=cell_below hB4 f0
  have f1':=cell_below hB4 f1
  have f2':=cell_below hB4 f2
  have g1':=frozen_below hB4 f1 g1
  have g2':=frozen_below hB4 f2 g2
  have hsz4:=hB4.size
  have hbx:=box_new w' (.slice sa (intsN ks).length scap) 78
  rw[hsz3] at hI
  have hI2:IntsAt (w.heap.size+3) (w'.heap.size+1) (w'.alloc (.cells #[.slice sa (intsN ks).length scap] 78)) (.slice sa (intsN ks).length scap) (intsN ks):=(hI.kept (KpB.below ((Below.refl _ w').alloc (Nat.le_refl _) _) (Nat.le_refl _))).up (Nat.le_succ _)
  refine wpIn_rangeFunc_ownF rfl (by omega) (gf:=126) (lb:= #[.pointer (some ⟨w'.heap.size,0,none⟩)]) rfl trivial (enters_of Tryz.func126 (by kernel_rfl) rfl)
   (back_stops Fence.wide 2 trivial rfl (by omega) w'.heap.size (w.heap.size+3) (w'.heap.size+1) (.slice sa (intsN ks).length scap) (intsN ks) (by omega) _ (by omega) (by simp) hbx.1 hI2) KpB.trans (KpB.put (by simp)) (Below.refl _ _) (fun _=>rfl)
   (fun pre W=>(W.cell? ⟨w.heap.size,0,none⟩=some (.slice (some ⟨b,off,none⟩) ns.length cap)∧W.cell? ⟨w.heap.size+1,0,none⟩=some (.int .i64 0)∧W.frozen? ⟨w.heap.size+1,0,none⟩=false∧
     (∃bb:Int,W.cell? ⟨w.heap.size+1+1,0,none⟩=some (.int .i64 bb)∧(0≤bb∧bb≤1048576)∧ ∀m,pre=List.range m→m≤ks.length→ ∃b':Nat,bb=b'∧Seen (nmC ns) k (ks.take (ks.length - m)) b')∧W.frozen? ⟨w.heap.size+1+1,0,none⟩=false∧w'.heap.size+1≤W.heap.size)∧Below w.heap.size w W)
   (fun c pre W=>(c=.ret∧W.cell? ⟨w.heap.size+1,0,none⟩=some (.int .i64 (-1))∧ ∀m,pre=List.range m→m≤ks.length→begM (nmC ns) k= -1)∧Below w.heap.size w W)
   (OwnFrom.and (Own.from (fun s A B row hs hg hr=>⟨cell_kept hs.1 hg hr,cell_kept hs.2.1 hg hr,(frozen_kept hs.2.1 hg hr).trans hs.2.2.1,let ⟨bb,h1,h2⟩:=hs.2.2.2.1;⟨bb,cell_kept h1 hg hr,h2⟩,let ⟨bb,h1,h2⟩:=hs.2.2.2.1;(frozen_kept h1 hg hr).trans hs.2.2.2.2.1,Nat.le_trans hs.2.2.2.2.2 hg.size⟩) _) (ownFrom_below (Nat.le_refl _) (by simp;omega)))
   (fun c=>OwnFrom.and (Own.from (fun s A B row hs hg hr=>⟨hs.1,cell_kept hs.2.1 hg hr,hs.2.2⟩) _) (ownFrom_below (Nat.le_refl _) (by simp;omega)))
   ⟨⟨cell_grown _ f0',cell_grown _ f1',frozen_grown _ f1' g1',⟨k,cell_grown _ f2',by omega,fun m hm hml=>?start⟩,frozen_grown _ f2' g2',by simp⟩,hBw.alloc (by omega) _⟩
   (fun x=>{ tmps:= #[.slice (some ⟨b,off,none⟩) ns.length cap,.int .i64 k,.pointer (some ⟨w.heap.size,0,none⟩),undef,.pointer (some ⟨w.heap.size+1,0,none⟩),.pointer (some ⟨w.heap.size+1+1,0,none⟩),undef,.int .i64 ((intsN ks)[(intsN ks).length - 1 - x]?.getD 0),.int .i64 k,.slice (some ⟨b,off,none⟩) ns.length cap,.int .i64 k,.pointer (some ⟨b,off+k*6,none⟩),.agg #[.int .i64 n.op,.int .i64 n.a,.int .i64 n.b,.int .i64 n.c,.int .i64 n.num,.slice vA vl vc],.slice sa (intsN ks).length scap,.func (.func 126) #[] #[.pointer (some ⟨w'.heap.size,0,none⟩)],.int .i64 (((intsN ks).length - 1 - x:Nat):Int),.int .i64 ((intsN ks)[(intsN ks).length - 1 - x]?.getD 0),undef,undef,undef,undef,undef,undef,undef,undef,undef,undef],defers:=[] }) ?assign ?body ?done ?stop
  case start=>
   have:m=0:=by
    have:=congrArg List.length hm
    simpa using this.symm
   subst this
   exact⟨k,rfl,by rw[Nat.sub_zero,List.take_length];exact hst⟩
  case assign=>
   intro l x W K hK
   clear hil
   gi_wp2
   exact hK
  case body=>
   rintro l pre x W ⟨⟨hc0,hc1,hf1,⟨bb,hc2,hbb,hsn⟩,hf2,hzz⟩,hB⟩ hlen
   rw[hil] at hlen
   have hj:ks.length - 1 - x<ks.length:=by omega
   have hown:(intsN ks)[(intsN ks).length - 1 - x]?.getD 0=((ks.getD (ks.length - 1 - x) default:Nat):Int):=by rw[hil];simp[intsN,hj]
   rw[hown]
   have hmem:=getD_mem' hj
   generalize hon:ks.getD (ks.length - 1 - x) default=own at*
   have hltk:=hlt own hmem
   have hbo:=nestM_le (nmC ns) own
   have hcall:=ih own hltk (by omega) W σ0 _ (fun b o u hu=>(hB.cell (World.block_lt_of_cell? w ⟨b,o,none⟩ (hσ b o u hu))).trans (hσ b o u hu)) hrd
   clear hil
   gi_wp2_with (refine⟨trivial,?_⟩;gi_at_call 23;refine(CallsIn.inRound l (callsIn_wide.2 hcall)).mono ?_;rintro e W2 ⟨rfl,hB2⟩;have k0:=cell_below hB2 hc2;have k1:=frozen_below hB2 hc2 hf2;have k2:=cell_below hB2 hc1;have k3:=frozen_below hB2 hc1 hf1)
   ·rename_i hx
    have hx':¬(own:Int)=bb - 1:=by simpa using hx
    refine⟨KeepsOthers.setCell _ _ _,⟨rfl,World.cell?_setCell_same' _ _ _ (by rw[hc1];rfl),fun m hm hml=>?_⟩,hB.setCell (p:=⟨w.heap.size+1,0,none⟩) (by simp) _⟩
    obtain⟨_,rfl,hp,rfl⟩:=snoc_range hm
    obtain⟨b',rfl,hs⟩:=hsn x hp (by omega)
    rw[show ks.length - x=(ks.length - 1 - x)+1 by omega,take_step (by omega),hon] at hs
    exact hs.bad (by omega)
   ·rename_i hx hneg
    have hx':(own:Int)=bb - 1:=by simpa using hx
    have hlt2:=World.block_lt_of_cell? W ⟨w.heap.size+1+1,0,none⟩ hc2
    refine⟨((KeepsOthers.of_below hB2).trans (KeepsOthers.setCell _ _ _)).trans (KeepsOthers.setCell _ _ _),⟨rfl,World.cell?_setCell_same' _ _ _ (by rw[cell_other k2 (by dsimp only;omega)];rfl),fun m hm hml=>?_⟩,
     (((hB.trans (hB2.mono hB.size)).setCell (p:=⟨w.heap.size+1+1,0,none⟩) (by simp;omega) _).setCell (p:=⟨w.heap.size+1,0,none⟩) (by simp) _)⟩
    obtain⟨_,rfl,hp,rfl⟩:=snoc_range hm
    obtain⟨b',rfl,hs⟩:=hsn x hp (by omega)
    rw[show ks.length - x=(ks.length - 1 - x)+1 by omega,take_step (by omega),hon] at hs
    exact hs.below hneg
   ·rename_i hx hpos
    have hx':(own:Int)=bb - 1:=by simpa using hx
    have hbl2:=begM_le (nmC ns) own
    have hsW:=hB.size
    have k4:=cell_below hB2 hc0
    refine⟨(KeepsOthers.of_below hB2).trans (KeepsOthers.setCell _ _ _),?_,⟨cell_other k4 (by dsimp only;omega),cell_other k2 (by dsimp only;omega),frozen_other k3 (by dsimp only;omega),⟨begM (nmC ns) own,World.cell?_setCell_same' _ _ _ (by rw[k0];rfl),by omega,fun m hm hml=>?_⟩,by rw[World.frozen?_setCell];exact k1,by have h1:=hB2.size;have h2:=(KeepsOthers.setCell W2 ⟨w.heap.size+1+1,0,none⟩ (.int .i64 (begM (nmC ns) own))).size;omega⟩,
     (hB.trans (hB2.mono hB.size)).setCell (p:=⟨w.heap.size+1+1,0,none⟩) (by simp;omega) _⟩
    ·exact KpB.trans (KpB.below hB2 hzz) (KpB.set _ _ _ (by dsimp only;omega))
    ·obtain⟨_,rfl,hp,rfl⟩:=snoc_range hm
     obtain⟨b',rfl,hs⟩:=hsn x hp (by omega)
     rw[show ks.length - x=(ks.length - 1 - x)+1 by omega,take_step (by omega),hon] at hs
     obtain⟨c,h1,h2⟩:=hs.next (by omega) hpos
     exact⟨c,h1,by rw[show ks.length - (x+1)=ks.length - 1 - x by omega];exact h2⟩
  case done=>
   rintro D ys W hD rfl ⟨⟨hc0,hc1,hf1,⟨bb,hc2,hbb,hsn⟩,hf2,_⟩,hB⟩ hK
   obtain⟨b',rfl,hs⟩:=hsn ks.length (by rw[hil]) (Nat.le_refl _)
   rw[Nat.sub_self,List.take_zero] at hs
   have he:=hs.done
   gi_wp2
   have hK':=(KeepsOthers.setCell W ⟨w.heap.size+1,0,none⟩ (.int .i64 b')).same D _ hK rfl
   refine⟨by simp,.inl ⟨_,_,rfl,run_takeDeferred hK',?_⟩⟩
   have hc5:=cell_kept (World.cell?_setCell_same' W ⟨w.heap.size+1,0,none⟩ (.int .i64 b') (by rw[hc1];rfl)) (grownBy_putObj' _ D (.deferred none)) (fun r e=>by cases e;exact⟨_,hK',rfl⟩)
   refine⟨.int .i64 b',?_,by rw[he],(hB.setCell (p:=⟨w.heap.size+1,0,none⟩) (by simp) _).trans (belowK_b (w:=w) (Nat.le_refl _) _ D _ _ (by simp at hD;omega) hK' rfl rfl)⟩
   simp[results,Tryz.f23,go_sem,hc5]
  case stop=>
   rintro D c pre W hD ⟨m,hm,rfl⟩ ⟨⟨rfl,hcr,hbad⟩,hB⟩ hK
   have he:=hbad m rfl (by rw[←hil];exact hm)
   gi_wp2
   refine⟨by simp,.inl ⟨_,_,rfl,run_takeDeferred hK,?_⟩⟩
   have hc5:=cell_kept hcr (grownBy_putObj' _ D (.deferred none)) (fun r e=>by cases e;exact⟨_,hK,rfl⟩)
   refine⟨.int .i64 (-1),?_,by rw[he],hB.trans (belowK_b (w:=w) (Nat.le_refl _) W D _ _ (by simp at hD;omega) hK rfl rfl)⟩
   simp[results,Tryz.f23,go_sem,hc5]
theorem coreBegin_fn (ns:List Co)(hl:ns.length≤1048576)(hok:NcOK ns)(k:Nat)(hk:k<ns.length):Fun env.P 23 [coresD ns,dI k] (.d (dI (begM (nmC ns) k))) []:=by
 refine Fun.ofRaw (entersF Tryz.func23 (c:=_) rfl (by kernel_rfl)) fun w σ0 vals hσ hl' hr=>?_
 match vals,hl' with
 |[u,v],_=>
  have h1:=hr 0 _ u rfl rfl
  have h2:=hr 1 _ v rfl rfl
  cases h2
  exact(coreBegin_calls ns hl hok k hk w σ0 u hσ h1).mono fun e w' ⟨h,hB⟩=>⟨_,h,hB,fun g=>.d _ _ (.v _)⟩
end
abbrev natRowsC (l:List Nat):List (List D):=(intsN l).map intRow
theorem namedC_length (n:Co):n.named.length=arC n.op:=by
 have:=arC_le n.op
 simp[Co.named];omega
theorem kidsC_ar {ns:List Co}{k:Nat}(h: ∀m∈nmC ns k,0≤m∧m<k):(kidsOf (nmC ns) k).length=arC (ns.getD k default).op:=by
 rw[kidsOf_length h];exact namedC_length _
theorem kidsC_at {ns:List Co}{k:Nat}(h: ∀m∈nmC ns k,0≤m∧m<k){i:Nat}(hi:i<(kidsOf (nmC ns) k).length):kidC (ns.getD k default) i=(((kidsOf (nmC ns) k).getD i default:Nat):Int):=by
 have e:=kidsOf_eq h
 have h1:(nmC ns k).getD i default=((kidsOf (nmC ns) k).getD i default:Nat):=by
  rw[e];exact intsN_at _ i hi
 have hi2:i<arC (ns.getD k default).op:=by rw[←kidsC_ar h];exact hi
 have hle:=arC_le (ns.getD k default).op
 rw[←h1]
 have:i=0∨i=1∨i=2:=by omega
 have hg:(nmC ns k).getD i default=kidC (ns.getD k default) i:=by
  unfold nmC Co.named
  rw[List.getD_eq_getElem?_getD,List.getElem?_take,if_pos hi2]
  rcases this with rfl|rfl|rfl<;>rfl
 exact hg.symm
theorem l6Order_fn (ns:List Co)(hl:ns.length≤1048)(hok:NcOK ns): ∀k,k<ns.length→ ∀out:List Nat,out.length≤4096+ns.length→
 FunQ env.P 91 [.d (coresD ns),.d (dI k),.og 0 0] [.gr 1 2 (natRowsC out) 0 false] (just (.og 1 0) [.dead,.gr 1 2 (natRowsC (ordM (nmC ns) ns.length k out)) 0 false]):=fun k=>by
 induction k using Nat.strongRecOn with
 |_ k ih=>
  intro hk out hout
  have hka:=kidsC_ar (hok k hk)
  have hkat:=fun i hi=>kidsC_at (hok k hk) (i:=i) hi
  have hlt: ∀j∈kidsOf (nmC ns) k,j<k:=fun j hj=>kidsOf_lt hj
  have hord:=ordM_p (nmC ns) ns.length
  rw[ordM_eq]
  generalize kidsOf (nmC ns) k=ks at hka hkat hlt
  have hkl:=arC_le (ns.getD k default).op
  refine FunQ.intro Tryz.func91 rfl (by kernel_rfl) rfl ?_
  refine W.imp ((St.imp.mov 0 0 rfl rfl).trans (St.imp.of_le (S':=⟨ofL [(0,.d (coresD ns)),(1,vI .i64 k),(2,.og 1 0)],[.dead,.gr 1 2 (natRowsC out) 0 false]⟩) lE)) ?_
  repeat(first|refine Z1 ?_)
  have hat:ns.getD (Int.toNat k) default=ns.getD k default:=by simp
  rw[hat]
  generalize ns.getD k default=n at hka hkat hkl
  clear hat
  have hks:=l6Kids_fn n.op
  rw[←hka] at hks
  refine W.loopI (fun m S=> ∃(i:Nat) (o:List Nat),m=ks.length - i∧(i≤ks.length∧o.length≤6000∧ordL (nmC ns) ns.length ks out=ordL (nmC ns) ns.length (ks.drop i) o)∧
   S=⟨ofL [(0,.d (coresD ns)),(1,vI .i64 k),(2,.og 1 0),(7,.lp 2 0),(8,vI .i64 i)],[.dead,.gr 1 2 (natRowsC o) 0 false,.pv (n.row.map .d)]⟩) _ _ ⟨0,out,rfl,⟨by omega,by omega,rfl⟩,rfl⟩ (St.imp.of_le lE) ?_
  rintro m S ⟨i,o,rfl,⟨hi,ho,he⟩,rfl⟩
  have hlo:(natRowsC o).length=o.length:=by simp[intsN]
  refine W.seq ?_
  refine W.seq ?_
  refine W.jb 24 (decide (i<ks.length∧o.length≤ns.length)) ?_ ?_
  ·repeat'(first|refine WG.nil ?_|refine WG.run' (E:=env) ?_|refine WG.ixm' (E:=env) ?_|refine WG.c (E:=env) rfl rfl (hks) rfl rfl ?_|(refine WG.sp' (fun h=>?_) fun h=>?_<;>(try simp only[atS,List.length_map,beq_self_eq_true] at h)<;>(try(exfalso;first|contradiction|omega))))
   all_goals refine ⟨rfl,rfl,_,rfl,?_,by(repeat refine leU.step rfl ?_)<;>first|exact leU.forget (leU.refl _)|exact leU.refl _|(repeat(first|exact leU.forget (leU.refl _)|exact leU.refl _|refine leU.step rfl ?_))⟩
   all_goals (simp only[List.length_map,intsN] at *;simp[*];try omega)
  refine W.cond rfl (fun e1=>?_) (fun e1=>?_)
  ·simp only[decide_eq_true_eq] at e1
   have hkd:=l6Kid_fn n i (by omega)
   have hm:=getD_mem' e1.1
   have hj:=hlt _ hm
   have ih':=ih _ hj (by omega) o (by omega)
   rw[←hkat i e1.1] at ih'
   obtain⟨_,_,_,hb⟩:=hord (ks.getD i default) o
   rw[drop_step e1.1,ordL_cons e1.2] at he
   repeat'(first|refine WG.cq (E:=env) (t':=.og 3 0) (ob2:=[.dead,.dead,.pv (n.row.map .d),.gr 1 2 (natRowsC (ordM (nmC ns) ns.length (ks.getD i default) o)) 0 false]) [1] [0] false rfl rfl ih' rfl rfl rfl rfl rfl rfl rfl ⟨rfl,trivial⟩ (.inl rfl) rfl (fun h=>nomatch h) rfl rfl ?_|refine Z1 ?_|refine WG.c (E:=env) rfl rfl (hkd) rfl rfl ?_)
   exact⟨_,_,by omega,⟨i+1,_,rfl,⟨by omega,by omega,he⟩,rfl⟩,(St.imp.movD 3 0 1 rfl rfl).trans (St.imp.of_le lE)⟩
  ·rw[decide_eq_false_iff_not] at e1
   have hfin:ordL (nmC ns) ns.length ks out=o:=by
    rw[he]
    by_cases hik:i<ks.length
    ·exact ordL_over (by omega)
    ·rw[List.drop_eq_nil_of_le (by omega)];rfl
   rw[hfin]
   have hrow:natRowsC (o++[k])=natRowsC o++[[dI k]]:=by simp[natRowsC,intsN]
   rw[hrow]
   repeat'(first|refine WG.ap (E:=env) rfl rfl rfl rfl rfl rfl rfl rfl rfl rfl rfl (by rw[hlo];show(o.length+1)*8≤_;omega) ?_|refine Z1 ?_|fail)
   refine W.imp (S':=⟨ofL [(6,.og 1 0)],[.dead,.gr 1 2 (natRowsC o++[[dI k]]) 0 false]⟩) ((St.imp.rev 1 1 rfl).trans (St.imp.of_le lE)) ?_
   refine W.ret ?_
   refine RetQ.r (t:=.og 1 0) (ob:=[.dead,.gr 1 2 (natRowsC o++[[dI k]]) 0 false]) ⟨rfl,rfl⟩ (RetQ.mk (.inl rfl) rfl rO rfl rfl ?_ rfl)
   exact⟨rfl,.inl rfl,rfl,.inl rfl,trivial⟩
theorem l1MaxC_fn (a b:Int):Fun env.P 94 [dI a,dI b] (.d (dI (max a b))) []:=by
 refine Fun.intro Tryz.func94 rfl (by kernel_rfl) rfl ?_
 repeat'(first|refine Z1 ?_|((refine SP (fun h=>?_) fun h=>?_)<;>(try(exfalso;first|contradiction|omega))))
 all_goals (refine W.ret ?_;(first|refine RetQ.i' ?_))
 all_goals omega
def dsY (f:Nat→Nat)(n i:Nat)(x:Int):List Int:=(List.range n).map fun j=>if j<i then((f j:Nat):Int) else if j=i then x else 0
theorem dsY_length (f:Nat→Nat)(n i:Nat)(x:Int):(dsY f n i x).length=n:=by simp[dsY]
theorem dsY_at (f:Nat→Nat)(n i:Nat)(x:Int){j:Nat}(h:j<n):(dsY f n i x).getD j default=if j<i then((f j:Nat):Int) else if j=i then x else 0:=by simp[dsY,h]
theorem dsY_set (f:Nat→Nat)(n i:Nat)(x y:Int):(dsY f n i x).set i y=dsY f n i y:=by
 apply List.ext_getElem
 ·simp[dsY]
 ·intro j h1 h2
  simp only[dsY,List.length_map,List.length_range] at h2
  rw[List.getElem_set]
  simp only[dsY,List.getElem_map,List.getElem_range]
  by_cases h:i=j
  ·subst h;simp
  ·rw[if_neg h]
   by_cases hj:j<i
   ·rw[if_pos hj,if_pos hj]
   ·rw[if_neg hj,if_neg hj,if_neg (fun e=>h e.symm),if_neg (fun e=>h e.symm)]
theorem dsY_next (f:Nat→Nat)(n i:Nat):dsY f n i (f i)=dsY f n (i+1) 0:=by
 unfold dsY
 refine List.map_congr_left fun j _=>?_
 by_cases h:j<i
 ·rw[if_pos h,if_pos (by omega)]
 ·rw[if_neg h]
  by_cases e:j=i
  ·subst e;simp
  ·rw[if_neg e,if_neg (by omega)]
   split<;>rfl
theorem dsY_zero (f:Nat→Nat)(n:Nat):dsY f n 0 0=List.replicate n 0:=by
 unfold dsY
 apply List.ext_getElem
 ·simp
 ·intro j h1 h2
  simp
abbrev slotsD (sl:List Int):D:=.sl 1 (sl.map intRow)
def inC (n:Co)(i:Nat)(sl:List Int):List Int:=if(n.op=14∧i=1)∨(n.op=13∧i=2) then sl++[n.num] else sl
def allK (f:Nat→Nat→Bool):List Nat→Nat→Bool
 |[],_=>true
 |j::r,i=>f i j&&allK f r (i+1)
theorem allK_snoc (f:Nat→Nat→Bool): ∀(l:List Nat) (j i:Nat),allK f (l++[j]) i=(allK f l i&&f (i+l.length) j)
 |[],j,i=>by simp[allK]
 |x::r,j,i=>by
  rw[List.cons_append]
  simp only[allK,List.length_cons]
  rw[allK_snoc f r j (i+1),Bool.and_assoc,show i+1+r.length=i+(r.length+1) by omega]
theorem allK_take (f:Nat→Nat→Bool)(l:List Nat){i:Nat}(h:i<l.length):allK f (l.take (i+1)) 0=(allK f (l.take i) 0&&f i (l.getD i default)):=by
 rw[take_step h,allK_snoc,List.length_take,Nat.zero_add,Nat.min_eq_left (by omega)]
theorem allK_false {f:Nat→Nat→Bool}: ∀ {l:List Nat} {q i:Nat},i<l.length→f (q+i) (l.getD i default)=false→allK f l q=false
 |[],q,i,h,_=>by simp at h
 |x::r,q,0,_,h=>by simp[allK] at h ⊢;simp[h]
 |x::r,q,i+1,hi,h=>by
  simp only[allK]
  rw[allK_false (l:=r) (q:=q+1) (i:=i) (by simpa using hi) (by rw[show q+1+i=q+(i+1) by omega];simpa using h)]
  simp
def hasI (sl:List Int)(x:Int):Bool:=decide (x∈sl)
def bndF (cs:List Co):Nat→Nat→List Int→Bool
 |0,_,_=>true
 |f+1,k,sl=>(!decide ((cs.getD k default).op=15)||hasI sl (cs.getD k default).num)&&allK (fun i j=>bndF cs f j (inC (cs.getD k default) i sl)) (kidsOf (nmC cs) k) 0
theorem indexI_fn (sl:List Int)(x:Int)(hl:sl.length≤1048576): ∃r:Int,((0≤r)↔hasI sl x=true)∧Fun env.P 127 [slotsD sl,dI x] (.d (dI r)) []:=by
 by_cases hm:x∈sl
 ·obtain⟨p,hp,hpx,hmin⟩: ∃p,p<sl.length∧sl.getD p default=x∧ ∀q,q<p→sl.getD q default≠x:=by
   have hex: ∃p,p<sl.length∧sl.getD p default=x:=by
    obtain⟨p,hp,rfl⟩:=List.getElem_of_mem hm
    exact⟨p,hp,by simp[hp]⟩
   obtain⟨p,⟨h1,h2⟩,h3⟩:=exists_least hex
   exact⟨p,h1,h2,fun q hq e=>by have:=h3 q ⟨by omega,e⟩;omega⟩
  refine⟨p,⟨fun _=>by simp[hasI,hm],fun _=>by omega⟩,?_⟩
  refine Fun.intro Tryz.func127 rfl (by kernel_rfl) rfl ?_
  repeat'(first|refine Z1 ?_|((refine SP (fun h=>?_) fun h=>?_)<;>(try(exfalso;first|contradiction|omega))))
  refine W.loop (fun m S=> ∃i:Nat,m=sl.length - i∧i≤p∧S=⟨ofL [(0,.d (slotsD sl)),(1,vI .i64 x),(7,vI .i64 (sl.map intRow).length),(8,vI .i64 i)],[]⟩) _ _ ⟨0,rfl,by omega,rfl⟩ lE ?_
  rintro m S ⟨i,rfl,hi,rfl⟩
  repeat'(first|refine Z1 ?_|((refine SP (fun h=>?_) fun h=>?_)<;>(try(exfalso;first|contradiction|omega))))
  all_goals (try simp only[Int.toNat_natCast] at *)
  ·have e:i=p:=by
    by_cases h:i<p
    ·exact absurd (by simp_all) (hmin i h)
    ·omega
   (refine W.ret ?_;(first|refine RetQ.i' ?_))
   rw[e]
  ·have e:i≠p:=fun e=>by subst e;simp_all
   exact⟨_,_,by omega,⟨i+1,rfl,by omega,rfl⟩,lE⟩
 ·refine⟨-1,⟨fun h=>by omega,fun h=>by simp[hasI,hm] at h⟩,?_⟩
  refine Fun.intro Tryz.func127 rfl (by kernel_rfl) rfl ?_
  repeat'(first|refine Z1 ?_|((refine SP (fun h=>?_) fun h=>?_)<;>(try(exfalso;first|contradiction|omega))))
  refine W.loop (fun m S=> ∃i:Nat,m=sl.length - i∧i≤sl.length∧S=⟨ofL [(0,.d (slotsD sl)),(1,vI .i64 x),(7,vI .i64 (sl.map intRow).length),(8,vI .i64 i)],[]⟩) _ _ ⟨0,rfl,by omega,rfl⟩ lE ?_
  rintro m S ⟨i,rfl,hi,rfl⟩
  have hne:i<sl.length→sl.getD i default≠x:=fun h e=>hm (e▸getD_mem' h)
  repeat'(first|refine Z1 ?_|((refine SP (fun h=>?_) fun h=>?_)<;>(try(exfalso;first|contradiction|omega))))
  all_goals (try simp only[Int.toNat_natCast] at *)
  ·exfalso
   exact hne (by omega) (by simp_all)
  ·exact⟨_,_,by omega,⟨i+1,rfl,by omega,rfl⟩,lE⟩
  ·(refine W.ret ?_;(first|refine RetQ.i' ?_))
   rfl
theorem containsI_fn (sl:List Int)(x:Int)(hl:sl.length≤1048576):Fun env.P 74 [slotsD sl,dI x] (.d (dB (hasI sl x))) []:=by
 obtain⟨r,hr,h⟩:=indexI_fn sl x hl
 refine Fun.intro Tryz.func74 rfl (by kernel_rfl) rfl ?_
 repeat'(first|refine Z1 ?_|refine WG.c (E:=env) rfl rfl (h) rfl rfl ?_)
 (refine W.ret ?_;(first|refine RetQ.b' ?_))
 cases hb:hasI sl x with
 |true=>have:=hr.2 hb;simp[this]
 |false=>
  have:¬0≤r:=fun h0=>by rw[hr.1 h0] at hb;cases hb
  simp;omega
theorem cloneI_fn (sl:List Int)(hl:sl.length≤1048576):Fun env.P 76 [slotsD sl] (.og 0 0) [.gr 1 2 (sl.map intRow) 0 false]:=by
 refine Fun.intro Tryz.func76 rfl (by kernel_rfl) rfl ?_
 repeat(first|refine Z1 ?_)
 refine WG.nilB (E:=env) rfl rfl rfl rfl ?_
 intro b hb
 cases b with
 |true=>
  have h0:=hb rfl
  rw[h0]
  repeat'(first|refine Z1 ?_)
  refine W.ret ?_
  exact RetR.gn'
 |false=>
  repeat'(first|refine Z1 ?_)
  refine W.ret ?_
  exact RetQ.own (tt:=.og 0 1) 0 1 (.inl rfl) rfl rO rfl rfl rfl rfl rfl
theorem binds_fn (n:Co)(i:Nat):Fun env.P 75 [.agg n.row,dI i] (.d (dB (decide ((n.op=14∧i=1)∨(n.op=13∧i=2))))) []:=by
 refine Fun.intro Tryz.func75 rfl (by kernel_rfl) rfl ?_
 repeat'(first|refine Z1 ?_|((refine SP (fun h=>?_) fun h=>?_)<;>(try(exfalso;first|contradiction|omega))))
 all_goals (refine W.ret ?_;(first|refine RetQ.b' ?_))
 all_goals (simp_all;try omega)
theorem coreLooked_fn (cs:List Co)(hl:cs.length≤1048)(hok:NcOK cs): ∀(f k:Nat) (sl:List Int),k<f→k<cs.length→sl.length+k≤4096→
 Fun env.P 24 [coresD cs,dI k,slotsD sl] (.tup [.d (dI (nestM (nmC cs) k)),.d (dB (bndF cs f k sl))]) []
 |0,k,sl,h,_,_=>by omega
 |f+1,k,sl,hkf,hk,hs=>by
  have ih:=coreLooked_fn cs hl hok f
  have hnm:=namedKC_fn cs k (hok k hk)
  have hka:=kidsC_ar (hok k hk)
  have hlt: ∀j∈kidsOf (nmC cs) k,j<k:=fun j hj=>kidsOf_lt hj
  rw[nestM_eq,bndF]
  generalize kidsOf (nmC cs) k=ks at hnm hlt hka
  have hil:=intsN_length ks
  refine Fun.intro Tryz.func24 rfl (by kernel_rfl) rfl ?_
  repeat(first|refine Z1 ?_)
  have hat:cs.getD (Int.toNat k) default=cs.getD k default:=by simp
  rw[hat]
  generalize hn:cs.getD k default=n at hnm hka
  clear hat
  have hkl:=arC_le n.op
  have hct:=containsI_fn sl n.num (by omega)
  by_cases h15:n.op=15
  ·have hk0:ks.length=0:=by rw[hka,h15];decide
   have hkn:ks=[]:=List.eq_nil_of_length_eq_zero hk0
   repeat'(first|refine Z1 ?_|refine WG.c (E:=env) rfl rfl (hct) rfl rfl ?_|refine WG.c (E:=env) rfl rfl (hnm) rfl rfl ?_|((refine SP (fun h=>?_) fun h=>?_)<;>(try(exfalso;first|contradiction|omega))))
   refine W.loop (fun m S=>m=0∧S=⟨ofL [(9,vI .i64 0),(10,.d (dB (hasI sl n.num))),(31,vI .i64 ((intsN ks).map intRow).length),(32,vI .i64 0)],[]⟩) _ _ ⟨rfl,rfl⟩ lE ?_
   rintro m S ⟨rfl,rfl⟩
   repeat'(first|refine Z1 ?_|((refine SP (fun h=>?_) fun h=>?_)<;>(try(exfalso;first|contradiction|omega))))
   (refine W.ret ?_;(first|refine RetQ.t2' ?_ ?_))
   ·rw[hkn];simp[maxL];rfl
   ·rw[hkn,h15];simp[allK];rfl
  ·have hdec:decide (n.op=15)=false:=by simpa using h15
   rw[hdec,Bool.not_false,Bool.true_or,Bool.true_and]
   repeat'(first|refine Z1 ?_|refine WG.c (E:=env) rfl rfl (hct) rfl rfl ?_|refine WG.c (E:=env) rfl rfl (hnm) rfl rfl ?_|((refine SP (fun h=>?_) fun h=>?_)<;>(try(exfalso;first|contradiction|omega))))
   refine W.loopI (fun m S=> ∃(i:Nat) (x:Int) (b:Bool),m=ks.length - i∧(i≤ks.length∧x=(maxL (nestM (nmC cs)) (ks.take i):Nat)∧b=allK (fun i j=>bndF cs f j (inC n i sl)) (ks.take i) 0)∧
    S=⟨ofL [(0,.d (coresD cs)),(2,.d (slotsD sl)),(8,.lp 0 0),(9,vI .i64 x),(10,.d (dB b)),(30,.d (.sl 1 ((intsN ks).map intRow))),(31,vI .i64 ((intsN ks).map intRow).length),(32,vI .i64 i)],[.pv (n.row.map .d)]⟩) _ _
    ⟨0,0,true,rfl,⟨by omega,by simp[maxL],by simp[allK]⟩,rfl⟩ (St.imp.of_le lE) ?_
   rintro m S ⟨i,x,b,rfl,⟨hi,hx,hb⟩,rfl⟩
   have hmx:maxL (nestM (nmC cs)) (ks.take i)≤4096:=maxL_le (by omega) fun j hj=>by
    have:=hlt j (List.mem_of_mem_take hj)
    have:=nestM_le (nmC cs) j
    omega
   by_cases hik:i<ks.length
   ·have hkm:=hlt _ (getD_mem' hik)
    have hnl:=nestM_le (nmC cs) (ks.getD i default)
    have hia:=intsN_at ks i hik
    have hia2:(intsN ks).getD (Int.toNat i) default=((ks.getD i default:Nat):Int):=by simpa using hia
    have hbd:=binds_fn n i
    have hcl:=cloneI_fn sl (by omega)
    have htk:=allK_take (fun i j=>bndF cs f j (inC n i sl)) ks hik
    by_cases hc:(n.op=14∧i=1)∨(n.op=13∧i=2)
    ·have hinc:inC n i sl=sl++[n.num]:=by rw[inC,if_pos hc]
     rw[decide_eq_true hc] at hbd
     have ih':=ih (ks.getD i default) (sl++[n.num]) (by omega) (by omega) (by rw[List.length_append,List.length_singleton];omega)
     rw[←hia2] at ih'
     have ih2:=ih'.cast (args':=[coresD cs,dI ((intsN ks).getD (Int.toNat i) default),.sl 1 (sl.map intRow++[[dI n.num]])]) (by simp[slotsD]) rfl rfl
     repeat'(first|(refine W.dre' (id:=8) [1,5] (fun f=>bif bt f 2 then [.pv (n.row.map .d),.gr 1 2 (sl.map intRow++[[dI n.num]]) 1 false] else bif bt f 1 then [.pv (n.row.map .d),.gr 1 2 (sl.map intRow) 0 false] else [.pv (n.row.map .d)]) [(0,[0]),(1,[0]),(0,[0,1]),(0,[0,1]),(0,[0,1]),(2,[1]),(0,[3])] [.pv (n.row.map .d),.gr 1 2 (sl.map intRow++[[dI n.num]]) 1 false] ?_)|refine W.pubD 1 rfl ?_|refine WE.mkd (.og 1 0) ?_ (.c (OpS1.coG rfl rfl hcl rfl rfl rfl) .n)|refine Z2 ?_|refine Z1 ?_|refine WG.c (E:=env) rfl rfl (hbd) rfl rfl ?_|refine WG.c (E:=env) rfl rfl (ih2) rfl rfl ?_|((refine SP (fun h=>?_) fun h=>?_)<;>(try(exfalso;first|contradiction|omega))))
     ·exact⟨_,_,by omega,⟨i+1,max x ((nestM (nmC cs) (ks.getD i default):Nat):Int),bndF cs f (ks.getD i default) (sl++[n.num]),rfl,⟨by omega,by rw[hx,take_step hik,maxL_snoc];omega,by rw[htk,←hb,hinc,‹b=true›];rfl⟩,rfl⟩,(St.imp.of_le lE)⟩
     ·exact⟨_,_,by omega,⟨i+1,max x ((nestM (nmC cs) (ks.getD i default):Nat):Int),false,rfl,⟨by omega,by rw[hx,take_step hik,maxL_snoc];omega,by rw[htk,←hb,‹b=false›];rfl⟩,rfl⟩,(St.imp.of_le lE)⟩
    ·have hinc:inC n i sl=sl:=by rw[inC,if_neg hc]
     rw[decide_eq_false hc] at hbd
     have ih':=ih (ks.getD i default) sl (by omega) (by omega) (by omega)
     rw[←hia2] at ih'
     repeat'(first|refine Z1 ?_|refine WG.c (E:=env) rfl rfl (hbd) rfl rfl ?_|refine WG.c (E:=env) rfl rfl (ih') rfl rfl ?_|((refine SP (fun h=>?_) fun h=>?_)<;>(try(exfalso;first|contradiction|omega))))
     ·exact⟨_,_,by omega,⟨i+1,max x ((nestM (nmC cs) (ks.getD i default):Nat):Int),bndF cs f (ks.getD i default) (sl),rfl,⟨by omega,by rw[hx,take_step hik,maxL_snoc];omega,by rw[htk,←hb,hinc,‹b=true›];rfl⟩,rfl⟩,(St.imp.of_le lE)⟩
     ·exact⟨_,_,by omega,⟨i+1,max x ((nestM (nmC cs) (ks.getD i default):Nat):Int),false,rfl,⟨by omega,by rw[hx,take_step hik,maxL_snoc];omega,by rw[htk,←hb,‹b=false›];rfl⟩,rfl⟩,(St.imp.of_le lE)⟩
   ·repeat'(first|refine Z1 ?_|((refine SP (fun h=>?_) fun h=>?_)<;>(try(exfalso;first|contradiction|omega))))
    (refine W.ret ?_;(first|refine RetQ.t2' ?_ ?_))
    ·rw[hx,show i=ks.length by omega,List.take_length];simp;rfl
    ·rw[hb,show i=ks.length by omega,List.take_length];rfl
theorem l6Known_fn (cs:List Co)(hl:cs.length≤1048)(hok:NcOK cs): ∀(f k:Nat) (sl:List Int),k<f→k<cs.length→sl.length+k≤4096→
 Fun env.P 92 [coresD cs,dI k,slotsD sl] (.d (dB (bndF cs f k sl))) []
 |0,k,sl,h,_,_=>by omega
 |f+1,k,sl,hkf,hk,hs=>by
  have ih:=l6Known_fn cs hl hok f
  have hka:=kidsC_ar (hok k hk)
  have hkat:=fun q hq=>kidsC_at (hok k hk) (i:=q) hq
  have hlt: ∀j∈kidsOf (nmC cs) k,j<k:=fun j hj=>kidsOf_lt hj
  rw[bndF]
  generalize kidsOf (nmC cs) k=ks at hlt hka hkat
  refine Fun.intro Tryz.func92 rfl (by kernel_rfl) rfl ?_
  repeat(first|refine Z1 ?_)
  have hat:cs.getD (Int.toNat k) default=cs.getD k default:=by simp
  rw[hat]
  generalize hn:cs.getD k default=n at hka hkat
  clear hat
  have hkl:=arC_le n.op
  by_cases h15:n.op=15
  ·have hk0:ks.length=0:=by rw[hka,h15];decide
   have hkn:ks=[]:=List.eq_nil_of_length_eq_zero hk0
   have hres:((!decide (n.op=15)||hasI sl n.num)&&allK (fun i j=>bndF cs f j (inC n i sl)) ks 0)=hasI sl n.num:=by rw[hkn,h15];simp[allK]
   rw[hres]
   repeat'(first|refine Z1 ?_|((refine SP (fun h=>?_) fun h=>?_)<;>(try(exfalso;first|contradiction|omega))))
   refine W.loop (fun m S=> ∃i:Nat,m=sl.length - i∧(i≤sl.length∧ ∀q,q<i→sl.getD q default≠n.num)∧S=⟨ofL [(2,.d (slotsD sl)),(7,.lp 0 0),(8,vI .i64 i)],[.pv (n.row.map .d)]⟩) _ _ ⟨0,rfl,⟨by omega,fun q hq=>by omega⟩,rfl⟩ lE ?_
   rintro m S ⟨i,rfl,⟨hi,hne⟩,rfl⟩
   by_cases hil:i<sl.length
   ·repeat'(first|refine Z1 ?_|((refine SP (fun h=>?_) fun h=>?_)<;>(try(exfalso;first|contradiction|omega))))
    all_goals (try simp only[Int.toNat_natCast] at *)
    ·(refine W.ret ?_;(first|refine RetQ.b' ?_))
     have hmem:=getD_mem' hil
     have e:sl.getD i default=n.num:=by assumption
     rw[e] at hmem
     simp[hasI,hmem]
    ·exact⟨_,_,by omega,⟨i+1,rfl,⟨by omega,fun q hq=>by
      by_cases e:q=i
      ·rw[e];assumption
      ·exact hne q (by omega)⟩,rfl⟩,lE⟩
   ·repeat'(first|refine Z1 ?_|((refine SP (fun h=>?_) fun h=>?_)<;>(try(exfalso;first|contradiction|omega))))
    (refine W.ret ?_;(first|refine RetQ.b' ?_))
    have:¬n.num∈sl:=fun hm=>by
     obtain⟨p,hp,e⟩:=List.getElem_of_mem hm
     exact hne p (by omega) (by simp[hp,e])
    simp[hasI,this]
  ·have hdec:decide (n.op=15)=false:=by simpa using h15
   rw[hdec,Bool.not_false,Bool.true_or,Bool.true_and]
   have hks:=l6Kids_fn n.op
   rw[←hka] at hks
   repeat'(first|refine Z1 ?_|((refine SP (fun h=>?_) fun h=>?_)<;>(try(exfalso;first|contradiction|omega))))
   refine W.loopI (fun m S=> ∃i:Nat,m=ks.length - i∧(i≤ks.length∧allK (fun i j=>bndF cs f j (inC n i sl)) (ks.take i) 0=true)∧
    S=⟨ofL [(0,.d (coresD cs)),(2,.d (slotsD sl)),(7,.lp 0 0),(9,vI .i64 i)],[.pv (n.row.map .d)]⟩) _ _ ⟨0,rfl,⟨by omega,by simp[allK]⟩,rfl⟩ (St.imp.of_le lE) ?_
   rintro m S ⟨i,rfl,⟨hi,hb⟩,rfl⟩
   by_cases hik:i<ks.length
   ·have hkm:=hlt _ (getD_mem' hik)
    have hkd:=l6Kid_fn n i (by omega)
    rw[hkat i hik] at hkd
    have htk:=allK_take (fun i j=>bndF cs f j (inC n i sl)) ks hik
    have hfal:=allK_false (f:=fun i j=>bndF cs f j (inC n i sl)) (l:=ks) (q:=0) (i:=i) hik
    rw[Nat.zero_add] at hfal
    repeat(first|refine Z1 ?_|refine WG.c (E:=env) rfl rfl (hks) rfl rfl ?_)
    refine W.cond rfl (fun e1=>?_) (fun e1=>?_)
    rotate_left
    ·exfalso;simp at e1;omega
    refine W.skip ?_
    repeat refine W.seq ?_
    refine W.block ?_
    repeat refine W.seq ?_
    refine W.rg ?_
    repeat(first|refine WG.nil ?_|refine WG.run' (E:=env) ?_|refine WG.gt' ?_|refine WG.gf' ?_|refine WG.ixm' (E:=env) ?_)
    repeat refine W.seq ?_
    refine W.jb 54 (decide ((n.op=14∧i=1)∨(n.op=13∧i=2))) ?_ ?_
    ·repeat'(first|refine WG.nil ?_|refine WG.run' (E:=env) ?_|refine WG.gt' ?_|refine WG.gf' ?_|refine WG.ixm' (E:=env) ?_|(refine WG.sp' (fun h=>?_) fun h=>?_<;>(try simp only[atS,List.length_map,beq_self_eq_true] at h)<;>(try(exfalso;first|contradiction|omega))))
     all_goals refine ⟨rfl,rfl,_,rfl,?_,by(repeat refine leU.step rfl ?_)<;>first|exact leU.forget (leU.refl _)|exact leU.refl _|(repeat(first|exact leU.forget (leU.refl _)|exact leU.refl _|refine leU.step rfl ?_))⟩
     all_goals (simp_all;try omega)
    by_cases hc:(n.op=14∧i=1)∨(n.op=13∧i=2)
    ·have hinc:inC n i sl=sl++[n.num]:=by rw[inC,if_pos hc]
     rw[decide_eq_true hc]
     have ih':=ih (ks.getD i default) (sl++[n.num]) (by omega) (by omega) (by rw[List.length_append,List.length_singleton];omega)
     have ih2:=ih'.cast (args':=[coresD cs,dI ((ks.getD i default:Nat):Int),.sl 1 (([]++sl.map intRow)++[[dI n.num]])]) (by simp[slotsD]) rfl rfl
     repeat'(first|(refine W.dre' (id:=14) [0,2,6] (fun f=>bif bt f 4 then [.pv (n.row.map .d),.gr 1 2 (([]++sl.map intRow)++[[dI n.num]]) 2 false] else bif bt f 2 then [.pv (n.row.map .d),.gr 1 2 ([]++sl.map intRow) 1 false] else bif bt f 1 then [.pv (n.row.map .d),.gr 1 2 [] 0 false] else [.pv (n.row.map .d)]) [(1,[0]),(0,[0,1]),(2,[1]),(0,[0,1,3]),(0,[0,1,3]),(0,[0,1,3]),(4,[3]),(0,[7])] [.pv (n.row.map .d),.gr 1 2 (([]++sl.map intRow)++[[dI n.num]]) 2 false] ?_)|refine W.pubD 1 rfl ?_|refine WE.mkd (.og 1 0) ?_ (.c (OpS1.bsO rfl rfl rfl rfl rfl rfl rfl rfl rfl rfl rfl rfl) .n)|refine Z2 ?_|refine Z1 ?_|refine WG.c (E:=env) rfl rfl (hkd) rfl rfl ?_|refine WG.c (E:=env) rfl rfl (ih2) rfl rfl ?_|((refine SP (fun h=>?_) fun h=>?_)<;>(try(exfalso;first|contradiction|omega))))
     ·(refine W.ret ?_;(first|refine RetQ.b' ?_))
      rw[hfal (by rw[hinc];assumption)]
     ·exact⟨_,_,by omega,⟨i+1,rfl,⟨by omega,by rw[htk,hb,hinc];assumption⟩,rfl⟩,(St.imp.of_le lE)⟩
    ·have hinc:inC n i sl=sl:=by rw[inC,if_neg hc]
     rw[decide_eq_false hc]
     have ih':=ih (ks.getD i default) sl (by omega) (by omega) (by omega)
     repeat'(first|refine Z1 ?_|refine WG.c (E:=env) rfl rfl (hkd) rfl rfl ?_|refine WG.c (E:=env) rfl rfl (ih') rfl rfl ?_|((refine SP (fun h=>?_) fun h=>?_)<;>(try(exfalso;first|contradiction|omega))))
     ·(refine W.ret ?_;(first|refine RetQ.b' ?_))
      rw[hfal (by rw[hinc];assumption)]
     ·exact⟨_,_,by omega,⟨i+1,rfl,⟨by omega,by rw[htk,hb,hinc];assumption⟩,rfl⟩,(St.imp.of_le lE)⟩
   ·repeat'(first|refine Z1 ?_|refine WG.c (E:=env) rfl rfl (hks) rfl rfl ?_|((refine SP (fun h=>?_) fun h=>?_)<;>(try(exfalso;first|contradiction|omega))))
    (refine W.ret ?_;(first|refine RetQ.b' ?_))
    rw[←hb,show i=ks.length by omega,List.take_length]
def firstK (f:Nat→Int):Nat→Nat→Int
 |0,_=>0
 |m+1,k=>if f k≠0 then f k else firstK f m (k+1)
theorem firstK_zero {f:Nat→Int}: ∀ {m k:Nat},firstK f m k=0→ ∀j,k≤j→j<k+m→f j=0
 |0,k,_,j,h1,h2=>by omega
 |m+1,k,h,j,h1,h2=>by
  unfold firstK at h
  split at h
  ·contradiction
  ·rename_i hk
   by_cases e:j=k
   ·rw[e];simpa using hk
   ·exact firstK_zero h j (by omega) (by omega)
abbrev cCode (cs:List Co)(k:Nat):Int:=coreC (cs.getD k default) k
noncomputable def coreM (cs:List Co):Int:=
 if ¬(1≤cs.length∧cs.length≤900) then 2
 else if firstK (cCode cs) cs.length 0≠0 then firstK (cCode cs) cs.length 0
 else if begM (nmC cs) (cs.length - 1)≠0 then 1
 else if bndF cs cs.length (cs.length - 1) []=false then 4
 else if 120<nestM (nmC cs) (cs.length - 1) then 7 else 0
theorem ncOK_of {cs:List Co}(h:firstK (cCode cs) cs.length 0=0):NcOK cs:=fun k hk=>coreC_named (firstK_zero h k (by omega) (by omega))
theorem sizeC_fn (cs:List Co):Fun env.P 21 [coresD cs] (.d (dI (cs.map Co.row).length)) []:=by
 refine Fun.intro Tryz.func21 rfl (by kernel_rfl) rfl ?_
 repeat'(first|refine Z1 ?_)
 (refine W.ret ?_;(first|refine RetQ.i' ?_))
 rfl
theorem CoreFault_fn (cs:List Co)(hl:cs.length≤1048576)(ht: ∀n∈cs,n.fine):Fun env.P 8 [coresD cs] (.d (dI (coreM cs))) []:=by
 have hsz:=sizeC_fn cs
 have hin:=within_fn ((cs.map Co.row).length:Int) 1 900
 by_cases hlen:1≤cs.length∧cs.length≤900
 ·have e0:coreM cs=if firstK (cCode cs) cs.length 0≠0 then firstK (cCode cs) cs.length 0 else if begM (nmC cs) (cs.length - 1)≠0 then 1 else if bndF cs cs.length (cs.length - 1) []=false then 4 else if 120<nestM (nmC cs) (cs.length - 1) then 7 else 0:=by
   unfold coreM;rw[if_neg (fun h=>h hlen)]
  refine Fun.intro Tryz.func8 rfl (by kernel_rfl) rfl ?_
  repeat'(first|refine Z1 ?_|refine WG.c (E:=env) rfl rfl (hsz) rfl rfl ?_|refine WG.c (E:=env) rfl rfl (hin) rfl rfl ?_|((refine SP (fun h=>?_) fun h=>?_)<;>(try(exfalso;first|contradiction|omega))))
  all_goals first|(exfalso;omega)|skip
  refine W.loopI (fun m S=> ∃(i:Nat),m=cs.length - i∧(i≤cs.length∧firstK (cCode cs) cs.length 0=firstK (cCode cs) (cs.length - i) i)∧S=⟨ofL [(0,.d (coresD cs)),(13,.d (coresD cs)),(14,vI .i64 (cs.map Co.row).length),(15,vI .i64 i)],[]⟩) _ _ ⟨0,rfl,⟨by omega,rfl⟩,rfl⟩ (St.imp.of_le lE) ?_
  rintro m S ⟨i,rfl,⟨hi,he⟩,rfl⟩
  by_cases hin':i<cs.length
  ·have hat:cs.getD (Int.toNat (i:Int)) default=cs.getD i default:=by simp
   have hnf:Fun env.P 22 [.agg (cs.getD (Int.toNat (i:Int)) default).row,dI i] (.d (dI (coreC (cs.getD i default) i))) []:=by
    rw[hat]
    exact coreNodeFault_fn _ i (by omega) (ht _ (getD_mem' hin'))
   rw[show cs.length - i=(cs.length - (i+1))+1 by omega,firstK] at he
   repeat'(first|refine Z1 ?_|refine WG.c (E:=env) rfl rfl (hnf) rfl rfl ?_|((refine SP (fun h=>?_) fun h=>?_)<;>(try(exfalso;first|contradiction|omega))))
   ·(refine W.ret ?_;(first|refine RetQ.i' ?_))
    rw[if_pos (by assumption)] at he
    rw[e0,he,if_pos (by assumption)]
   ·exact⟨_,_,by omega,⟨i+1,rfl,⟨by omega,by rw[he,if_neg (by simp only[*];simp)]⟩,rfl⟩,(St.imp.of_le lE)⟩
  ·rw[show cs.length - i=0 by omega,firstK] at he
   have hok:=ncOK_of he
   have hb:=coreBegin_fn cs hl hok (cs.length - 1) (by omega)
   have hn:=coreLooked_fn cs (by omega) hok cs.length (cs.length - 1) [] (by omega) (by omega) (by simp;omega)
   rw[show((cs.length - 1:Nat):Int)=((cs.map Co.row).length:Int) - 1 by simp;omega] at hb hn
   rw[e0,if_neg (fun h=>h he)]
   generalize bndF cs cs.length (cs.length - 1) []=bo at hn
   repeat'(first|refine Z1 ?_|refine WG.c (E:=env) rfl rfl (hsz) rfl rfl ?_|refine WG.c (E:=env) rfl rfl (hb) rfl rfl ?_|refine WG.c (E:=env) rfl rfl (hn) rfl rfl ?_|((refine SP (fun h=>?_) fun h=>?_)<;>(try(exfalso;first|contradiction|omega))))
   all_goals first|(exfalso;simp at *;omega)|skip
   all_goals (refine W.ret ?_;(first|refine RetQ.i' ?_))
   ·rw[if_pos (by assumption)]
   ·rw[if_neg (fun h=>h (by assumption)),if_pos (by assumption)]
   ·rw[if_neg (fun h=>h (by assumption)),if_neg (by simp[*]),if_pos (by omega)]
   ·rw[if_neg (fun h=>h (by assumption)),if_neg (by simp[*]),if_neg (by omega)]
 ·have e0:coreM cs=2:=by unfold coreM;rw[if_pos hlen]
  rw[e0]
  refine Fun.intro Tryz.func8 rfl (by kernel_rfl) rfl ?_
  repeat'(first|refine Z1 ?_|refine WG.c (E:=env) rfl rfl (hsz) rfl rfl ?_|refine WG.c (E:=env) rfl rfl (hin) rfl rfl ?_|((refine SP (fun h=>?_) fun h=>?_)<;>(try(exfalso;first|contradiction|omega))))
  all_goals first|(exfalso;omega)|skip
  all_goals (refine W.ret ?_;(first|refine RetQ.i' ?_))
  all_goals rfl
theorem begC_ord {cs:List Co}(h:1≤cs.length):begM (nmC cs) (cs.length - 1)=0↔ordM (nmC cs) cs.length (cs.length - 1) []=List.range cs.length:=by
 rw[begM_zero]
 have:=ordM_range (nm:=nmC cs) (k:=cs.length - 1)
 rw[show cs.length - 1+1=cs.length by omega] at this ⊢
 exact this.symm
theorem rangeC_of {l:List Nat}(h: ∀j,j<l.length→l.getD j default=j):l=List.range l.length:=by
 apply List.ext_getElem
 ·simp
 ·intro j h1 h2
  have:=h j h1
  simpa [h1] using this
theorem CoreFaultS_fn (cs:List Co)(hl:cs.length≤1048576)(ht: ∀n∈cs,n.fine):Fun env.P 34 [coresD cs] (.d (dI (coreM cs))) []:=by
 by_cases hlen:1≤cs.length∧cs.length≤900
 ·have e0:coreM cs=if firstK (cCode cs) cs.length 0≠0 then firstK (cCode cs) cs.length 0 else if begM (nmC cs) (cs.length - 1)≠0 then 1 else if bndF cs cs.length (cs.length - 1) []=false then 4 else if 120<nestM (nmC cs) (cs.length - 1) then 7 else 0:=by
   unfold coreM;rw[if_neg (fun h=>h hlen)]
  refine Fun.intro Tryz.func34 rfl (by kernel_rfl) rfl ?_
  repeat'(first|refine Z1 ?_|((refine SP (fun h=>?_) fun h=>?_)<;>(try(exfalso;first|contradiction|omega))))
  all_goals first|(exfalso;omega)|skip
  refine W.loop (fun m S=> ∃i:Nat,m=cs.length - i∧(i≤cs.length∧firstK (cCode cs) cs.length 0=firstK (cCode cs) (cs.length - i) i)∧S=⟨ofL [(0,.d (coresD cs)),(3,vI .i64 i)],[]⟩) _ _ ⟨0,rfl,⟨by omega,rfl⟩,rfl⟩ lE ?_
  rintro m S ⟨i,rfl,⟨hi,he⟩,rfl⟩
  by_cases hin':i<cs.length
  ·have hnf:=l6Node_fn cs i hin' hl ht
   rw[show cs.length - i=(cs.length - (i+1))+1 by omega,firstK] at he
   repeat'(first|refine Z1 ?_|refine WG.c (E:=env) rfl rfl (hnf) rfl rfl ?_|((refine SP (fun h=>?_) fun h=>?_)<;>(try(exfalso;first|contradiction|omega))))
   ·(refine W.ret ?_;(first|refine RetQ.i' ?_))
    rw[if_pos (by assumption)] at he
    rw[e0,he,if_pos (by assumption)]
   ·exact⟨_,_,by omega,⟨i+1,rfl,⟨by omega,by rw[he,if_neg (by simp only[*];simp)]⟩,rfl⟩,lE⟩
  ·rw[show cs.length - i=0 by omega,firstK] at he
   have hok:=ncOK_of he
   have ho:=l6Order_fn cs (by omega) hok (cs.length - 1) (by omega) [] (by simp)
   have hkn:=l6Known_fn cs (by omega) hok cs.length (cs.length - 1) [] (by omega) (by omega) (by simp;omega)
   have hbo:=begC_ord (cs:=cs) hlen.1
   have hbz:=begM_zero (nm:=nmC cs) (k:=cs.length - 1)
   have hol:=(ordM_p (nmC cs) cs.length (cs.length - 1) []).2.2.2
   rw[show((cs.length - 1:Nat):Int)=((cs.map Co.row).length:Int) - 1 by simp;omega] at ho hkn
   rw[e0,if_neg (fun h=>h he)]
   generalize ordM (nmC cs) cs.length (cs.length - 1) []=o at ho hbo hol
   have hil:=intsN_length o
   repeat'(first|refine WG.cqN (E:=env) (t':=.og 1 0) (ob2:=[.dead,.gr 1 2 (natRowsC o) 0 false]) 2 2 1 [0] [0] rfl rfl ho rfl rfl rfl rfl rfl rfl rfl rfl ⟨rfl,trivial⟩ rfl rfl rfl ?_|refine Z1 ?_|fail|((refine SP (fun h=>?_) fun h=>?_)<;>(try(exfalso;first|contradiction|omega))))
   ·(refine W.ret ?_;(first|refine RetQ.i' ?_))
    have hne:¬begM (nmC cs) (cs.length - 1)=0:=fun hb=>by
     have e2:o.length=cs.length:=by rw[hbo.1 hb];simp
     omega
    rw[if_pos hne]
   have hll:o.length=cs.length:=by omega
   refine W.loop (fun m S=> ∃j:Nat,m=cs.length - j∧(j≤cs.length∧ ∀p,p<j→o.getD p default=p)∧S=⟨ofL [(0,.d (coresD cs)),(5,vI .i64 (((cs.map Co.row).length:Int) - 1)),(6,.og 1 0),(7,vI .i64 j)],[.dead,.gr 1 2 (natRowsC o) 0 false]⟩) _ _ ⟨0,rfl,⟨by omega,fun p hp=>by omega⟩,rfl⟩ lE ?_
   rintro m S ⟨j,rfl,⟨hj,hjj⟩,rfl⟩
   by_cases hjl:j<cs.length
   ·have hat:=intsN_at o j (by omega)
    repeat'(first|refine Z1 ?_|((refine SP (fun h=>?_) fun h=>?_)<;>(try(exfalso;first|contradiction|omega))))
    all_goals (try simp only[Int.toNat_natCast] at *)
    ·(refine W.ret ?_;(first|refine RetQ.i' ?_))
     have hne:¬begM (nmC cs) (cs.length - 1)=0:=fun hb=>by
      have e2:o.getD j default=j:=by rw[hbo.1 hb];simp[hjl]
      rw[e2] at hat
      contradiction
     rw[if_pos hne]
    ·refine⟨_,_,by omega,⟨j+1,rfl,⟨by omega,fun p hp=>?_⟩,rfl⟩,lE⟩
     by_cases e:p=j
     ·subst e
      omega
     ·exact hjj p (by omega)
   ·have hor:o=List.range cs.length:=by
     rw[←hll]
     exact rangeC_of fun p hp=>hjj p (by omega)
    have hbz0:=hbo.2 hor
    have hmost:=nest_most (hbz.1 hbz0)
    rw[show cs.length - 1+1=cs.length by omega] at hmost
    rw[if_neg (fun h=>h hbz0)]
    generalize bndF cs cs.length (cs.length - 1) []=bo at hkn
    cases bo with
    |false=>
     repeat'(first|refine Z1 ?_|refine WG.c (E:=env) rfl rfl (hkn) rfl rfl ?_|((refine SP (fun h=>?_) fun h=>?_)<;>(try(exfalso;first|contradiction|omega))))
     (refine W.ret ?_;(first|refine RetQ.i' ?_))
     rfl
    |true=>
     rw[if_neg (by simp)]
     repeat'(first|refine Z1 ?_|refine WG.c (E:=env) rfl rfl (hkn) rfl rfl ?_|((refine SP (fun h=>?_) fun h=>?_)<;>(try(exfalso;first|contradiction|omega))))
     have hnest:=nestM_le (nmC cs)
     refine WG.mk (E:=env) (z:=1) (zs:=[dI 0]) rfl rfl rfl rfl rfl rfl rfl rfl rfl rfl rfl ?_ ?_
     ·refine⟨by simp,by simp,?_⟩
      show((8:Nat):Int)*_≤_
      simp;omega
     rw[show List.replicate (((cs.map Co.row).length:Int)).toNat [dI 0]=(dsY (nestM (nmC cs)) cs.length 0 0).map intRow by rw[dsY_zero];simp]
     repeat'(first|refine Z1 ?_|((refine SP (fun h=>?_) fun h=>?_)<;>(try(exfalso;first|contradiction|omega))))
     refine W.loopI (fun m S=> ∃(i:Nat),m=cs.length - i∧(i≤cs.length∧ ∀j,j<i→nestM (nmC cs) j≤120)∧
      S=⟨ofL [(0,.d (coresD cs)),(8,.og 2 0),(9,vI .i64 i)],[.dead,.gr 1 2 (natRowsC o) 0 false,.gr 1 2 ((dsY (nestM (nmC cs)) cs.length i 0).map intRow) 0 false]⟩) _ _ ⟨0,rfl,⟨by omega,fun j hj=>by omega⟩,rfl⟩ (St.imp.of_le lE) ?_
     rintro m S ⟨i,rfl,⟨hi,hx⟩,rfl⟩
     by_cases hin:i<cs.length
     ·have hka:=kidsC_ar (hok i hin)
      have hkat:=fun q hq=>kidsC_at (hok i hin) (i:=q) hq
      have hlt: ∀j∈kidsOf (nmC cs) i,j<i:=fun j hj=>kidsOf_lt hj
      have heq:=nestM_eq (nmC cs) i
      generalize kidsOf (nmC cs) i=ks at hka hkat hlt heq
      have hkl:=arC_le (cs.getD i default).op
      repeat(first|refine Z1 ?_)
      refine W.cond rfl (fun e1=>?_) (fun e1=>?_)
      rotate_left
      ·exfalso;simp at e1;omega
      repeat(first|refine Z1 ?_)
      have hat:cs.getD (Int.toNat (i:Int)) default=cs.getD i default:=by simp
      have hks:Fun env.P 93 [dI (cs.getD (Int.toNat (i:Int)) default).op] (.d (dI ks.length)) []:=by rw[hat,hka];exact l6Kids_fn _
      refine W.loopI (fun m S=> ∃(q:Nat) (y:Int),m=ks.length - q∧(q≤ks.length∧y=(maxL (nestM (nmC cs)) (ks.take q):Nat))∧
       S=⟨ofL [(0,.d (coresD cs)),(8,.og 2 0),(9,vI .i64 i),(10,vI .i64 q)],[.dead,.gr 1 2 (natRowsC o) 0 false,.gr 1 2 ((dsY (nestM (nmC cs)) cs.length i y).map intRow) 0 false]⟩) _ _ ⟨0,0,rfl,⟨by omega,by simp[maxL]⟩,rfl⟩ (St.imp.of_le lE) ?_
      rintro m S ⟨q,y,rfl,⟨hq,hy⟩,rfl⟩
      have hdl:=dsY_length (nestM (nmC cs)) cs.length i y
      have hmy:maxL (nestM (nmC cs)) (ks.take q)≤2096:=maxL_le (by omega) fun j hj=>by
       have:=hlt j (List.mem_of_mem_take hj)
       have:=hnest j
       omega
      by_cases hqk:q<ks.length
      ·have hkd:Fun env.P 95 [.agg (cs.getD (Int.toNat (i:Int)) default).row,dI q] (.d (dI ((ks.getD q default:Nat):Int))) []:=by rw[hat,←hkat q hqk];exact l6Kid_fn _ _ (by omega)
       have hjl:=hlt _ (getD_mem' hqk)
       generalize hkj:ks.getD q default=j at hkd hjl
       have hnj:=hnest j
       have ei:(dsY (nestM (nmC cs)) cs.length i y).getD (Int.toNat (i:Int)) default=y:=by
        rw[Int.toNat_natCast,dsY_at _ _ _ _ hin,if_neg (by omega),if_pos rfl]
       have ej:(dsY (nestM (nmC cs)) cs.length i y).getD (Int.toNat (j:Int)) default=((nestM (nmC cs) j:Nat):Int):=by
        rw[Int.toNat_natCast,dsY_at _ _ _ _ (by omega),if_pos hjl]
       have ri:((dsY (nestM (nmC cs)) cs.length i y).map intRow)[Int.toNat (i:Int)]? =some [dI y]:=by rw[map_row intRow _ _ ⟨by omega,by omega⟩,ei]
       have rj:((dsY (nestM (nmC cs)) cs.length i y).map intRow)[Int.toNat (j:Int)]? =some [dI (nestM (nmC cs) j:Nat)]:=by rw[map_row intRow _ _ ⟨by omega,by omega⟩,ej]
       have hset:((dsY (nestM (nmC cs)) cs.length i y).map intRow).set (Int.toNat (i:Int)) [dI (max y ((nestM (nmC cs) j:Nat):Int))]=(dsY (nestM (nmC cs)) cs.length i (max y ((nestM (nmC cs) j:Nat):Int))).map intRow:=by
        rw[Int.toNat_natCast]
        exact(List.map_set ..).symm.trans (congrArg (List.map intRow) (dsY_set _ _ _ _ _))
       have hbi:0≤(i:Int)∧(i:Int)<((dsY (nestM (nmC cs)) cs.length i y).map intRow).length:=by simp[hdl];omega
       have hbj:0≤(j:Int)∧(j:Int)<((dsY (nestM (nmC cs)) cs.length i y).map intRow).length:=by simp[hdl];omega
       have hmx:=l1MaxC_fn y ((nestM (nmC cs) j:Nat):Int)
       repeat'(first|(refine W.dre' (id:=27) [17] (fun f=>[.dead,.gr 1 2 (natRowsC o) 0 false,.gr 1 2 (bif bt f 1 then((dsY (nestM (nmC cs)) cs.length i y).map intRow).set (Int.toNat (i:Int)) [dI (max y ((nestM (nmC cs) j:Nat):Int))] else(dsY (nestM (nmC cs)) cs.length i y).map intRow) 0 false]) [(0,[0]),(0,[0]),(0,[0]),(0,[0]),(0,[0]),(0,[0]),(0,[0]),(0,[0]),(0,[0]),(0,[0]),(0,[0]),(0,[0]),(0,[0]),(0,[0]),(0,[0]),(0,[0]),(0,[0]),(1,[0])] [.dead,.gr 1 2 (natRowsC o) 0 false,.gr 1 2 (((dsY (nestM (nmC cs)) cs.length i y).map intRow).set (Int.toNat (i:Int)) [dI (max y ((nestM (nmC cs) j:Nat):Int))]) 0 false] ?_)|refine WE.c' (E:=env) hkd ?_|refine WE.c' (E:=env) hmx ?_|refine WE.seg' (E:=env) ?_ (.c (OpS1.seg rfl rfl rfl rfl ri rfl rfl rfl rfl rfl) .n)|refine WE.ixo' (E:=env) ?_ (.c (OpS1.ixo rfl rfl rfl rfl rfl rfl rfl rfl hbi) .n)|refine WE.ixo' (E:=env) ?_ (.c (OpS1.ixo rfl rfl rfl rfl rfl rfl rfl rfl hbj) .n)|refine WE.leg' (E:=env) ?_ (.c (OpS1.leg rfl rfl rfl rfl rfl ri rfl) .n)|refine WE.leg' (E:=env) ?_ (.c (OpS1.leg rfl rfl rfl rfl rfl rj rfl) .n)|refine Z2 ?_|refine Z1 ?_|refine WG.c (E:=env) rfl rfl (hks) rfl rfl ?_|((refine SP (fun h=>?_) fun h=>?_)<;>(try(exfalso;first|contradiction|omega))))
       refine⟨_,_,by omega,⟨q+1,max y ((nestM (nmC cs) j:Nat):Int),rfl,⟨by omega,by rw[hy,take_step hqk,maxL_snoc,hkj];omega⟩,rfl⟩,St.imp.of_le (leOb (ob':=[.dead,.gr 1 2 (natRowsC o) 0 false,.gr 1 2 ((dsY (nestM (nmC cs)) cs.length i (max y ((nestM (nmC cs) j:Nat):Int))).map intRow) 0 false]) ?_ lE)⟩
       rw[←hset]
      ·have hqe:q=ks.length:=by omega
       have ri:((dsY (nestM (nmC cs)) cs.length i y).map intRow)[Int.toNat (i:Int)]? =some [dI y]:=by rw[map_row intRow _ _ ⟨by omega,by omega⟩,Int.toNat_natCast,dsY_at _ _ _ _ hin,if_neg (by omega),if_pos rfl]
       have hbi:0≤(i:Int)∧(i:Int)<((dsY (nestM (nmC cs)) cs.length i y).map intRow).length:=by simp[hdl];omega
       have e:y+1=((nestM (nmC cs) i:Nat):Int):=by rw[heq,hy,hqe,List.take_length];omega
       have hset:((dsY (nestM (nmC cs)) cs.length i y).map intRow).set (Int.toNat (i:Int)) [dI (y+1)]=(dsY (nestM (nmC cs)) cs.length (i+1) 0).map intRow:=by
        rw[Int.toNat_natCast,←dsY_next,e]
        exact(List.map_set ..).symm.trans (congrArg (List.map intRow) (dsY_set _ _ _ _ _))
       have hdl2:=dsY_length (nestM (nmC cs)) cs.length (i+1) 0
       have ri2:((dsY (nestM (nmC cs)) cs.length (i+1) 0).map intRow)[Int.toNat (i:Int)]? =some [dI (nestM (nmC cs) i:Nat)]:=by rw[map_row intRow _ _ ⟨by omega,by omega⟩,Int.toNat_natCast,dsY_at _ _ _ _ hin,if_pos (by omega)]
       have hbi2:0≤(i:Int)∧(i:Int)<((dsY (nestM (nmC cs)) cs.length (i+1) 0).map intRow).length:=by simp[hdl2];omega
       repeat'(first|refine WG.ixo (E:=env) rfl rfl rfl rfl rfl rfl rfl rfl hbi ?_|refine WG.leg (E:=env) rfl rfl rfl rfl rfl ri rfl ?_|refine Z1 ?_|refine WG.c (E:=env) rfl rfl (hks) rfl rfl ?_|((refine SP (fun h=>?_) fun h=>?_)<;>(try(exfalso;first|contradiction|omega))))
       refine WG.stE (E:=env) rfl rfl rfl rfl ri rfl rfl rfl rfl ?_
       refine WG.obEq (ob':=[.dead,.gr 1 2 (natRowsC o) 0 false,.gr 1 2 ((dsY (nestM (nmC cs)) cs.length (i+1) 0).map intRow) 0 false]) (congrArg (fun r=>[Ob.dead,Ob.gr 1 2 (natRowsC o) 0 false,Ob.gr 1 2 r 0 false]) hset) ?_
       repeat'(first|refine WG.ixo (E:=env) rfl rfl rfl rfl rfl rfl rfl rfl hbi2 ?_|refine WG.leg (E:=env) rfl rfl rfl rfl rfl ri2 rfl ?_|refine Z1 ?_|fail|((refine SP (fun h=>?_) fun h=>?_)<;>(try(exfalso;first|contradiction|omega))))
       ·(refine W.ret ?_;(first|refine RetQ.i' ?_))
        have:=maxL_mem (f:=nestM (nmC cs)) (l:=List.range cs.length) (j:=i) (by simp[hin])
        rw[if_pos (by omega)]
       ·exact⟨_,_,by omega,⟨i+1,rfl,⟨by omega,fun j hj=>by
         by_cases e2:j=i
         ·rw[e2];omega
         ·exact hx j (by omega)⟩,rfl⟩,(St.imp.of_le lE)⟩
     ·repeat'(first|refine Z1 ?_|((refine SP (fun h=>?_) fun h=>?_)<;>(try(exfalso;first|contradiction|omega))))
      (refine W.ret ?_;(first|refine RetQ.i' ?_))
      have:=maxL_le (f:=nestM (nmC cs)) (b:=120) (l:=List.range cs.length) (m:=0) (by omega) (fun j hj=>hx j (by simp at hj;omega))
      have e3:maxL (nestM (nmC cs)) (List.range cs.length)≤120:=this
      rw[if_neg (by omega)]
 ·have e0:coreM cs=2:=by unfold coreM;rw[if_pos hlen]
  rw[e0]
  refine Fun.intro Tryz.func34 rfl (by kernel_rfl) rfl ?_
  repeat'(first|refine Z1 ?_|((refine SP (fun h=>?_) fun h=>?_)<;>(try(exfalso;first|contradiction|omega))))
  all_goals first|(exfalso;omega)|skip
  all_goals (refine W.ret ?_;(first|refine RetQ.i' ?_))
  all_goals rfl
def fitsK (ks:List Co):Prop:=(∀n∈ks,n.fine)∧ks.length≤1048576
end Go.Proofs.YtmmjbpgdkokjgaaGreatDoor
