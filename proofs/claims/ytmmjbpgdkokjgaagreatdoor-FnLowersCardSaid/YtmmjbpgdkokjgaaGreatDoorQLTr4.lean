/-
  A text of this claim. Conditions: none.
-/
import Derived.Test.YtmmjbpgdkokjgaaGreatDoorQLOr1
import Derived.Test.YtmmjbpgdkokjgaaGreatDoorQLV2
import Derived.Test.YtmmjbpgdkokjgaaGreatDoorQLPgG
import Derived.Test.YtmmjbpgdkokjgaaGreatDoorQLPgF
import Derived.Test.YtmmjbpgdkokjgaaGreatDoorQLPgC
import Derived.Test.YtmmjbpgdkokjgaaGreatDoorQLV6
import Derived.Test.YtmmjbpgdkokjgaaGreatDoorQLPgE
import Derived.Test.YtmmjbpgdkokjgaaGreatDoorQLPgD
import Derived.Test.YtmmjbpgdkokjgaaGreatDoorQLRf1
set_option linter.unusedVariables false
set_option linter.unusedSimpArgs false
set_option maxRecDepth 100000
set_option maxHeartbeats 16000000
namespace Go.Proofs.YtmmjbpgdkokjgaaGreatDoor
open Go.RowKit
abbrev neC (rows:List NR)(dd:Option (List (List D))):ObX:=nestX 59 6 5 132 5 rows none dd
def coN (n:Co):NR:=⟨[dI n.op,dI n.a,dI n.b,dI n.c,dI n.num,.v undef],some (n.val.map Cell.row)⟩
theorem coN_dat (xs:List Co):datN 5 5 (xs.map coN)=some (xs.map Co.row):=datN_map 5 5 _ _ xs
inductive Pt where
 |mk (n:Co) (kids:List Pt)
 deriving Inhabited
def Pt.n :Pt→Co
 |.mk n _=>n
def Pt.kids :Pt→List Pt
 |.mk _ kids=>kids
mutual
def Pt.row :Pt→List D
 |.mk n kids=>n.row++[.sl 7 (Pt.rows kids)]
def Pt.rows :List Pt→List (List D)
 |[]=>[]
 |p::r=>p.row::Pt.rows r
end
theorem Pt.rows_map : ∀l:List Pt,Pt.rows l=l.map Pt.row
 |[]=>by simp[Pt.rows]
 |p::r=>by simp[Pt.rows,Pt.rows_map r]
def Pt.rowP (p:Pt):List D:=[dI p.n.op,dI p.n.a,dI p.n.b,dI p.n.c,dI p.n.num,cellsD p.n.val,.sl 7 (p.kids.map Pt.row)]
theorem Pt.row_eq : ∀p:Pt,p.row=p.rowP
 |.mk n kids=>by simp only[Pt.row,Pt.rows_map];rfl
mutual
def Pt.count :Pt→Nat
 |.mk _ kids=>Pt.counts kids+1
def Pt.counts :List Pt→Nat
 |[]=>0
 |p::r=>p.count+Pt.counts r
end
theorem Pt.count_eq (p:Pt):p.count=Pt.counts p.kids+1:=by cases p;rfl
theorem Pt.counts_ge {l:List Pt}(p:Pt)(h:p∈l):p.count≤Pt.counts l:=by
 induction l with
 |nil=>cases h
 |cons a r ih=>
  simp only[Pt.counts]
  rcases List.mem_cons.1 h with rfl|h
  ·omega
  ·have:=ih h;omega
def Co.put (n:Co)(es:List Int):Co:=⟨n.op,es.getD 0 n.a,es.getD 1 n.b,es.getD 2 n.c,n.num,n.val⟩
mutual
def Pt.flat :Pt→Nat→List Co
 |.mk n kids,b=>Pt.flats kids b++[n.put (Pt.ends kids b)]
def Pt.flats :List Pt→Nat→List Co
 |[],_=>[]
 |p::r,b=>p.flat b++Pt.flats r (b+p.count)
def Pt.ends :List Pt→Nat→List Int
 |[],_=>[]
 |p::r,b=>(((b+p.count:Nat):Int) - 1)::Pt.ends r (b+p.count)
end
mutual
theorem Pt.flat_length : ∀(p:Pt) (b:Nat),(p.flat b).length=p.count
 |.mk n kids,b=>by simp[Pt.flat,Pt.count,Pt.flats_length kids b]
theorem Pt.flats_length : ∀(l:List Pt) (b:Nat),(Pt.flats l b).length=Pt.counts l
 |[],_=>rfl
 |p::r,b=>by simp[Pt.flats,Pt.counts,Pt.flat_length p b,Pt.flats_length r (b+p.count)]
end
theorem Pt.ends_length : ∀(l:List Pt) (b:Nat),(Pt.ends l b).length=l.length
 |[],_=>rfl
 |p::r,b=>by simp[Pt.ends,Pt.ends_length r]
theorem Pt.counts_app : ∀(l m:List Pt),Pt.counts (l++m)=Pt.counts l+Pt.counts m
 |[],m=>by simp[Pt.counts]
 |p::r,m=>by simp only[List.cons_append,Pt.counts,Pt.counts_app r m];omega
theorem Pt.flats_app : ∀(l m:List Pt) (b:Nat),Pt.flats (l++m) b=Pt.flats l b++Pt.flats m (b+Pt.counts l)
 |[],m,b=>by simp[Pt.flats,Pt.counts]
 |p::r,m,b=>by simp only[List.cons_append,Pt.flats,Pt.flats_app r m,List.append_assoc,Pt.counts,Nat.add_assoc]
theorem Pt.ends_app : ∀(l m:List Pt) (b:Nat),Pt.ends (l++m) b=Pt.ends l b++Pt.ends m (b+Pt.counts l)
 |[],m,b=>by simp[Pt.ends,Pt.counts]
 |p::r,m,b=>by simp only[List.cons_append,Pt.ends,Pt.ends_app r m,Pt.counts,Nat.add_assoc]
theorem Pt.counts_le (l:List Pt)(i:Nat):Pt.counts (l.take i)≤Pt.counts l:=by
 have:=Pt.counts_app (l.take i) (l.drop i)
 rw[List.take_append_drop] at this
 omega
def among (l:List ByteArray)(s:ByteArray):Bool:=match l with|[]=>false|x::r=>decide (s=x)||among r s
theorem among_take (s:ByteArray): ∀(l:List ByteArray) (k:Nat) (x:ByteArray),l[k]? =some x→among (l.take (k+1)) s=(among (l.take k) s||decide (s=x))
 |[],k,x,h=>by simp at h
 |y::r,0,x,h=>by simp at h;subst h;simp[among]
 |y::r,k+1,x,h=>by simp at h;simp[among,among_take s r k x h,Bool.or_assoc]
theorem among_mem {l:List ByteArray}{s:ByteArray}{k:Nat}(h:l[k]? =some s):among l s=true:=by
 induction l generalizing k with
 |nil=>simp at h
 |cons y r ih=>
  cases k with
  |zero=>simp at h;subst h;simp[among]
  |succ k=>simp at h;simp[among,ih h]
def wordsL :List ByteArray:=[⟨#[105,102]⟩,⟨#[116,104,101,110]⟩,⟨#[101,108,105,102]⟩,⟨#[101,108,115,101]⟩,⟨#[101,110,100]⟩,⟨#[97,115]⟩,⟨#[97,110,100]⟩,⟨#[111,114]⟩,⟨#[114,101,100,117,99,101]⟩,⟨#[116,114,121]⟩,⟨#[110,117,108,108]⟩,⟨#[116,114,117,101]⟩,⟨#[102,97,108,115,101]⟩]
theorem isWord_fn (s:ByteArray):Fun env.P 161 [dS s] (.d (dB (among wordsL s))) []:=by
 refine Fun.intro Tryz.func161 rfl (by kernel_rfl) rfl ?_
 repeat'(first|refine Z1 ?_|((refine SP (fun h=>?_) fun h=>?_)<;>(try(exfalso;first|contradiction|omega))))
 all_goals (refine W.ret ?_;(first|refine RetQ.b' ?_))
 all_goals simp [among,wordsL, *]
theorem words_fn :Fun env.P 193 [] (.d (.sl 1 (wordsL.map fun x=>[dS x]))) []:=by
 refine Fun.intro Tryz.func193 rfl (by kernel_rfl) rfl ?_
 repeat'(first|refine Z1 ?_)
 refine W.pub 0 rfl ?_
 (refine W.ret ?_;(first|refine RetQ.d' ?_))
 rfl
theorem among_fn (l:List ByteArray)(s:ByteArray)(hl:l.length≤1000000):Fun env.P 113 [.sl 1 (l.map fun x=>[dS x]),dS s] (.d (dB (among l s))) []:=by
 refine Fun.intro Tryz.func113 rfl (by kernel_rfl) rfl ?_
 repeat'(first|refine Z1 ?_|((refine SP (fun h=>?_) fun h=>?_)<;>(try(exfalso;first|contradiction|omega))))
 refine W.loop (fun m S=> ∃k:Nat,m=l.length - k∧k≤l.length∧among (l.take k) s=false∧S=⟨ofL [(0,.d (.sl 1 (l.map fun x=>[dS x]))),(1,vS s),(5,vI .i64 k)],[]⟩) _ _ ⟨0,rfl,Nat.zero_le _,rfl,rfl⟩ lE ?_
 rintro m S ⟨k,rfl,hk,hok,rfl⟩
 repeat'(first|refine Z1 ?_|((refine SP (fun h=>?_) fun h=>?_)<;>(try(exfalso;first|contradiction|omega))))
 ·(refine W.ret ?_;(first|refine RetQ.b' ?_))
  simp only[Int.toNat_natCast] at*
  refine(among_mem (k:=k) ?_).symm
  subst_vars
  simp[List.getD_eq_getElem?_getD,show k<l.length by omega]
 ·refine⟨_,_,?_,⟨k+1,rfl,by omega,?_,rfl⟩,lE⟩
  ·omega
  ·rw[among_take s l k (l.getD k default) (by simp[show k<l.length by omega]),hok]
   simp only[Int.toNat_natCast] at*
   simp;rintro rfl;contradiction
 ·(refine W.ret ?_;(first|refine RetQ.b' ?_))
  have:k=l.length:=by omega
  subst this
  simpa using hok.symm
theorem isWordS_fn (s:ByteArray):Fun env.P 180 [dS s] (.d (dB (among wordsL s))) []:=by
 refine Fun.intro Tryz.func180 rfl (by kernel_rfl) rfl ?_
 repeat'(first|refine Z1 ?_|refine WG.c (E:=env) rfl rfl (words_fn) rfl rfl ?_|refine WG.c (E:=env) rfl rfl (among_fn wordsL s (by decide)) rfl rfl ?_)
 (refine W.ret ?_;(first|refine RetQ.b' ?_))
 rfl
theorem among_iff {l:List ByteArray}{s:ByteArray}:among l s=true↔s∈l:=by
 induction l with
 |nil=>simp[among]
 |cons x r ih=>simp[among,ih]
abbrev txtRow (x:ByteArray):List D:=[dS x]
abbrev namesD (l:List ByteArray):D:=.sl 1 (l.map txtRow)
theorem indexS_fn (sl:List ByteArray)(x:ByteArray)(hl:sl.length≤1048576): ∃r:Int,((0≤r)↔among sl x=true)∧Fun env.P 83 [namesD sl,dS x] (.d (dI r)) []:=by
 rw[among_iff]
 by_cases hm:x∈sl
 ·obtain⟨p,hp,hpx,hmin⟩: ∃p,p<sl.length∧sl.getD p default=x∧ ∀q,q<p→sl.getD q default≠x:=by
   have hex: ∃p,p<sl.length∧sl.getD p default=x:=by
    obtain⟨p,hp,rfl⟩:=List.getElem_of_mem hm
    exact⟨p,hp,by simp[hp]⟩
   obtain⟨p,⟨h1,h2⟩,h3⟩:=exists_least hex
   exact⟨p,h1,h2,fun q hq e=>by have:=h3 q ⟨by omega,e⟩;omega⟩
  refine⟨p,⟨fun _=>hm,fun _=>by omega⟩,?_⟩
  refine Fun.intro Tryz.func83 rfl (by kernel_rfl) rfl ?_
  repeat'(first|refine Z1 ?_|((refine SP (fun h=>?_) fun h=>?_)<;>(try(exfalso;first|contradiction|omega))))
  refine W.loop (fun m S=> ∃i:Nat,m=sl.length - i∧i≤p∧S=⟨ofL [(0,.d (namesD sl)),(1,vS x),(7,vI .i64 (sl.map txtRow).length),(8,vI .i64 i)],[]⟩) _ _ ⟨0,rfl,by omega,rfl⟩ lE ?_
  rintro m S ⟨i,rfl,hi,rfl⟩
  repeat'(first|refine Z1 ?_|((refine SP (fun h=>?_) fun h=>?_)<;>(try(exfalso;first|contradiction|omega))))
  all_goals (try simp only[Int.toNat_natCast] at *)
  ·have e:i=p:=by
    by_cases h:i<p
    ·exact absurd (by simp_all) (hmin i h)
    ·omega
   (refine W.ret ?_;(first|refine RetQ.i' ?_))
   rw[e]
  ·have e:i≠p:=fun e=>by subst e;simp_all
   exact⟨_,_,by omega,⟨i+1,rfl,by omega,rfl⟩,lE⟩
 ·refine⟨-1,⟨fun h=>by omega,fun h=>absurd h hm⟩,?_⟩
  refine Fun.intro Tryz.func83 rfl (by kernel_rfl) rfl ?_
  repeat'(first|refine Z1 ?_|((refine SP (fun h=>?_) fun h=>?_)<;>(try(exfalso;first|contradiction|omega))))
  refine W.loop (fun m S=> ∃i:Nat,m=sl.length - i∧i≤sl.length∧S=⟨ofL [(0,.d (namesD sl)),(1,vS x),(7,vI .i64 (sl.map txtRow).length),(8,vI .i64 i)],[]⟩) _ _ ⟨0,rfl,by omega,rfl⟩ lE ?_
  rintro m S ⟨i,rfl,hi,rfl⟩
  have hne:i<sl.length→sl.getD i default≠x:=fun h e=>hm (e▸getD_mem' h)
  repeat'(first|refine Z1 ?_|((refine SP (fun h=>?_) fun h=>?_)<;>(try(exfalso;first|contradiction|omega))))
  all_goals (try simp only[Int.toNat_natCast] at *)
  ·exfalso
   exact hne (by omega) (by simp_all)
  ·exact⟨_,_,by omega,⟨i+1,rfl,by omega,rfl⟩,lE⟩
  ·(refine W.ret ?_;(first|refine RetQ.i' ?_))
   rfl
theorem containsS_fn (sl:List ByteArray)(x:ByteArray)(hl:sl.length≤1048576):Fun env.P 27 [namesD sl,dS x] (.d (dB (among sl x))) []:=by
 obtain⟨r,hr,h⟩:=indexS_fn sl x hl
 refine Fun.intro Tryz.func27 rfl (by kernel_rfl) rfl ?_
 repeat'(first|refine Z1 ?_|refine WG.c (E:=env) rfl rfl (h) rfl rfl ?_)
 (refine W.ret ?_;(first|refine RetQ.b' ?_))
 cases hb:among sl x with
 |true=>have:=hr.2 hb;simp[this]
 |false=>
  have:¬0≤r:=fun h0=>by rw[hr.1 h0] at hb;cases hb
  simp;omega
theorem cloneNs_fn (sl:List ByteArray)(hl:sl.length≤1048576):Fun env.P 81 [namesD sl] (.og 0 0) [.gr 1 9 (sl.map txtRow) 0 false]:=by
 refine Fun.intro Tryz.func81 rfl (by kernel_rfl) rfl ?_
 repeat(first|refine Z1 ?_)
 refine WG.nilB (E:=env) rfl rfl rfl rfl ?_
 intro b hb
 cases b with
 |true=>
  have h0:=hb rfl
  rw[h0]
  repeat'(first|refine Z1 ?_)
  refine W.ret ?_
  exact RetR.gn'
 |false=>
  repeat'(first|refine Z1 ?_)
  refine W.ret ?_
  exact RetQ.own (tt:=.og 0 1) 0 1 (.inl rfl) rfl rO rfl rfl rfl rfl rfl
structure Nd where
 op:Int
 a:Int
 b:Int
 c:Int
 num:Int
 text:ByteArray
 deriving Inhabited,DecidableEq
def Nd.row (n:Nd):List D:=[dI n.op,dI n.a,dI n.b,dI n.c,dI n.num,dS n.text]
abbrev nodesD (ns:List Nd):D:=.sl 6 (ns.map Nd.row)
def zeroNode :List D:=[dI 0,dI 0,dI 0,dI 0,dI 0,dS ByteArray.empty]
abbrev dY (c:Int):D:=.v (.int .u8 c)
def digitB (c:Int):Bool:=decide (48≤c)&&decide (c≤57)
def letterB (c:Int):Bool:=(decide (97≤c)&&decide (c≤122))||decide (c=95)
def nameB (c:Int):Bool:=letterB c||digitB c
def runTo (p:Int→Bool)(s:ByteArray):Nat→Nat→Nat
 |0,k=>k
 |n+1,k=>if k<s.size∧p (byteAt s k)=true then runTo p s n (k+1) else k
def runOf (p:Int→Bool)(s:ByteArray)(k:Nat):Nat:=runTo p s (s.size - k) k
theorem runOf_step {p:Int→Bool}{s:ByteArray}{k:Nat}(h:k<s.size)(hp:p (byteAt s k)=true):runOf p s k=runOf p s (k+1):=by
 unfold runOf
 rw[show s.size - k=(s.size - (k+1))+1 by omega]
 simp[runTo,h,hp]
theorem runOf_stop {p:Int→Bool}{s:ByteArray}{k:Nat}(h:¬(k<s.size∧p (byteAt s k)=true)):runOf p s k=k:=by
 unfold runOf
 cases hn:s.size - k with
 |zero=>rfl
 |succ n=>simp only[runTo,if_neg h]
theorem isDigit_fn (c:Int):Fun env.P 195 [dY c] (.d (dB (digitB c))) []:=by
 refine Fun.intro Tryz.func195 rfl (by kernel_rfl) rfl ?_
 repeat'(first|refine Z1 ?_|((refine SP (fun h=>?_) fun h=>?_)<;>(try(exfalso;first|contradiction|omega))))
 all_goals (refine W.ret ?_;(first|refine RetQ.b' ?_))
 all_goals simp [digitB, *]
 try omega
theorem digitS_fn (c:Int):Fun env.P 201 [dY c] (.d (dB (digitB c))) []:=by
 refine Fun.intro Tryz.func201 rfl (by kernel_rfl) rfl ?_
 repeat'(first|refine Z1 ?_|((refine SP (fun h=>?_) fun h=>?_)<;>(try(exfalso;first|contradiction|omega))))
 all_goals (refine W.ret ?_;(first|refine RetQ.b' ?_))
 all_goals simp [digitB, *]
 try omega
theorem length_fn (s:ByteArray):Fun env.P 181 [dS s] (.d (dI s.size)) []:=by
 refine Fun.intro Tryz.func181 rfl (by kernel_rfl) rfl ?_
 repeat'(first|refine Z1 ?_)
 (refine W.ret ?_;(first|refine RetQ.i' ?_))
 rfl
theorem letterS_fn (c:Int):Fun env.P 191 [dY c] (.d (dB (letterB c))) []:=by
 refine Fun.intro Tryz.func191 rfl (by kernel_rfl) rfl ?_
 repeat'(first|refine Z1 ?_|((refine SP (fun h=>?_) fun h=>?_)<;>(try(exfalso;first|contradiction|omega))))
 all_goals (refine W.ret ?_;(first|refine RetQ.b' ?_))
 all_goals simp [letterB, *]
 all_goals try omega
theorem restS_fn (c:Int):Fun env.P 192 [dY c] (.d (dB (nameB c))) []:=by
 refine Fun.intro Tryz.func192 rfl (by kernel_rfl) rfl ?_
 repeat'(first|refine Z1 ?_|refine WG.c (E:=env) rfl rfl (letterS_fn _) rfl rfl ?_|refine WG.c (E:=env) rfl rfl (digitS_fn _) rfl rfl ?_|((refine SP (fun h=>?_) fun h=>?_)<;>(try(exfalso;first|contradiction|omega))))
 all_goals (refine W.ret ?_;(first|refine RetQ.b' ?_))
 all_goals simp [nameB, *]
theorem isNameByte_fn (c:Int):Fun env.P 194 [dY c] (.d (dB (nameB c))) []:=by
 refine Fun.intro Tryz.func194 rfl (by kernel_rfl) rfl ?_
 repeat'(first|refine Z1 ?_|refine WG.c (E:=env) rfl rfl (isDigit_fn _) rfl rfl ?_|((refine SP (fun h=>?_) fun h=>?_)<;>(try(exfalso;first|contradiction|omega))))
 all_goals (refine W.ret ?_;(first|refine RetQ.b' ?_))
 all_goals rw [Bool.eq_iff_iff]
 all_goals simp [nameB,letterB,digitB] at*
 all_goals omega
def nameLen (s:ByteArray)(k:Nat):Nat:=if k<s.size∧letterB (byteAt s k)=true then runOf nameB s (k+1) - k else 0
theorem nameRun_fn (s:ByteArray)(k:Nat)(hs:s.size≤1048576)(hk:k≤1048576):Fun env.P 182 [dS s,dI k] (.d (dI (nameLen s k))) []:=by
 refine Fun.intro Tryz.func182 rfl (by kernel_rfl) rfl ?_
 repeat'(first|refine Z1 ?_|((refine SP (fun h=>?_) fun h=>?_)<;>(try(exfalso;first|contradiction|omega))))
 refine W.loop (fun m S=> ∃j:Nat,m=s.size - (k+j)∧(0<j→k+j≤s.size∧k<s.size∧letterB (byteAt s k)=true∧runOf nameB s (k+1)=runOf nameB s (k+j))∧S=⟨ofL [(0,vS s),(1,vI .i64 k),(5,vI .i64 j)],[]⟩) _ _ ⟨0,rfl,by omega,rfl⟩ lE ?_
 rintro m S ⟨j,rfl,hj,rfl⟩
 repeat'(first|refine Z1 ?_|refine WG.c (E:=env) rfl rfl (isNameByte_fn _) rfl rfl ?_|refine WG.c (E:=env) rfl rfl (isDigit_fn _) rfl rfl ?_|((refine SP (fun h=>?_) fun h=>?_)<;>(try(exfalso;first|contradiction|omega))))
 ·(try simp only[Int.toNat_natCast,Int.toNat_zero,toNat_cc,toNat_c1,toNat_cm1,toNat_cm] at *)
  obtain⟨h1,h2,h3,h4⟩:=hj (by omega)
  exact⟨_,_,by omega,⟨j+1,rfl,fun _=>⟨by omega,h2,h3,by rw[h4];exact runOf_step (by omega) ‹_›⟩,rfl⟩,lE⟩
 ·obtain rfl:j=0:=by omega
  (try simp only[Int.toNat_natCast,Int.toNat_zero,toNat_cc,toNat_c1,toNat_cm1,toNat_cm] at *)
  exact⟨_,_,by omega,⟨1,rfl,fun _=>⟨by omega,by omega,by simp_all [nameB],rfl⟩,rfl⟩,lE⟩
 ·(refine W.ret ?_;(first|refine RetQ.i' ?_))
  obtain rfl:j=0:=by omega
  (try simp only[Int.toNat_natCast,Int.toNat_zero,toNat_cc,toNat_c1,toNat_cm1,toNat_cm] at *)
  rw[nameLen,if_neg]
  rintro⟨_,h⟩
  simp[letterB,digitB] at*
  omega
 ·(refine W.ret ?_;(first|refine RetQ.i' ?_))
  (try simp only[Int.toNat_natCast,Int.toNat_zero,toNat_cc,toNat_c1,toNat_cm1,toNat_cm] at *)
  rw[nameLen]
  by_cases hj0:j=0
  ·subst hj0
   rw[if_neg]
   rintro⟨_,h⟩
   simp_all [nameB]
  ·obtain⟨h1,h2,h3,h4⟩:=hj (by omega)
   rw[if_pos ⟨h2,h3⟩,h4,runOf_stop (by rintro⟨_,h⟩;simp_all)]
   congr 1;omega
 ·(refine W.ret ?_;(first|refine RetQ.i' ?_))
  (try simp only[Int.toNat_natCast,Int.toNat_zero,toNat_cc,toNat_c1,toNat_cm1,toNat_cm] at *)
  rw[nameLen]
  by_cases hj0:j=0
  ·subst hj0
   rw[if_neg]
   rintro⟨_,h⟩
   omega
  ·obtain⟨h1,h2,h3,h4⟩:=hj (by omega)
   rw[if_pos ⟨h2,h3⟩,h4,runOf_stop (by rintro⟨_,h⟩;omega)]
   congr 1;omega
def isNameM (s:ByteArray):Bool:=decide (1≤s.size∧s.size≤12∧nameLen s 0=s.size)
theorem IsName_fn (s:ByteArray)(hs:s.size≤1048576):Fun env.P 160 [dS s] (.d (dB (isNameM s))) []:=by
 have hn:=nameRun_fn s 0 hs (by omega)
 refine Fun.intro Tryz.func160 rfl (by kernel_rfl) rfl ?_
 repeat'(first|refine Z1 ?_|refine WG.c (E:=env) rfl rfl (length_fn _) rfl rfl ?_|refine WG.c (E:=env) rfl rfl (within_fn _ _ _) rfl rfl ?_|refine WG.c (E:=env) rfl rfl (hn) rfl rfl ?_|((refine SP (fun h=>?_) fun h=>?_)<;>(try(exfalso;first|contradiction|omega))))
 all_goals (refine W.ret ?_;(first|refine RetQ.b' ?_))
 ·rw[Bool.eq_iff_iff];simp[isNameM];omega
 ·simp[isNameM];omega
theorem IsNameS_fn (s:ByteArray)(hs:s.size≤1048576):Fun env.P 179 [dS s] (.d (dB (isNameM s))) []:=by
 refine Fun.intro Tryz.func179 rfl (by kernel_rfl) rfl ?_
 repeat'(first|refine Z1 ?_|refine WG.c (E:=env) rfl rfl (letterS_fn _) rfl rfl ?_|((refine SP (fun h=>?_) fun h=>?_)<;>(try(exfalso;first|contradiction|omega))))
 ·(refine W.ret ?_;(first|refine RetQ.b' ?_))
  simp[isNameM];omega
 ·(refine W.ret ?_;(first|refine RetQ.b' ?_))
  simp[isNameM];omega
 ·(refine W.ret ?_;(first|refine RetQ.b' ?_))
  (try simp only[Int.toNat_natCast,Int.toNat_zero,toNat_cc,toNat_c1,toNat_cm1,toNat_cm] at *)
  simp[isNameM,nameLen];simp_all;omega
 refine W.loop (fun m S=> ∃j:Nat,m=s.size - j∧(1≤j∧j≤s.size∧letterB (byteAt s 0)=true∧runOf nameB s 1=runOf nameB s j)∧S=⟨ofL [(0,vS s),(3,vI .i64 j)],[]⟩) _ _ ⟨1,rfl,⟨by omega,by omega,by assumption,rfl⟩,rfl⟩ lE ?_
 rintro m S ⟨j,rfl,hj,rfl⟩
 repeat'(first|refine Z1 ?_|refine WG.c (E:=env) rfl rfl (restS_fn _) rfl rfl ?_|((refine SP (fun h=>?_) fun h=>?_)<;>(try(exfalso;first|contradiction|omega))))
 ·(refine W.ret ?_;(first|refine RetQ.b' ?_))
  (try simp only[Int.toNat_natCast,Int.toNat_zero,toNat_cc,toNat_c1,toNat_cm1,toNat_cm] at *)
  obtain⟨h1,h2,h3,h4⟩:=hj
  have e:nameLen s 0=j:=by
   unfold nameLen
   rw[if_pos ⟨by omega,h3⟩,h4,runOf_stop (by rintro⟨_,h⟩;simp_all)]
   rfl
  simp[isNameM,e];omega
 ·(try simp only[Int.toNat_natCast,Int.toNat_zero,toNat_cc,toNat_c1,toNat_cm1,toNat_cm] at *)
  obtain⟨h1,h2,h3,h4⟩:=hj
  exact⟨_,_,by omega,⟨j+1,rfl,⟨by omega,by omega,h3,by rw[h4];exact runOf_step (by omega) ‹_›⟩,rfl⟩,lE⟩
 ·(refine W.ret ?_;(first|refine RetQ.b' ?_))
  (try simp only[Int.toNat_natCast,Int.toNat_zero,toNat_cc,toNat_c1,toNat_cm1,toNat_cm] at *)
  obtain⟨h1,h2,h3,h4⟩:=hj
  have e:nameLen s 0=j:=by
   unfold nameLen
   rw[if_pos ⟨by omega,h3⟩,h4,runOf_stop (by rintro⟨_,h⟩;omega)]
   rfl
  simp[isNameM,e];omega
def arN (op:Int):Nat:=
 if op=5∨op=6∨op=7∨op=8∨op=9∨op=10∨op=11∨op=17∨op=20 then 2
 else if op=12∨op=13∨op=14∨op=23 then 1
 else if op=18∨op=19 then 3 else 0
theorem arN_le (op:Int):arN op≤3:=by unfold arN;(repeat' split)<;>omega
def hasTx (op:Int):Bool:=decide (op=3∨op=17∨op=19∨op=20∨op=21∨op=22∨op=23)
def hasNm (op:Int):Bool:=decide (op=2∨op=4∨op=10)
theorem arity_fn (op:Int):Fun env.P 131 [dI op] (.d (dI (arN op))) []:=by
 refine Fun.intro Tryz.func131 rfl (by kernel_rfl) rfl ?_
 repeat'(first|refine Z1 ?_|((refine SP (fun h=>?_) fun h=>?_)<;>(try(exfalso;first|contradiction|omega))))
 all_goals (refine W.ret ?_;(first|refine RetQ.i' ?_))
 all_goals simp [arN, *]
theorem l5Kids_fn (op:Int):Fun env.P 60 [dI op] (.d (dI (arN op))) []:=by
 refine Fun.intro Tryz.func60 rfl (by kernel_rfl) rfl ?_
 repeat'(first|refine Z1 ?_|((refine SP (fun h=>?_) fun h=>?_)<;>(try(exfalso;first|contradiction|omega))))
 all_goals (refine W.ret ?_;(first|refine RetQ.i' ?_))
 all_goals simp [arN, *]
theorem hasText_fn (op:Int):Fun env.P 159 [dI op] (.d (dB (hasTx op))) []:=by
 refine Fun.intro Tryz.func159 rfl (by kernel_rfl) rfl ?_
 repeat'(first|refine Z1 ?_|((refine SP (fun h=>?_) fun h=>?_)<;>(try(exfalso;first|contradiction|omega))))
 all_goals (refine W.ret ?_;(first|refine RetQ.b' ?_))
 all_goals simp [hasTx, *]
theorem l5Texts_fn (op:Int):Fun env.P 156 [dI op] (.d (dB (hasTx op))) []:=by
 refine Fun.intro Tryz.func156 rfl (by kernel_rfl) rfl ?_
 repeat'(first|refine Z1 ?_|((refine SP (fun h=>?_) fun h=>?_)<;>(try(exfalso;first|contradiction|omega))))
 all_goals (refine W.ret ?_;(first|refine RetQ.b' ?_))
 all_goals simp [hasTx, *]
def numHi (op:Int):Int:=if op=2 then 1000000000000000 else if op=4 then 2 else if op=10 then 11 else 0
def numLo (op:Int):Int:=if op=10 then 1 else 0
theorem l5Nums_fn (op:Int):Fun env.P 155 [dI op] (.tup [.d (dI (numLo op)),.d (dI (numHi op))]) []:=by
 refine Fun.intro Tryz.func155 rfl (by kernel_rfl) rfl ?_
 repeat'(first|refine Z1 ?_|((refine SP (fun h=>?_) fun h=>?_)<;>(try(exfalso;first|contradiction|omega))))
 all_goals (refine W.ret ?_;(first|refine RetQ.t2' ?_ ?_))
 all_goals (simp[numLo,numHi, *];rfl)
def txOk (n:Nd):Bool:=
 if n.op=3∨n.op=17 then okText n.text
 else if n.op=19∨n.op=20∨n.op=21 then isNameM n.text
 else if n.op=22∨n.op=23 then isNameM n.text&& !among wordsL n.text else true
def txFit (n:Nd):Bool:=if hasTx n.op then txOk n else decide (n.text=noS)
def numOk (n:Nd):Bool:=if hasNm n.op then decide (numLo n.op≤n.num)&&decide (n.num≤numHi n.op) else true
theorem isNodeText_fn (n:Nd)(ht:n.text.size≤1048576):Fun env.P 129 [.agg n.row] (.d (dB (txOk n))) []:=by
 have h1:=isString_fn n.text ht
 have h2:=IsName_fn n.text ht
 have h3:=isWord_fn n.text
 refine Fun.intro Tryz.func129 rfl (by kernel_rfl) rfl ?_
 repeat'(first|refine Z1 ?_|refine WG.c (E:=env) rfl rfl (h1) rfl rfl ?_|refine WG.c (E:=env) rfl rfl (h2) rfl rfl ?_|refine WG.c (E:=env) rfl rfl (h3) rfl rfl ?_|((refine SP (fun h=>?_) fun h=>?_)<;>(try(exfalso;first|contradiction|omega))))
 all_goals (refine W.ret ?_;(first|refine RetQ.b' ?_))
 all_goals simp [txOk, *]
theorem l5TextFits_fn (n:Nd)(ht:n.text.size≤1048576):Fun env.P 157 [.agg n.row] (.d (dB (txFit n))) []:=by
 have h1:=l1Text_fn n.text ht
 have h2:=IsNameS_fn n.text ht
 have h3:=isWordS_fn n.text
 refine Fun.intro Tryz.func157 rfl (by kernel_rfl) rfl ?_
 repeat'(first|refine Z1 ?_|refine WG.c (E:=env) rfl rfl (h1) rfl rfl ?_|refine WG.c (E:=env) rfl rfl (h2) rfl rfl ?_|refine WG.c (E:=env) rfl rfl (h3) rfl rfl ?_|((refine SP (fun h=>?_) fun h=>?_)<;>(try(exfalso;first|contradiction|omega))))
 all_goals (refine W.ret ?_;(first|refine RetQ.b' ?_))
 all_goals simp [txFit,hasTx,txOk, *]
theorem isNodeNum_fn (n:Nd):Fun env.P 130 [.agg n.row] (.d (dB (numOk n))) []:=by
 refine Fun.intro Tryz.func130 rfl (by kernel_rfl) rfl ?_
 repeat'(first|refine Z1 ?_|refine WG.c (E:=env) rfl rfl (within_fn _ _ _) rfl rfl ?_|((refine SP (fun h=>?_) fun h=>?_)<;>(try(exfalso;first|contradiction|omega))))
 all_goals (refine W.ret ?_;(first|refine RetQ.b' ?_))
 all_goals simp [numOk,hasNm,numLo,numHi, *]
def Nd.named (n:Nd):List Int:=[n.a,n.b,n.c].take (arN n.op)
def kidI (n:Nd)(i:Nat):Int:=if i=0 then n.a else if i=1 then n.b else n.c
def kidB (n:Nd)(k:Nat)(i:Nat):Bool:=if i<arN n.op then decide (0≤kidI n i)&&decide (kidI n i≤(k:Int) - 1) else decide (kidI n i=0)
def formB3 (n:Nd)(k:Nat):Bool:=kidB n k 0&&kidB n k 1&&kidB n k 2&&(hasNm n.op||decide (n.num=0))&&(hasTx n.op||decide (n.text=noS))
theorem l5Kid_fn (n:Nd)(i:Nat)(h:i<3):Fun env.P 112 [.agg n.row,dI i] (.d (dI (kidI n i))) []:=by
 refine Fun.intro Tryz.func112 rfl (by kernel_rfl) rfl ?_
 repeat'(first|refine Z1 ?_|((refine SP (fun h=>?_) fun h=>?_)<;>(try(exfalso;first|contradiction|omega))))
 all_goals (refine W.ret ?_;(first|refine RetQ.i' ?_))
 all_goals (simp[kidI];first|done|omega|(intro h;omega)|skip)
theorem named_fn (n:Nd):Fun env.P 80 [.agg n.row] (.d (.sl 1 (n.named.map intRow))) []:=by
 have ha:=arity_fn n.op
 have hle:=arN_le n.op
 refine Fun.intro Tryz.func80 rfl (by kernel_rfl) rfl ?_
 repeat'(first|refine Z1 ?_|refine WD.c (E:=env) rfl rfl (ha) rfl rfl ?_)
 (refine W.ret ?_;(first|refine RetQ.d' ?_))
 simp[Nd.named,List.map_take]
 rfl
def nodeC (ns:List Nd)(n:Nd)(k:Nat):Int:=
 if ¬(1≤n.op∧n.op≤24) then 6
 else if formB3 n k=false then 1
 else if txOk n=false then 5
 else if numOk n=false then 3
 else if n.op=17∧(ns.getD n.a.toNat default).op≠16∧(ns.getD n.a.toNat default).op≠17 then 1 else 0
def nodeCode (ns:List Nd)(k:Nat):Int:=nodeC ns (ns.getD k default) k
def Nd.abc (n:Nd):List Int:=[n.a,n.b,n.c]
theorem Nd.abc_length (n:Nd):n.abc.length=3:=rfl
theorem Nd.abc_at (n:Nd)(i:Nat)(h:i<3):n.abc.getD i default=kidI n i:=by
 have:i=0∨i=1∨i=2:=by omega
 rcases this with rfl|rfl|rfl<;>rfl
theorem formB3_of {n:Nd}{k i:Nat}(hi:i<3)(h:kidB n k i=false):formB3 n k=false:=by
 have:i=0∨i=1∨i=2:=by omega
 unfold formB3
 rcases this with rfl|rfl|rfl<;>simp[h]
theorem formsOk_fn (n:Nd)(k:Nat)(hk:k≤1048576):Fun env.P 128 [.agg n.row,dI k] (.d (dB (formB3 n k))) []:=by
 have ha:=arity_fn n.op
 have hle:=arN_le n.op
 have ht:=hasText_fn n.op
 refine Fun.intro Tryz.func128 rfl (by kernel_rfl) rfl ?_
 repeat'(first|refine Z1 ?_|((refine SP (fun h=>?_) fun h=>?_)<;>(try(exfalso;first|contradiction|omega))))
 refine W.pubD 1 rfl ?_
 refine W.loop (fun m S=> ∃i:Nat,m=3 - i∧(i≤3∧ ∀j,j<i→kidB n k j=true)∧S=⟨ofL [(1,vI .i64 k),(2,.lp 0 0),(14,.d (.sl 1 (n.abc.map intRow))),(15,vI .i64 3),(16,vI .i64 i)],[.pv (n.row.map .d)]⟩) _ _ ⟨0,rfl,⟨by omega,fun j hj=>by omega⟩,rfl⟩ lE ?_
 rintro m S ⟨i,rfl,⟨hi,hb⟩,rfl⟩
 have hkid:=n.abc_at i
 have h3:=n.abc_length
 repeat'(first|refine Z1 ?_|refine WG.c (E:=env) rfl rfl (ha) rfl rfl ?_|refine WG.c (E:=env) rfl rfl (within_fn _ _ _) rfl rfl ?_|refine WG.c (E:=env) rfl rfl (ht) rfl rfl ?_|((refine SP (fun h=>?_) fun h=>?_)<;>(try(exfalso;first|contradiction|omega))))
 all_goals (try simp only[Int.toNat_natCast] at *)
 ·have e:=hkid (by omega)
  rw[e] at*
  have hf:kidB n k i=false:=by
   rw[kidB,if_pos (by omega)];simp;omega
  (refine W.ret ?_;(first|refine RetQ.b' ?_))
  rw[formB3_of (by omega) hf]
 ·have e:=hkid (by omega)
  rw[e] at*
  have hf:kidB n k i=true:=by
   rw[kidB,if_pos (by omega)];simp;omega
  exact⟨_,_,by omega,⟨i+1,rfl,⟨by omega,fun j hj=>by
   by_cases e:j=i
   ·rw[e];exact hf
   ·exact hb j (by omega)⟩,rfl⟩,lE⟩
 ·have e:=hkid (by omega)
  rw[e] at*
  have hf:kidB n k i=false:=by
   rw[kidB,if_neg (by omega)];simp;omega
  (refine W.ret ?_;(first|refine RetQ.b' ?_))
  rw[formB3_of (by omega) hf]
 ·have e:=hkid (by omega)
  rw[e] at*
  have hf:kidB n k i=true:=by
   rw[kidB,if_neg (by omega)];simp;omega
  exact⟨_,_,by omega,⟨i+1,rfl,⟨by omega,fun j hj=>by
   by_cases e:j=i
   ·rw[e];exact hf
   ·exact hb j (by omega)⟩,rfl⟩,lE⟩
 all_goals
  have hb0:=hb 0 (by omega)
  have hb1:=hb 1 (by omega)
  have hb2:=hb 2 (by omega)
  clear ha ht hb hkid
  (refine W.ret ?_;(first|refine RetQ.b' ?_))
  simp_all [formB3,hasNm]
theorem formB3_named {n:Nd}{k:Nat}(h:formB3 n k=true): ∀m∈n.named,0≤m∧m<k:=by
 intro m hm
 unfold formB3 at h
 simp only[Bool.and_eq_true] at h
 obtain⟨⟨⟨⟨h0,h1⟩,h2⟩,_⟩,_⟩:=h
 have hle:=arN_le n.op
 have key: ∀i,i<arN n.op→kidB n k i=true→0≤kidI n i∧kidI n i<k:=fun i hi hb=>by
  rw[kidB,if_pos hi] at hb
  simp only[Bool.and_eq_true,decide_eq_true_eq] at hb
  omega
 obtain⟨i,hi,rfl⟩:=List.getElem_of_mem hm
 have hi2:i<arN n.op:=by simp[Nd.named] at hi;omega
 have e:n.named[i]=kidI n i:=by
  have:i=0∨i=1∨i=2:=by omega
  simp only[Nd.named,List.getElem_take]
  rcases this with rfl|rfl|rfl<;>rfl
 rw[e]
 have:i=0∨i=1∨i=2:=by omega
 rcases this with rfl|rfl|rfl
 ·exact key 0 hi2 h0
 ·exact key 1 hi2 h1
 ·exact key 2 hi2 h2
theorem nodeFault_fn (ns:List Nd)(k:Nat)(hk:k<ns.length)(hl:ns.length≤1048576)(ht: ∀n∈ns,n.text.size≤1048576):Fun env.P 77 [nodesD ns,dI k] (.d (dI (nodeCode ns k))) []:=by
 have htk:=ht _ (getD_mem' hk)
 unfold nodeCode
 refine Fun.intro Tryz.func77 rfl (by kernel_rfl) rfl ?_
 repeat(first|refine Z1 ?_)
 have hat:ns.getD (Int.toNat k) default=ns.getD k default:=by simp
 rw[hat]
 generalize hn:ns.getD k default=n at htk
 have h1:=formsOk_fn n k (by omega)
 have h2:=isNodeText_fn n htk
 have h3:=isNodeNum_fn n
 have ha:formB3 n k=true→n.op=17→0≤n.a∧n.a<ns.length:=fun hf h17=>by
  have:=formB3_named hf n.a (by simp[Nd.named,arN,h17])
  omega
 have hin:=within_fn n.op 1 24
 clear hn hat
 by_cases hf:formB3 n k=true
 ·rw[hf] at h1
  by_cases h17:n.op=17
  ·obtain⟨ha1,ha2⟩:=ha hf h17
   repeat'(first|refine Z1 ?_|refine WG.c (E:=env) rfl rfl (hin) rfl rfl ?_|refine WG.c (E:=env) rfl rfl (h1) rfl rfl ?_|refine WG.c (E:=env) rfl rfl (h2) rfl rfl ?_|refine WG.c (E:=env) rfl rfl (h3) rfl rfl ?_|((refine SP (fun h=>?_) fun h=>?_)<;>(try(exfalso;first|contradiction|omega))))
   all_goals (refine W.ret ?_;(first|refine RetQ.i' ?_))
   all_goals (clear h1 h2 h3 hin ha ht;unfold nodeC;simp_all;try(intros;first|omega|(exfalso;omega)))
  ·repeat'(first|refine Z1 ?_|refine WG.c (E:=env) rfl rfl (hin) rfl rfl ?_|refine WG.c (E:=env) rfl rfl (h1) rfl rfl ?_|refine WG.c (E:=env) rfl rfl (h2) rfl rfl ?_|refine WG.c (E:=env) rfl rfl (h3) rfl rfl ?_|((refine SP (fun h=>?_) fun h=>?_)<;>(try(exfalso;first|contradiction|omega))))
   all_goals (refine W.ret ?_;(first|refine RetQ.i' ?_))
   all_goals (clear h1 h2 h3 hin ha ht;unfold nodeC;simp_all;try(intros;first|omega|(exfalso;omega)))
 ·rw[Bool.not_eq_true] at hf
  rw[hf] at h1
  repeat'(first|refine Z1 ?_|refine WG.c (E:=env) rfl rfl (hin) rfl rfl ?_|refine WG.c (E:=env) rfl rfl (h1) rfl rfl ?_|refine WG.c (E:=env) rfl rfl (h2) rfl rfl ?_|refine WG.c (E:=env) rfl rfl (h3) rfl rfl ?_|((refine SP (fun h=>?_) fun h=>?_)<;>(try(exfalso;first|contradiction|omega))))
  all_goals (refine W.ret ?_;(first|refine RetQ.i' ?_))
  all_goals (clear h1 h2 h3 hin ha ht;unfold nodeC;simp_all;try(intros;first|omega|(exfalso;omega)))
def nodeS (ns:List Nd)(n:Nd)(k:Nat):Int:=
 if ¬(1≤n.op∧n.op≤24) then 6
 else if(numHi n.op=0∧n.num≠0)∨(hasTx n.op=false∧n.text≠noS) then 1
 else if kidB n k 0=false∨kidB n k 1=false∨kidB n k 2=false then 1
 else if txFit n=false then 5
 else if ¬(numLo n.op≤n.num∧n.num≤numHi n.op) then 3
 else if n.op=17∧(ns.getD n.a.toNat default).op≠16∧(ns.getD n.a.toNat default).op≠17 then 1 else 0
theorem numHi_zero (op:Int):numHi op=0↔hasNm op=false:=by
 unfold numHi hasNm
 constructor
 ·intro h
  repeat' split at h
  all_goals first|omega|(simp;omega)
 ·intro h
  simp at h
  rw[if_neg h.1,if_neg h.2.1,if_neg h.2.2]
theorem nodeS_eq (ns:List Nd)(n:Nd)(k:Nat):nodeS ns n k=nodeC ns n k:=by
 unfold nodeS nodeC
 by_cases h0:1≤n.op∧n.op≤24
 ·have h0':¬ ¬(1≤n.op∧n.op≤24):=fun h=>h h0
  rw[if_neg h0',if_neg h0']
  by_cases hf:formB3 n k=true
  ·have hf':=hf
   unfold formB3 at hf
   simp only[Bool.and_eq_true,Bool.or_eq_true,decide_eq_true_eq] at hf
   obtain⟨⟨⟨⟨f0,f1⟩,f2⟩,f3⟩,f4⟩:=hf
   have g1:¬((numHi n.op=0∧n.num≠0)∨(hasTx n.op=false∧n.text≠noS)):=by
    rintro(⟨a,b⟩|⟨a,b⟩)
    ·rw[numHi_zero] at a
     rcases f3 with f3|f3
     ·rw[a] at f3;cases f3
     ·exact b f3
    ·rcases f4 with f4|f4
     ·rw[a] at f4;cases f4
     ·exact b f4
   have g2:txFit n=txOk n:=by
    unfold txFit
    by_cases ht:hasTx n.op=true
    ·rw[if_pos ht]
    ·rw[if_neg ht]
     rcases f4 with f4|f4
     ·exact absurd f4 ht
     ·have:txOk n=true:=by
       unfold hasTx at ht
       simp at ht
       unfold txOk
       rw[if_neg (by omega),if_neg (by omega),if_neg (by omega)]
      rw[this,f4];simp
   have g3:(¬(numLo n.op≤n.num∧n.num≤numHi n.op))↔numOk n=false:=by
    unfold numOk
    by_cases hn:hasNm n.op=true
    ·rw[if_pos hn]<;>simp<;>omega
    ·rw[if_neg hn]
     have hn':hasNm n.op=false:=by simpa using hn
     rcases f3 with f3|f3
     ·exact absurd f3 hn
     ·have h1:=(numHi_zero n.op).2 hn'
      have h2:numLo n.op=0:=by
       unfold hasNm at hn'
       simp at hn'
       unfold numLo
       rw[if_neg (by omega)]
      rw[h1,h2,f3];simp
   rw[if_neg g1,if_neg (by simp[f0,f1,f2]),g2,if_neg (by simp[hf']:¬formB3 n k=false)]
   by_cases ht:txOk n=false
   ·rw[if_pos ht,if_pos ht]
   ·rw[if_neg ht,if_neg ht]
    by_cases hn:numOk n=false
    ·rw[if_pos (g3.2 hn),if_pos hn]
    ·rw[if_neg (fun h=>hn (g3.1 h)),if_neg hn]
  ·rw[if_pos (show formB3 n k=false by simpa using hf)]
   by_cases g1:(numHi n.op=0∧n.num≠0)∨(hasTx n.op=false∧n.text≠noS)
   ·rw[if_pos g1]
   ·rw[if_neg g1]
    by_cases g2:kidB n k 0=false∨kidB n k 1=false∨kidB n k 2=false
    ·rw[if_pos g2]
    ·exfalso
     apply hf
     simp only[not_or,Bool.not_eq_false,not_and,ne_eq,Decidable.not_not] at g1 g2
     unfold formB3
     rw[g2.1,g2.2.1,g2.2.2]
     simp only[Bool.and_true,Bool.true_and,Bool.and_eq_true,Bool.or_eq_true,decide_eq_true_eq]
     refine⟨?_,?_⟩
     ·by_cases h:hasNm n.op=true
      ·exact .inl h
      ·exact .inr (g1.1 ((numHi_zero _).2 (by simpa using h)))
     ·by_cases h:hasTx n.op=true
      ·exact .inl h
      ·exact .inr (g1.2 (by simpa using h))
 ·rw[if_pos h0,if_pos h0]
theorem l5Node_fn (ns:List Nd)(k:Nat)(hk:k<ns.length)(hl:ns.length≤1048576)(ht: ∀n∈ns,n.text.size≤1048576):Fun env.P 109 [nodesD ns,dI k] (.d (dI (nodeCode ns k))) []:=by
 have htk:=ht _ (getD_mem' hk)
 unfold nodeCode
 refine Fun.intro Tryz.func109 rfl (by kernel_rfl) rfl ?_
 repeat(first|refine Z1 ?_)
 have hat:ns.getD (Int.toNat k) default=ns.getD k default:=by simp
 rw[hat]
 generalize hn:ns.getD k default=n at htk
 have hin:=l1In_fn n.op 1 24
 have hnm:=l5Nums_fn n.op
 have htx:=l5Texts_fn n.op
 have hks:=l5Kids_fn n.op
 have hfit:=l5TextFits_fn n htk
 have hle:=arN_le n.op
 have ha:formB3 n k=true→n.op=17→0≤n.a∧n.a<ns.length:=fun hf h17=>by
  have:=formB3_named hf n.a (by simp[Nd.named,arN,h17])
  omega
 clear hn hat
 rw[←nodeS_eq]
 repeat(first|refine Z1 ?_|refine WG.c (E:=env) rfl rfl (hin) rfl rfl ?_)
 refine W.cond rfl (fun e1=>?_) (fun e1=>?_)
 ·repeat'(first|refine Z1 ?_|((refine SP (fun h=>?_) fun h=>?_)<;>(try(exfalso;first|contradiction|omega))))
  (refine W.ret ?_;(first|refine RetQ.i' ?_))
  simp at e1
  unfold nodeS;rw[if_pos (by omega)]
 have h0:¬ ¬(1≤n.op∧n.op≤24):=by simp at e1;omega
 refine W.skip ?_
 repeat refine W.seq ?_
 refine W.rg ?_
 repeat(first|refine WG.nil ?_|refine WG.run' (E:=env) ?_|refine WG.gt' ?_|refine WG.gf' ?_|refine WG.ixm' (E:=env) ?_|refine WG.c (E:=env) rfl rfl (hnm) rfl rfl ?_)
 repeat refine W.seq ?_
 refine W.jb 41 (decide ((numHi n.op=0∧n.num≠0)∨(hasTx n.op=false∧n.text≠noS))) ?_ ?_
 ·repeat'(first|refine WG.nil ?_|refine WG.run' (E:=env) ?_|refine WG.gt' ?_|refine WG.gf' ?_|refine WG.ixm' (E:=env) ?_|refine WG.c (E:=env) rfl rfl (htx) rfl rfl ?_|(refine WG.sp' (fun h=>?_) fun h=>?_<;>(try simp only[atS,List.length_map,beq_self_eq_true] at h)<;>(try(exfalso;first|contradiction|omega))))
  all_goals refine ⟨rfl,rfl,_,rfl,?_,by(repeat refine leU.step rfl ?_)<;>first|exact leU.forget (leU.refl _)|exact leU.refl _|(repeat(first|exact leU.forget (leU.refl _)|exact leU.refl _|refine leU.step rfl ?_))⟩
  all_goals simp_all
 refine W.cond rfl (fun e2=>?_) (fun e2=>?_)
 ·repeat'(first|refine Z1 ?_|((refine SP (fun h=>?_) fun h=>?_)<;>(try(exfalso;first|contradiction|omega))))
  (refine W.ret ?_;(first|refine RetQ.i' ?_))
  simp only[decide_eq_true_eq] at e2
  unfold nodeS;rw[if_neg h0,if_pos e2]
 rw[decide_eq_false_iff_not] at e2
 refine W.skip ?_
 repeat(first|refine Z1 ?_)
 refine W.loop (fun m S=> ∃i:Nat,m=3 - i∧(i≤3∧ ∀j,j<i→kidB n k j=true)∧S=⟨ofL [(0,.d (nodesD ns)),(1,vI .i64 k),(5,.lp 0 0),(6,vI .i64 (numLo n.op)),(7,vI .i64 (numHi n.op)),(8,vI .i64 i)],[.pv (n.row.map .d)]⟩) _ _ ⟨0,rfl,⟨by omega,fun j hj=>by omega⟩,rfl⟩ lE ?_
 rintro m S ⟨i,rfl,⟨hi,hb⟩,rfl⟩
 by_cases hi3:i<3
 ·have hkd:=l5Kid_fn n i hi3
  repeat(first|refine Z1 ?_)
  refine W.cond rfl (fun e3=>?_) (fun e3=>?_)
  rotate_left
  ·exfalso;simp at e3;omega
  refine W.skip ?_
  repeat refine W.seq ?_
  refine W.block ?_
  repeat refine W.seq ?_
  refine W.rg ?_
  repeat(first|refine WG.nil ?_|refine WG.run' (E:=env) ?_|refine WG.gt' ?_|refine WG.gf' ?_|refine WG.ixm' (E:=env) ?_|refine WG.c (E:=env) rfl rfl (hkd) rfl rfl ?_)
  repeat refine W.seq ?_
  refine W.jb 71 (!kidB n k i) ?_ ?_
  ·repeat'(first|refine WG.nil ?_|refine WG.run' (E:=env) ?_|refine WG.gt' ?_|refine WG.gf' ?_|refine WG.ixm' (E:=env) ?_|refine WG.c (E:=env) rfl rfl (hks) rfl rfl ?_|refine WG.c (E:=env) rfl rfl (l1In_fn _ _ _) rfl rfl ?_|(refine WG.sp' (fun h=>?_) fun h=>?_<;>(try simp only[atS,List.length_map,beq_self_eq_true] at h)<;>(try(exfalso;first|contradiction|omega))))
   all_goals refine ⟨rfl,rfl,_,rfl,?_,by(repeat refine leU.step rfl ?_)<;>first|exact leU.forget (leU.refl _)|exact leU.refl _|(repeat(first|exact leU.forget (leU.refl _)|exact leU.refl _|refine leU.step rfl ?_))⟩
   all_goals first|(rw[kidB,if_pos (by omega)];done)|(rw[kidB,if_pos (by omega)];simp;done)|(rw[kidB,if_pos (by omega)];simp;omega)|(rw[kidB,if_neg (by omega)];simp;done)|(rw[kidB,if_neg (by omega)];simp;omega)
  refine W.cond rfl (fun e4=>?_) (fun e4=>?_)
  ·repeat'(first|refine Z1 ?_|((refine SP (fun h=>?_) fun h=>?_)<;>(try(exfalso;first|contradiction|omega))))
   (refine W.ret ?_;(first|refine RetQ.i' ?_))
   unfold nodeS
   rw[if_neg h0,if_neg e2,if_pos (by
    have:i=0∨i=1∨i=2:=by omega
    rcases this with rfl|rfl|rfl<;>simp_all)]
  ·repeat'(first|refine Z1 ?_|((refine SP (fun h=>?_) fun h=>?_)<;>(try(exfalso;first|contradiction|omega))))
   exact⟨_,_,by omega,⟨i+1,rfl,⟨by omega,fun j hj=>by
    by_cases e:j=i
    ·rw[e];simpa using e4
    ·exact hb j (by omega)⟩,rfl⟩,lE⟩
 ·have hb0:=hb 0 (by omega)
  have hb1:=hb 1 (by omega)
  have hb2:=hb 2 (by omega)
  have g2:¬(kidB n k 0=false∨kidB n k 1=false∨kidB n k 2=false):=by simp[hb0,hb1,hb2]
  have e:nodeS ns n k=if txFit n=false then 5 else if ¬(numLo n.op≤n.num∧n.num≤numHi n.op) then 3 else if n.op=17∧(ns.getD n.a.toNat default).op≠16∧(ns.getD n.a.toNat default).op≠17 then 1 else 0:=by
   unfold nodeS
   rw[if_neg h0,if_neg e2,if_neg g2]
  have ha':n.op=17→0≤n.a∧n.a<ns.length:=fun h17=>by
   have:0<arN n.op:=by rw[h17];decide
   rw[kidB,if_pos this] at hb0
   simp[kidI] at hb0
   omega
  rw[e]
  clear e
  have hi2:=l1In_fn n.num (numLo n.op) (numHi n.op)
  by_cases h17:n.op=17
  ·obtain⟨ha1,ha2⟩:=ha' h17
   repeat'(first|refine Z1 ?_|refine WG.c (E:=env) rfl rfl (hfit) rfl rfl ?_|refine WG.c (E:=env) rfl rfl (hi2) rfl rfl ?_|((refine SP (fun h=>?_) fun h=>?_)<;>(try(exfalso;first|contradiction|omega))))
   all_goals first|(exfalso;omega)|skip
   all_goals (refine W.ret ?_;(first|refine RetQ.i' ?_))
   all_goals (clear hfit hi2 hks htx hnm hin ht ha ha' hb;simp_all;try(intros;first|omega|(exfalso;omega)))
  ·repeat'(first|refine Z1 ?_|refine WG.c (E:=env) rfl rfl (hfit) rfl rfl ?_|refine WG.c (E:=env) rfl rfl (hi2) rfl rfl ?_|((refine SP (fun h=>?_) fun h=>?_)<;>(try(exfalso;first|contradiction|omega))))
   all_goals first|(exfalso;omega)|skip
   all_goals (refine W.ret ?_;(first|refine RetQ.i' ?_))
   all_goals (clear hfit hi2 hks htx hnm hin ht ha ha' hb;simp_all;try(intros;first|omega|(exfalso;omega)))
section
def nmT (ns:List Nd)(k:Nat):List Int:=(ns.getD k default).named
def NmOK (ns:List Nd):Prop:= ∀k,k<ns.length→ ∀m∈nmT ns k,0≤m∧m<k
theorem nodeCode_named {ns:List Nd}{k:Nat}(h:nodeCode ns k=0): ∀m∈nmT ns k,0≤m∧m<k:=by
 unfold nodeCode nodeC at h
 split at h
 ·cases h
 ·split at h
  ·cases h
  ·rename_i hf
   exact formB3_named (by simpa using hf)
theorem namedK_fn (ns:List Nd)(k:Nat)(h: ∀m∈nmT ns k,0≤m∧m<k):Fun env.P 80 [.agg (ns.getD k default).row] (.d (.sl 1 ((intsN (kidsOf (nmT ns) k)).map intRow))) []:=
 (named_fn (ns.getD k default)).cast rfl (by rw[←kidsOf_eq h];rfl) rfl
theorem nest_fn (ns:List Nd)(hl:ns.length≤1048576)(hok:NmOK ns): ∀k,k<ns.length→Fun env.P 79 [nodesD ns,dI k] (.d (dI (nestM (nmT ns) k))) []:=fun k=>by
 induction k using Nat.strongRecOn with
 |_ k ih=>
  intro hk
  have hnm:=namedK_fn ns k (hok k hk)
  have hlt: ∀j∈kidsOf (nmT ns) k,j<k:=fun j hj=>kidsOf_lt hj
  have hkl:(kidsOf (nmT ns) k).length≤3:=by
   rw[kidsOf_length (hok k hk)]
   simp[nmT,Nd.named];omega
  rw[nestM_eq]
  generalize kidsOf (nmT ns) k=ks at hnm hlt hkl
  have hil:=intsN_length ks
  refine Fun.intro Tryz.func79 rfl (by kernel_rfl) rfl ?_
  repeat(first|refine Z1 ?_)
  have hat:ns.getD (Int.toNat k) default=ns.getD k default:=by simp
  rw[hat]
  generalize hn:ns.getD k default=n at hnm
  clear hat
  repeat'(first|refine Z1 ?_|refine WG.c (E:=env) rfl rfl (hnm) rfl rfl ?_|((refine SP (fun h=>?_) fun h=>?_)<;>(try(exfalso;first|contradiction|omega))))
  refine W.loop (fun m S=> ∃(i:Nat) (x:Int),m=ks.length - i∧(i≤ks.length∧x=(maxL (nestM (nmT ns)) (ks.take i):Nat))∧S=⟨ofL [(0,.d (nodesD ns)),(5,vI .i64 x),(12,.d (.sl 1 ((intsN ks).map intRow))),(13,vI .i64 ((intsN ks).map intRow).length),(14,vI .i64 i)],[]⟩) _ _ ⟨0,0,rfl,⟨by omega,by simp[maxL]⟩,rfl⟩ lE ?_
  rintro m S ⟨i,x,rfl,⟨hi,hx⟩,rfl⟩
  have hmx:maxL (nestM (nmT ns)) (ks.take i)≤1048576:=maxL_le (by omega) fun j hj=>by
   have:=hlt j (List.mem_of_mem_take hj)
   have:=nestM_le (nmT ns) j
   omega
  by_cases hik:i<ks.length
  ·have hkm:=hlt _ (getD_mem' hik)
   have ih':=ih _ hkm (by omega)
   have hnl:=nestM_le (nmT ns) (ks.getD i default)
   have hia:=intsN_at ks i hik
   have hia2:(intsN ks).getD (Int.toNat i) default=((ks.getD i default:Nat):Int):=by simpa using hia
   rw[←hia2] at ih'
   repeat'(first|refine Z1 ?_|refine WG.c (E:=env) rfl rfl (ih') rfl rfl ?_|((refine SP (fun h=>?_) fun h=>?_)<;>(try(exfalso;first|contradiction|omega))))
   exact⟨_,_,by omega,⟨i+1,max x ((nestM (nmT ns) (ks.getD i default):Nat):Int),rfl,⟨by omega,by rw[hx,take_step hik,maxL_snoc];omega⟩,rfl⟩,lE⟩
  ·repeat'(first|refine Z1 ?_|((refine SP (fun h=>?_) fun h=>?_)<;>(try(exfalso;first|contradiction|omega))))
   (refine W.ret ?_;(first|refine RetQ.i' ?_))
   rw[hx,show i=ks.length by omega,List.take_length]
   simp
theorem node_cells {ns:List Nd}{k:Nat}(hk:k<ns.length){σ0:Sto}{tv:Value}(hrd:RD σ0 (nodesD ns) tv): ∃b off cap,tv=.slice (some ⟨b,off,none⟩) ns.length cap∧
 σ0 b (off+k*6)=some (.int .i64 (ns.getD k default).op)∧σ0 b (off+k*6+1)=some (.int .i64 (ns.getD k default).a)∧σ0 b (off+k*6+2)=some (.int .i64 (ns.getD k default).b)∧
 σ0 b (off+k*6+3)=some (.int .i64 (ns.getD k default).c)∧σ0 b (off+k*6+4)=some (.int .i64 (ns.getD k default).num)∧σ0 b (off+k*6+5)=some (.string (ns.getD k default).text):=by
 obtain⟨b,off,cap,U,h1,hc,hr⟩:=rd_rows hrd (by simp;omega)
 have hrow:(ns.map Nd.row)[k]? =some (ns.getD k default).row:=map_rowN Nd.row ns k hk
 have hk':k<(ns.map Nd.row).length:=by simpa using hk
 have v:=fun j x hj=>RD.val_v (hr k j _ (.v x) hrow hj)
 have c:=fun j (hj:j<6)=>hc k j hk' hj
 rw[List.length_map] at h1
 refine⟨b,off,cap,h1,?_,?_,?_,?_,?_,?_⟩
 ·rw[←v 0 _ rfl];exact c 0 (by omega)
 ·rw[←v 1 _ rfl];exact c 1 (by omega)
 ·rw[←v 2 _ rfl];exact c 2 (by omega)
 ·rw[←v 3 _ rfl];exact c 3 (by omega)
 ·rw[←v 4 _ rfl];exact c 4 (by omega)
 ·rw[←v 5 _ rfl];exact c 5 (by omega)
theorem named_calls (ns:List Nd)(k:Nat)(h: ∀m∈nmT ns k,0≤m∧m<k)(w:World):
 Calls Tryz.prog 80 #[.agg #[.int .i64 (ns.getD k default).op,.int .i64 (ns.getD k default).a,.int .i64 (ns.getD k default).b,.int .i64 (ns.getD k default).c,.int .i64 (ns.getD k default).num,.string (ns.getD k default).text]] w
  fun e w'=> ∃sv,e=.returned sv∧Below w.heap.size w w'∧IntsAt w.heap.size w'.heap.size w' sv (intsN (kidsOf (nmT ns) k)):=by
 refine((namedK_fn ns k h).raw0 w [.agg #[.int .i64 (ns.getD k default).op,.int .i64 (ns.getD k default).a,.int .i64 (ns.getD k default).b,.int .i64 (ns.getD k default).c,.int .i64 (ns.getD k default).num,.string (ns.getD k default).text]] rfl fun i x u hx hu=>?_).mono fun e w' ⟨v,g,h1,h2,h3,h3b,h4⟩=>?_
 ·cases i with
  |succ i=>simp at hx
  |zero=>
   simp at hx hu
   subst hx;subst hu
   refine .agg _ [.int .i64 (ns.getD k default).op,.int .i64 (ns.getD k default).a,.int .i64 (ns.getD k default).b,.int .i64 (ns.getD k default).c,.int .i64 (ns.getD k default).num,.string (ns.getD k default).text] rfl fun j y v hy hv=>?_
   match j,hy,hv with
   |0,hy,hv=>cases hy;cases hv;exact .v _
   |1,hy,hv=>cases hy;cases hv;exact .v _
   |2,hy,hv=>cases hy;cases hv;exact .v _
   |3,hy,hv=>cases hy;cases hv;exact .v _
   |4,hy,hv=>cases hy;cases hv;exact .v _
   |5,hy,hv=>cases hy;cases hv;exact .v _
   |j+6,hy,hv=>simp[Nd.row] at hy
 ·refine⟨v,h1,h2,IntsAt.ofRD h3 h3b ?_⟩
  exact h4.inv_d
open Go.Shelf
attribute [local go_sem] Oper.semAt_some
theorem beginOf_calls (ns:List Nd)(hl:ns.length≤1048576)(hok:NmOK ns): ∀k,k<ns.length→ ∀(w:World) (σ0:Sto) (tv:Value),(∀b o u,σ0 b o=some u→w.cell? ⟨b,o,none⟩=some u)→RD σ0 (nodesD ns) tv→
 Calls Tryz.prog 78 #[tv,.int .i64 k] w fun e w'=>e=.returned (.int .i64 (begM (nmT ns) k))∧Below w.heap.size w w':=fun k=>by
 induction k using Nat.strongRecOn with
 |_ k ih=>
  intro hk w σ0 tv hσ hrd
  have hcells:=node_cells hk hrd
  obtain⟨b,off,cap,rfl,c0,c1,c2,c3,c4,c5⟩:=hcells
  have hbl:b<w.heap.size:=World.block_lt_of_cell? w ⟨b,off+k*6,none⟩ (hσ _ _ _ c0)
  have hnm:=named_calls ns k (hok k hk)
  generalize hn:ns.getD k default=n at c0 c1 c2 c3 c4 c5 hnm
  refine(callsIn_wide (n:=3)).1 ?_
  refine callsIn_of_wp_marks Tryz.func78 rfl trivial ?_ rfl
  simp only[Tryz.ntmps78,List.size_toArray,List.length_cons,List.length_nil,Nat.reduceAdd,Nat.reduceSub,Array.replicate_succ,Array.replicate_zero,List.push_toArray,List.append_toArray,List.nil_append,List.cons_append]
  have hB3:Below w.heap.size w (((w.alloc (.cells #[.slice (some ⟨b,off,none⟩) ns.length cap] 24)).alloc (.cells #[.int .i64 0] 2)).alloc (.cells #[.int .i64 k] 2)):=
   (((Below.refl _ w).alloc (Nat.le_refl _) _).alloc (by simp) _).alloc (by simp;omega) _
  have d0:=(hB3.cell (p:=⟨b,off+k*6,none⟩) hbl).trans (hσ _ _ _ c0)
  have d1:=(hB3.cell (p:=⟨b,off+k*6+1,none⟩) hbl).trans (hσ _ _ _ c1)
  have d2:=(hB3.cell (p:=⟨b,off+k*6+2,none⟩) hbl).trans (hσ _ _ _ c2)
  have d3:=(hB3.cell (p:=⟨b,off+k*6+3,none⟩) hbl).trans (hσ _ _ _ c3)
  have d4:=(hB3.cell (p:=⟨b,off+k*6+4,none⟩) hbl).trans (hσ _ _ _ c4)
  have d5:=(hB3.cell (p:=⟨b,off+k*6+5,none⟩) hbl).trans (hσ _ _ _ c5)
  gi_wp2_with (first
   |(refine⟨trivial,?_⟩;gi_at_call 80;refine(callsIn_wide.2 (hnm _)).mono ?_;rintro e w' ⟨sv,rfl,hB4,hI⟩;obtain⟨sa,scap,rfl⟩:=hI.slice)
   |(refine⟨trivial,?_⟩;gi_at_call 72;refine(back_in Fence.wide _ trivial rfl _ _ _ _).mono ?_;rintro e w'' ⟨rfl,rfl⟩))
  have hsz3:(((w.alloc (.cells #[.slice (some ⟨b,off,none⟩) ns.length cap] 24)).alloc (.cells #[.int .i64 0] 2)).alloc (.cells #[.int .i64 k] 2)).heap.size=w.heap.size+3:=by simp
  have e0:=box_new w (.slice (some ⟨b,off,none⟩) ns.length cap) 24
  have e1:=box_new (w.alloc (.cells #[.slice (some ⟨b,off,none⟩) ns.length cap] 24)) (.int .i64 0) 2
  have e2:=box_new ((w.alloc (.cells #[.slice (some ⟨b,off,none⟩) ns.length cap] 24)).alloc (.cells #[.int .i64 0] 2)) (.int .i64 k) 2
  simp only[World.size_alloc] at e1 e2
  have f0:=cell_grown (.cells #[.int .i64 k] 2) (cell_grown (.cells #[.int .i64 0] 2) e0.1)
  have f1:=cell_grown (.cells #[.int .i64 k] 2) e1.1
  have g1:=frozen_grown (.cells #[.int .i64 k] 2) e1.1 e1.2
  obtain⟨f2,g2⟩:=e2
  clear e0 e1 d0 d1 d2 d3 d4 d5 hnm
  generalize hW3:(((w.alloc (.cells #[.slice (some ⟨b,off,none⟩) ns.length cap] 24)).alloc (.cells #[.int .i64 0] 2)).alloc (.cells #[.int .i64 k] 2))=W3 at*
  clear hW3
  have hlt: ∀j∈kidsOf (nmT ns) k,j<k:=fun j hj=>kidsOf_lt hj
  have hkl:(kidsOf (nmT ns) k).length≤3:=by
   rw[kidsOf_length (hok k hk)]
   simp[nmT,Nd.named];omega
  have hst:=Seen.start (nmT ns) k
  generalize kidsOf (nmT ns) k=ks at*
  have hil:=intsN_length ks
  have hBw:Below w.heap.size w w':=hB3.trans (hB4.mono (by omega))
  have f0':=cell_below hB4 f0
  have f1':=cell_below hB4 f1
  have f2':=cell_below hB4 f2
  have g1':=frozen_below hB4 f1 g1
  have g2':=frozen_below hB4 f2 g2
  have hsz4:=hB4.size
  have hbx:=box_new w' (.slice sa (intsN ks).length scap) 78
  rw[hsz3] at hI
  have hI2:IntsAt (w.heap.size+3) (w'.heap.size+1) (w'.alloc (.cells #[.slice sa (intsN ks).length scap] 78)) (.slice sa (intsN ks).length scap) (intsN ks):=(hI.kept (KpB.below ((Below.refl _ w').alloc (Nat.le_refl _) _) (Nat.le_refl _))).up (Nat.le_succ _)
  refine wpIn_rangeFunc_ownF rfl (by omega) (gf:=126) (lb:= #[.pointer (some ⟨w'.heap.size,0,none⟩)]) rfl trivial (enters_of Tryz.func126 (by kernel_rfl) rfl)
   (back_stops Fence.wide 2 trivial rfl (by omega) w'.heap.size (w.heap.size+3) (w'.heap.size+1) (.slice sa (intsN ks).length scap) (intsN ks) (by omega) _ (by omega) (by simp) hbx.1 hI2) KpB.trans (KpB.put (by simp)) (Below.refl _ _) (fun _=>rfl)
   (fun pre W=>(W.cell? ⟨w.heap.size,0,none⟩=some (.slice (some ⟨b,off,none⟩) ns.length cap)∧W.cell? ⟨w.heap.size+1,0,none⟩=some (.int .i64 0)∧W.frozen? ⟨w.heap.size+1,0,none⟩=false∧
     (∃bb:Int,W.cell? ⟨w.heap.size+1+1,0,none⟩=some (.int .i64 bb)∧(0≤bb∧bb≤1048576)∧ ∀m,pre=List.range m→m≤ks.length→ ∃b':Nat,bb=b'∧Seen (nmT ns) k (ks.take (ks.length - m)) b')∧W.frozen? ⟨w.heap.size+1+1,0,none⟩=false∧w'.heap.size+1≤W.heap.size)∧Below w.heap.size w W)
   (fun c pre W=>(c=.ret∧W.cell? ⟨w.heap.size+1,0,none⟩=some (.int .i64 (-1))∧ ∀m,pre=List.range m→m≤ks.length→begM (nmT ns) k= -1)∧Below w.heap.size w W)
   (OwnFrom.and (Own.from (fun s A B row hs hg hr=>⟨cell_kept hs.1 hg hr,cell_kept hs.2.1 hg hr,(frozen_kept hs.2.1 hg hr).trans hs.2.2.1,let ⟨bb,h1,h2⟩:=hs.2.2.2.1;⟨bb,cell_kept h1 hg hr,h2⟩,let ⟨bb,h1,h2⟩:=hs.2.2.2.1;(frozen_kept h1 hg hr).trans hs.2.2.2.2.1,Nat.le_trans hs.2.2.2.2.2 hg.size⟩) _) (ownFrom_below (Nat.le_refl _) (by simp;omega)))
   (fun c=>OwnFrom.and (Own.from (fun s A B row hs hg hr=>⟨hs.1,cell_kept hs.2.1 hg hr,hs.2.2⟩) _) (ownFrom_below (Nat.le_refl _) (by simp;omega)))
   ⟨⟨cell_grown _ f0',cell_grown _ f1',frozen_grown _ f1' g1',⟨k,cell_grown _ f2',by omega,fun m hm hml=>?start⟩,frozen_grown _ f2' g2',by simp⟩,hBw.alloc (by omega) _⟩
   (fun x=>{ tmps:= #[.slice (some ⟨b,off,none⟩) ns.length cap,.int .i64 k,.pointer (some ⟨w.heap.size,0,none⟩),undef,.pointer (some ⟨w.heap.size+1,0,none⟩),.pointer (some ⟨w.heap.size+1+1,0,none⟩),undef,.int .i64 ((intsN ks)[(intsN ks).length - 1 - x]?.getD 0),.int .i64 k,.slice (some ⟨b,off,none⟩) ns.length cap,.int .i64 k,.pointer (some ⟨b,off+k*6,none⟩),.agg #[.int .i64 n.op,.int .i64 n.a,.int .i64 n.b,.int .i64 n.c,.int .i64 n.num,.string n.text],.slice sa (intsN ks).length scap,.func (.func 126) #[] #[.pointer (some ⟨w'.heap.size,0,none⟩)],.int .i64 (((intsN ks).length - 1 - x:Nat):Int),.int .i64 ((intsN ks)[(intsN ks).length - 1 - x]?.getD 0),undef,undef,undef,undef,undef,undef,undef,undef,undef,undef],defers:=[] }) ?assign ?body ?done ?stop
  case start=>
   have:m=0:=by
    have:=congrArg List.length hm
    simpa using this.symm
   subst this
   exact⟨k,rfl,by rw[Nat.sub_zero,List.take_length];exact hst⟩
  case assign=>
   intro l x W K hK
   clear hil
   gi_wp2
   exact hK
  case body=>
   rintro l pre x W ⟨⟨hc0,hc1,hf1,⟨bb,hc2,hbb,hsn⟩,hf2,hzz⟩,hB⟩ hlen
   rw[hil] at hlen
   have hj:ks.length - 1 - x<ks.length:=by omega
   have hown:(intsN ks)[(intsN ks).length - 1 - x]?.getD 0=((ks.getD (ks.length - 1 - x) default:Nat):Int):=by rw[hil];simp[intsN,hj]
   rw[hown]
   have hmem:=getD_mem' hj
   generalize hon:ks.getD (ks.length - 1 - x) default=own at*
   have hltk:=hlt own hmem
   have hbo:=nestM_le (nmT ns) own
   have hcall:=ih own hltk (by omega) W σ0 _ (fun b o u hu=>(hB.cell (World.block_lt_of_cell? w ⟨b,o,none⟩ (hσ b o u hu))).trans (hσ b o u hu)) hrd
   clear hil
   gi_wp2_with (refine⟨trivial,?_⟩;gi_at_call 78;refine(CallsIn.inRound l (callsIn_wide.2 hcall)).mono ?_;rintro e W2 ⟨rfl,hB2⟩;have k0:=cell_below hB2 hc2;have k1:=frozen_below hB2 hc2 hf2;have k2:=cell_below hB2 hc1;have k3:=frozen_below hB2 hc1 hf1)
   ·rename_i hx
    have hx':¬(own:Int)=bb - 1:=by simpa using hx
    refine⟨KeepsOthers.setCell _ _ _,⟨rfl,World.cell?_setCell_same' _ _ _ (by rw[hc1];rfl),fun m hm hml=>?_⟩,hB.setCell (p:=⟨w.heap.size+1,0,none⟩) (by simp) _⟩
    obtain⟨_,rfl,hp,rfl⟩:=snoc_range hm
    obtain⟨b',rfl,hs⟩:=hsn x hp (by omega)
    rw[show ks.length - x=(ks.length - 1 - x)+1 by omega,take_step (by omega),hon] at hs
    exact hs.bad (by omega)
   ·rename_i hx hneg
    have hx':(own:Int)=bb - 1:=by simpa using hx
    have hlt2:=World.block_lt_of_cell? W ⟨w.heap.size+1+1,0,none⟩ hc2
    refine⟨((KeepsOthers.of_below hB2).trans (KeepsOthers.setCell _ _ _)).trans (KeepsOthers.setCell _ _ _),⟨rfl,World.cell?_setCell_same' _ _ _ (by rw[cell_other k2 (by dsimp only;omega)];rfl),fun m hm hml=>?_⟩,
     (((hB.trans (hB2.mono hB.size)).setCell (p:=⟨w.heap.size+1+1,0,none⟩) (by simp;omega) _).setCell (p:=⟨w.heap.size+1,0,none⟩) (by simp) _)⟩
    obtain⟨_,rfl,hp,rfl⟩:=snoc_range hm
    obtain⟨b',rfl,hs⟩:=hsn x hp (by omega)
    rw[show ks.length - x=(ks.length - 1 - x)+1 by omega,take_step (by omega),hon] at hs
    exact hs.below hneg
   ·rename_i hx hpos
    have hx':(own:Int)=bb - 1:=by simpa using hx
    have hbl2:=begM_le (nmT ns) own
    have hsW:=hB.size
    have k4:=cell_below hB2 hc0
    refine⟨(KeepsOthers.of_below hB2).trans (KeepsOthers.setCell _ _ _),?_,⟨cell_other k4 (by dsimp only;omega),cell_other k2 (by dsimp only;omega),frozen_other k3 (by dsimp only;omega),⟨begM (nmT ns) own,World.cell?_setCell_same' _ _ _ (by rw[k0];rfl),by omega,fun m hm hml=>?_⟩,by rw[World.frozen?_setCell];exact k1,by have h1:=hB2.size;have h2:=(KeepsOthers.setCell W2 ⟨w.heap.size+1+1,0,none⟩ (.int .i64 (begM (nmT ns) own))).size;omega⟩,
     (hB.trans (hB2.mono hB.size)).setCell (p:=⟨w.heap.size+1+1,0,none⟩) (by simp;omega) _⟩
    ·exact KpB.trans (KpB.below hB2 hzz) (KpB.set _ _ _ (by dsimp only;omega))
    ·obtain⟨_,rfl,hp,rfl⟩:=snoc_range hm
     obtain⟨b',rfl,hs⟩:=hsn x hp (by omega)
     rw[show ks.length - x=(ks.length - 1 - x)+1 by omega,take_step (by omega),hon] at hs
     obtain⟨c,h1,h2⟩:=hs.next (by omega) hpos
     exact⟨c,h1,by rw[show ks.length - (x+1)=ks.length - 1 - x by omega];exact h2⟩
  case done=>
   rintro D ys W hD rfl ⟨⟨hc0,hc1,hf1,⟨bb,hc2,hbb,hsn⟩,hf2,_⟩,hB⟩ hK
   obtain⟨b',rfl,hs⟩:=hsn ks.length (by rw[hil]) (Nat.le_refl _)
   rw[Nat.sub_self,List.take_zero] at hs
   have he:=hs.done
   gi_wp2
   have hK':=(KeepsOthers.setCell W ⟨w.heap.size+1,0,none⟩ (.int .i64 b')).same D _ hK rfl
   refine⟨by simp,.inl ⟨_,_,rfl,run_takeDeferred hK',?_⟩⟩
   have hc5:=cell_kept (World.cell?_setCell_same' W ⟨w.heap.size+1,0,none⟩ (.int .i64 b') (by rw[hc1];rfl)) (grownBy_putObj' _ D (.deferred none)) (fun r e=>by cases e;exact⟨_,hK',rfl⟩)
   refine⟨.int .i64 b',?_,by rw[he],(hB.setCell (p:=⟨w.heap.size+1,0,none⟩) (by simp) _).trans (belowK_b (w:=w) (Nat.le_refl _) _ D _ _ (by simp at hD;omega) hK' rfl rfl)⟩
   simp[results,Tryz.f78,go_sem,hc5]
  case stop=>
   rintro D c pre W hD ⟨m,hm,rfl⟩ ⟨⟨rfl,hcr,hbad⟩,hB⟩ hK
   have he:=hbad m rfl (by rw[←hil];exact hm)
   gi_wp2
   refine⟨by simp,.inl ⟨_,_,rfl,run_takeDeferred hK,?_⟩⟩
   have hc5:=cell_kept hcr (grownBy_putObj' _ D (.deferred none)) (fun r e=>by cases e;exact⟨_,hK,rfl⟩)
   refine⟨.int .i64 (-1),?_,by rw[he],hB.trans (belowK_b (w:=w) (Nat.le_refl _) W D _ _ (by simp at hD;omega) hK rfl rfl)⟩
   simp[results,Tryz.f78,go_sem,hc5]
theorem beginOf_fn (ns:List Nd)(hl:ns.length≤1048576)(hok:NmOK ns)(k:Nat)(hk:k<ns.length):Fun env.P 78 [nodesD ns,dI k] (.d (dI (begM (nmT ns) k))) []:=by
 refine Fun.ofRaw (entersF Tryz.func78 (c:=_) rfl (by kernel_rfl)) fun w σ0 vals hσ hl' hr=>?_
 match vals,hl' with
 |[u,v],_=>
  have h1:=hr 0 _ u rfl rfl
  have h2:=hr 1 _ v rfl rfl
  cases h2
  exact(beginOf_calls ns hl hok k hk w σ0 u hσ h1).mono fun e w' ⟨h,hB⟩=>⟨_,h,hB,fun g=>.d _ _ (.v _)⟩
end
end Go.Proofs.YtmmjbpgdkokjgaaGreatDoor
