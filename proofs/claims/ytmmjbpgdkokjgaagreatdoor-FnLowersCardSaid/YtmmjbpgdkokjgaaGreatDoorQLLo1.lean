/-
  A text of this claim. Conditions: none.
-/
import Derived.Test.YtmmjbpgdkokjgaaGreatDoorQLLw5
import Derived.Test.YtmmjbpgdkokjgaaGreatDoorQLCp2
import Derived.Test.YtmmjbpgdkokjgaaGreatDoorQLLw2
set_option linter.unusedVariables false
set_option linter.unusedSimpArgs false
set_option maxRecDepth 100000
set_option maxHeartbeats 16000000
namespace Go.Proofs.YtmmjbpgdkokjgaaGreatDoor
open Go.RowKit
section
variable {ns:List Nd}{n:Nd}{k:Nat}{names:List ByteArray}{L:List Co}{A B C:List ByteArray→Pt}{ca cb cc:Nat}
theorem putM1S (m:Co)(A:Pt)(hl:(A.on L).length≤100000):FunQ env.P 65 [.lp 0 0,.d (.agg [dI m.op,dI (plc (A.on L)),dI m.b,dI m.c,dI m.num,cellsD m.val])] (loS ns (A.on L) 0) (just (.d (dI (plc ((Pt.mk m [A]).on L)))) (loS ns ((Pt.mk m [A]).on L) 1)):=by
 have:=l6Put_fn ns (A.on L) ⟨m.op,plc (A.on L),m.b,m.c,m.num,m.val⟩ hl
 rw[Pt.on_1 m] at this
 exact this
theorem putM2S (m:Co)(A B:Pt)(hl:(B.on (A.on L)).length≤100000):FunQ env.P 65 [.lp 0 0,.d (.agg [dI m.op,dI (plc (A.on L)),dI (plc (B.on (A.on L))),dI m.c,dI m.num,cellsD m.val])] (loS ns (B.on (A.on L)) 0) (just (.d (dI (plc ((Pt.mk m [A,B]).on L)))) (loS ns ((Pt.mk m [A,B]).on L) 1)):=by
 have:=l6Put_fn ns (B.on (A.on L)) ⟨m.op,plc (A.on L),plc (B.on (A.on L)),m.c,m.num,m.val⟩ hl
 rw[Pt.on_2 m] at this
 exact this
theorem putM3S (m:Co)(A B C:Pt)(hl:(C.on (B.on (A.on L))).length≤100000):FunQ env.P 65 [.lp 0 0,.d (.agg [dI m.op,dI (plc (A.on L)),dI (plc (B.on (A.on L))),dI (plc (C.on (B.on (A.on L)))),dI m.num,cellsD m.val])] (loS ns (C.on (B.on (A.on L))) 0) (just (.d (dI (plc ((Pt.mk m [A,B,C]).on L)))) (loS ns ((Pt.mk m [A,B,C]).on L) 1)):=by
 have:=l6Put_fn ns (C.on (B.on (A.on L))) ⟨m.op,plc (A.on L),plc (B.on (A.on L)),plc (C.on (B.on (A.on L))),m.num,m.val⟩ hl
 rw[Pt.on_3 m] at this
 exact this
theorem l6Same_5 :Fun env.P 66 [dI 5] (.d (dI 3)) []:=by
 refine Fun.intro Tryz.func66 rfl (by kernel_rfl) rfl ?_
 repeat'(first|refine Z1 ?_)
 (refine W.ret ?_;(first|refine RetQ.i' ?_))
 rfl
theorem l6Same_6 :Fun env.P 66 [dI 6] (.d (dI 4)) []:=by
 refine Fun.intro Tryz.func66 rfl (by kernel_rfl) rfl ?_
 repeat'(first|refine Z1 ?_)
 (refine W.ret ?_;(first|refine RetQ.i' ?_))
 rfl
theorem l6Same_7 :Fun env.P 66 [dI 7] (.d (dI 5)) []:=by
 refine Fun.intro Tryz.func66 rfl (by kernel_rfl) rfl ?_
 repeat'(first|refine Z1 ?_)
 (refine W.ret ?_;(first|refine RetQ.i' ?_))
 rfl
theorem l6Same_10 :Fun env.P 66 [dI 10] (.d (dI 6)) []:=by
 refine Fun.intro Tryz.func66 rfl (by kernel_rfl) rfl ?_
 repeat'(first|refine Z1 ?_)
 (refine W.ret ?_;(first|refine RetQ.i' ?_))
 rfl
theorem l6Same_11 :Fun env.P 66 [dI 11] (.d (dI 7)) []:=by
 refine Fun.intro Tryz.func66 rfl (by kernel_rfl) rfl ?_
 repeat'(first|refine Z1 ?_)
 (refine W.ret ?_;(first|refine RetQ.i' ?_))
 rfl
theorem l6Same_12 :Fun env.P 66 [dI 12] (.d (dI 8)) []:=by
 refine Fun.intro Tryz.func66 rfl (by kernel_rfl) rfl ?_
 repeat'(first|refine Z1 ?_)
 (refine W.ret ?_;(first|refine RetQ.i' ?_))
 rfl
theorem l6Same_13 :Fun env.P 66 [dI 13] (.d (dI 9)) []:=by
 refine Fun.intro Tryz.func66 rfl (by kernel_rfl) rfl ?_
 repeat'(first|refine Z1 ?_)
 (refine W.ret ?_;(first|refine RetQ.i' ?_))
 rfl
theorem l6Same_14 :Fun env.P 66 [dI 14] (.d (dI 10)) []:=by
 refine Fun.intro Tryz.func66 rfl (by kernel_rfl) rfl ?_
 repeat'(first|refine Z1 ?_)
 (refine W.ret ?_;(first|refine RetQ.i' ?_))
 rfl
theorem l6Same_17 :Fun env.P 66 [dI 17] (.d (dI 11)) []:=by
 refine Fun.intro Tryz.func66 rfl (by kernel_rfl) rfl ?_
 repeat'(first|refine Z1 ?_)
 (refine W.ret ?_;(first|refine RetQ.i' ?_))
 rfl
theorem l6Same_18 :Fun env.P 66 [dI 18] (.d (dI 12)) []:=by
 refine Fun.intro Tryz.func66 rfl (by kernel_rfl) rfl ?_
 repeat'(first|refine Z1 ?_)
 (refine W.ret ?_;(first|refine RetQ.i' ?_))
 rfl
theorem l6Same_19 :Fun env.P 66 [dI 19] (.d (dI 13)) []:=by
 refine Fun.intro Tryz.func66 rfl (by kernel_rfl) rfl ?_
 repeat'(first|refine Z1 ?_)
 (refine W.ret ?_;(first|refine RetQ.i' ?_))
 rfl
theorem l6Same_20 :Fun env.P 66 [dI 20] (.d (dI 14)) []:=by
 refine Fun.intro Tryz.func66 rfl (by kernel_rfl) rfl ?_
 repeat'(first|refine Z1 ?_)
 (refine W.ret ?_;(first|refine RetQ.i' ?_))
 rfl
theorem l6One_8 (hk:k<ns.length)(hat:ns.getD k default=n)(hop:n.op=8)(hA:GoL ns n.a A ca)(hB:GoL ns n.b B cb)(hn:names.length+(1+ca+cb)≤10000)(hl:L.length+5*(1+ca+cb)≤5000):FunQ env.P 19 [.lp 0 0,.d (dI k),.d (namesD names)] (loS ns L 0) (just (.d (dI (plc ((Pt.n3 12 0 (A names) (truP true) (.n3 12 0 (B names) (truP true) (truP false))).on L)))) (loS ns ((Pt.n3 12 0 (A names) (truP true) (.n3 12 0 (B names) (truP true) (truP false))).on L) (Pt.n3 12 0 (A names) (truP true) (.n3 12 0 (B names) (truP true) (truP false))).count)):=by
 obtain⟨op,a,b,c,num,text⟩:=n
 obtain rfl:op=8:=hop
 have hat':ns.getD (Int.toNat (k:Int)) default=⟨8,a,b,c,num,text⟩:=by simpa using hat
 have hks:Fun env.P 60 [dI 8] (.d (dI 2)) []:=l5Kids_fn 8
 have cA:=hA.1 names
 have cB:=hB.1 names
 refine FunQ.intro Tryz.func19 rfl (by kernel_rfl) rfl ?_
 unfold Go.Proofs.YtmmjbpgdkokjgaaGreatDoor.loS
 repeat(first|refine Z1 ?_)
 rw[hat']
 repeat'(first|refine Z3 ?_|refine WG.loS rfl rfl (hA.2 names _ (by omega) (by(try simp only[Pt.on_length,tru_count,cv_count,lf_count,n1_count,n2_count,n3_count] at *);omega)) rfl rfl ?_|refine WG.loS rfl rfl (hB.2 names _ (by omega) (by(try simp only[Pt.on_length,tru_count,cv_count,lf_count,n1_count,n2_count,n3_count] at *);omega)) rfl rfl ?_|refine WG.loS rfl rfl (l6Bool_fn ns _ _ (by(try simp only[Pt.on_length,tru_count,cv_count,lf_count,n1_count,n2_count,n3_count] at *);omega)) rfl rfl ?_|refine WG.loS rfl rfl (l6Truth_fn ns _ _ (by(try simp only[Pt.on_length,tru_count,cv_count,lf_count,n1_count,n2_count,n3_count] at *);omega)) rfl rfl ?_|refine WG.loS rfl rfl (put3S ns _ _ _ _ _ _ (by(try simp only[Pt.on_length,tru_count,cv_count,lf_count,n1_count,n2_count,n3_count] at *);omega)) rfl rfl ?_|refine WG.c (E:=env) rfl rfl (hks) rfl rfl ?_)
 refine W.ret ?_
 exact RetR.loS (.inl rfl) rfl rO rfl rfl rfl (by simp only[n3_count,tru_count];omega) rfl
theorem l6One_9 (hk:k<ns.length)(hat:ns.getD k default=n)(hop:n.op=9)(hA:GoL ns n.a A ca)(hB:GoL ns n.b B cb)(hn:names.length+(1+ca+cb)≤10000)(hl:L.length+5*(1+ca+cb)≤5000):FunQ env.P 19 [.lp 0 0,.d (dI k),.d (namesD names)] (loS ns L 0) (just (.d (dI (plc ((Pt.n3 12 0 (A names) (.n3 12 0 (B names) (truP true) (truP false)) (truP false)).on L)))) (loS ns ((Pt.n3 12 0 (A names) (.n3 12 0 (B names) (truP true) (truP false)) (truP false)).on L) (Pt.n3 12 0 (A names) (.n3 12 0 (B names) (truP true) (truP false)) (truP false)).count)):=by
 obtain⟨op,a,b,c,num,text⟩:=n
 obtain rfl:op=9:=hop
 have hat':ns.getD (Int.toNat (k:Int)) default=⟨9,a,b,c,num,text⟩:=by simpa using hat
 have hks:Fun env.P 60 [dI 9] (.d (dI 2)) []:=l5Kids_fn 9
 have cA:=hA.1 names
 have cB:=hB.1 names
 refine FunQ.intro Tryz.func19 rfl (by kernel_rfl) rfl ?_
 unfold Go.Proofs.YtmmjbpgdkokjgaaGreatDoor.loS
 repeat(first|refine Z1 ?_)
 rw[hat']
 repeat'(first|refine Z3 ?_|refine WG.loS rfl rfl (hA.2 names _ (by omega) (by(try simp only[Pt.on_length,tru_count,cv_count,lf_count,n1_count,n2_count,n3_count] at *);omega)) rfl rfl ?_|refine WG.loS rfl rfl (hB.2 names _ (by omega) (by(try simp only[Pt.on_length,tru_count,cv_count,lf_count,n1_count,n2_count,n3_count] at *);omega)) rfl rfl ?_|refine WG.loS rfl rfl (l6Bool_fn ns _ _ (by(try simp only[Pt.on_length,tru_count,cv_count,lf_count,n1_count,n2_count,n3_count] at *);omega)) rfl rfl ?_|refine WG.loS rfl rfl (l6Truth_fn ns _ _ (by(try simp only[Pt.on_length,tru_count,cv_count,lf_count,n1_count,n2_count,n3_count] at *);omega)) rfl rfl ?_|refine WG.loS rfl rfl (put3S ns _ _ _ _ _ _ (by(try simp only[Pt.on_length,tru_count,cv_count,lf_count,n1_count,n2_count,n3_count] at *);omega)) rfl rfl ?_|refine WG.c (E:=env) rfl rfl (hks) rfl rfl ?_)
 refine W.ret ?_
 exact RetR.loS (.inl rfl) rfl rO rfl rfl rfl (by simp only[n3_count,tru_count];omega) rfl
theorem l6CallOne_fn (hop:n.op=23)(hA:GoL ns n.a A ca)(hn:names.length+(1+ca)≤10000)(hl:L.length+5*(1+ca)≤5000):FunQ env.P 62 [.lp 0 0,.d (.agg n.row),.d (namesD names)] (loS ns L 0) (just (.d (dI (plc ((oneP n.text (A names)).on L)))) (loS ns ((oneP n.text (A names)).on L) (oneP n.text (A names)).count)):=by
 obtain⟨op,a,b,c,num,text⟩:=n
 obtain rfl:op=23:=hop
 have cA:=hA.1 names
 refine FunQ.intro Tryz.func62 rfl (by kernel_rfl) rfl ?_
 unfold Go.Proofs.YtmmjbpgdkokjgaaGreatDoor.loS
 repeat'(first|refine Z1 ?_|refine WG.loS rfl rfl (hA.2 names _ (by omega) (by(try simp only[Pt.on_length,tru_count,cv_count,lf_count,n1_count,n2_count,n3_count] at *);omega)) rfl rfl ?_|refine WG.loS rfl rfl (putLeafS ns _ _ _ (by(try simp only[Pt.on_length,tru_count,cv_count,lf_count,n1_count,n2_count,n3_count] at *);omega)) rfl rfl ?_|refine WG.loS rfl rfl (put1S ns _ _ _ (by(try simp only[Pt.on_length,tru_count,cv_count,lf_count,n1_count,n2_count,n3_count] at *);omega)) rfl rfl ?_|refine WG.loS rfl rfl (put2S ns _ _ _ [] _ _ (by(try simp only[Pt.on_length,tru_count,cv_count,lf_count,n1_count,n2_count,n3_count] at *);omega)) rfl rfl ?_|refine WG.loS rfl rfl (put3S ns _ _ _ _ _ _ (by(try simp only[Pt.on_length,tru_count,cv_count,lf_count,n1_count,n2_count,n3_count] at *);omega)) rfl rfl ?_|fail|((refine SP (fun h=>?_) fun h=>?_)<;>(try(exfalso;first|contradiction|omega))))
 all_goals refine W.ret ?_
 all_goals refine RetR.loS (.inl rfl) rfl rO rfl rfl ?_ ?_ ?_
 all_goals (unfold oneP)
 all_goals simp [*,n3_count,n2_count,n1_count,lf_count]
 all_goals omega
theorem l6One_23 (hk:k<ns.length)(hat:ns.getD k default=n)(hop:n.op=23)(hA:GoL ns n.a A ca)(hn:names.length+(1+ca)≤10000)(hl:L.length+5*(1+ca)≤5000):FunQ env.P 19 [.lp 0 0,.d (dI k),.d (namesD names)] (loS ns L 0) (just (.d (dI (plc ((oneP n.text (A names)).on L)))) (loS ns ((oneP n.text (A names)).on L) (oneP n.text (A names)).count)):=by
 obtain⟨op,a,b,c,num,text⟩:=n
 obtain rfl:op=23:=hop
 have hat':ns.getD (Int.toNat (k:Int)) default=⟨23,a,b,c,num,text⟩:=by simpa using hat
 have hks:Fun env.P 60 [dI 23] (.d (dI 1)) []:=l5Kids_fn 23
 have hone:=l6CallOne_fn (L:=L) (n:=⟨23,a,b,c,num,text⟩) rfl hA hn hl
 refine FunQ.intro Tryz.func19 rfl (by kernel_rfl) rfl ?_
 unfold Go.Proofs.YtmmjbpgdkokjgaaGreatDoor.loS
 repeat(first|refine Z1 ?_)
 rw[hat']
 repeat'(first|refine Z3 ?_|refine WG.loS rfl rfl (hone) rfl rfl ?_|refine WG.c (E:=env) rfl rfl (hks) rfl rfl ?_)
 refine W.ret ?_
 exact RetR.loS (.inl rfl) rfl rO rfl rfl rfl (Nat.zero_add _) rfl
theorem l6One_12 (hk:k<ns.length)(hat:ns.getD k default=n)(hop:n.op=12)(hA:GoL ns n.a A ca)(hn:names.length+(1+ca)≤10000)(hl:L.length+5*(1+ca)≤5000):FunQ env.P 19 [.lp 0 0,.d (dI k),.d (namesD names)] (loS ns L 0) (just (.d (dI (plc ((Pt.mk (plainN n names) [A names]).on L)))) (loS ns ((Pt.mk (plainN n names) [A names]).on L) (Pt.mk (plainN n names) [A names]).count)):=by
 obtain⟨op,a,b,c,num,text⟩:=n
 obtain rfl:op=12:=hop
 have hat':ns.getD (Int.toNat (k:Int)) default=⟨12,a,b,c,num,text⟩:=by simpa using hat
 have hks:Fun env.P 60 [dI 12] (.d (dI 1)) []:=l5Kids_fn 12
 have cA:=hA.1 names
 have hsm:=l6Same_12
 refine FunQ.intro Tryz.func19 rfl (by kernel_rfl) rfl ?_
 unfold Go.Proofs.YtmmjbpgdkokjgaaGreatDoor.loS
 repeat(first|refine Z1 ?_)
 rw[hat']
 repeat'(first|(refine W.dre' (id:=16) [0,2,6] (fun f=>bif bt f 4 then [.pv [.d (nodesD ns),.og 1 (0+(A names).count)],.gr 6 59 (((A names).on L).map Co.row) (0+(A names).count) false,.pv ((⟨12,a,b,c,num,text⟩:Nd).row.map .d),.pv [.d (dI 8),.d (dI (plc ((A names).on L))),.d (dI 0),.d (dI 0),.d (dI 0),.d (.nl 5)],.gr 1 9 (([]++(names.map txtRow))++[[dS text]]) 2 false] else bif bt f 2 then [.pv [.d (nodesD ns),.og 1 (0+(A names).count)],.gr 6 59 (((A names).on L).map Co.row) (0+(A names).count) false,.pv ((⟨12,a,b,c,num,text⟩:Nd).row.map .d),.pv [.d (dI 8),.d (dI (plc ((A names).on L))),.d (dI 0),.d (dI 0),.d (dI 0),.d (.nl 5)],.gr 1 9 ([]++(names.map txtRow)) 1 false] else bif bt f 1 then [.pv [.d (nodesD ns),.og 1 (0+(A names).count)],.gr 6 59 (((A names).on L).map Co.row) (0+(A names).count) false,.pv ((⟨12,a,b,c,num,text⟩:Nd).row.map .d),.pv [.d (dI 8),.d (dI (plc ((A names).on L))),.d (dI 0),.d (dI 0),.d (dI 0),.d (.nl 5)],.gr 1 9 [] 0 false] else [.pv [.d (nodesD ns),.og 1 (0+(A names).count)],.gr 6 59 (((A names).on L).map Co.row) (0+(A names).count) false,.pv ((⟨12,a,b,c,num,text⟩:Nd).row.map .d),.pv [.d (dI 8),.d (dI (plc ((A names).on L))),.d (dI 0),.d (dI 0),.d (dI 0),.d (.nl 5)]]) [(1,[0]),(0,[0,1]),(2,[1]),(0,[0,1,3]),(0,[0,1,3]),(0,[0,1,3]),(4,[3]),(0,[7])] [.pv [.d (nodesD ns),.og 1 (0+(A names).count)],.gr 6 59 (((A names).on L).map Co.row) (0+(A names).count) false,.pv ((⟨12,a,b,c,num,text⟩:Nd).row.map .d),.pv [.d (dI 8),.d (dI (plc ((A names).on L))),.d (dI 0),.d (dI 0),.d (dI 0),.d (.nl 5)],.gr 1 9 (([]++(names.map txtRow))++[[dS text]]) 2 false] ?_)|refine W.pubD 4 rfl ?_|refine WE.mkd (.og 4 0) ?_ (.c (OpS1.bsO rfl rfl rfl rfl rfl rfl rfl rfl rfl rfl rfl rfl) .n)|refine Z2 ?_|refine Z1 ?_|refine WG.loS rfl rfl (hA.2 names _ (by omega) (by(try simp only[Pt.on_length,tru_count,cv_count,lf_count,n1_count,n2_count,n3_count] at *);omega)) rfl rfl ?_|refine WG.loS rfl rfl (putM1S (ns:=ns) (L:=L) (plainN ⟨12,a,b,c,num,text⟩ names) (A names) (by(try simp only[Pt.on_length,tru_count,cv_count,lf_count,n1_count,n2_count,n3_count] at *);omega)) rfl rfl ?_|refine WG.c (E:=env) rfl rfl (hks) rfl rfl ?_|refine WG.c (E:=env) rfl rfl (hsm) rfl rfl ?_)
 refine W.ret ?_
 exact RetR.loS (.inl rfl) rfl rO rfl rfl rfl (by simp only[Pt.count,Pt.counts];omega) rfl
end
section
variable {ns:List Nd}{n:Nd}{k:Nat}{names:List ByteArray}{L:List Co}{A B C:List ByteArray→Pt}{ca cb cc:Nat}
theorem l6One_13 (hk:k<ns.length)(hat:ns.getD k default=n)(hop:n.op=13)(hA:GoL ns n.a A ca)(hn:names.length+(1+ca)≤10000)(hl:L.length+5*(1+ca)≤5000):FunQ env.P 19 [.lp 0 0,.d (dI k),.d (namesD names)] (loS ns L 0) (just (.d (dI (plc ((Pt.mk (plainN n names) [A names]).on L)))) (loS ns ((Pt.mk (plainN n names) [A names]).on L) (Pt.mk (plainN n names) [A names]).count)):=by
 obtain⟨op,a,b,c,num,text⟩:=n
 obtain rfl:op=13:=hop
 have hat':ns.getD (Int.toNat (k:Int)) default=⟨13,a,b,c,num,text⟩:=by simpa using hat
 have hks:Fun env.P 60 [dI 13] (.d (dI 1)) []:=l5Kids_fn 13
 have cA:=hA.1 names
 have hsm:=l6Same_13
 refine FunQ.intro Tryz.func19 rfl (by kernel_rfl) rfl ?_
 unfold Go.Proofs.YtmmjbpgdkokjgaaGreatDoor.loS
 repeat(first|refine Z1 ?_)
 rw[hat']
 repeat'(first|(refine W.dre' (id:=16) [0,2,6] (fun f=>bif bt f 4 then [.pv [.d (nodesD ns),.og 1 (0+(A names).count)],.gr 6 59 (((A names).on L).map Co.row) (0+(A names).count) false,.pv ((⟨13,a,b,c,num,text⟩:Nd).row.map .d),.pv [.d (dI 9),.d (dI (plc ((A names).on L))),.d (dI 0),.d (dI 0),.d (dI 0),.d (.nl 5)],.gr 1 9 (([]++(names.map txtRow))++[[dS text]]) 2 false] else bif bt f 2 then [.pv [.d (nodesD ns),.og 1 (0+(A names).count)],.gr 6 59 (((A names).on L).map Co.row) (0+(A names).count) false,.pv ((⟨13,a,b,c,num,text⟩:Nd).row.map .d),.pv [.d (dI 9),.d (dI (plc ((A names).on L))),.d (dI 0),.d (dI 0),.d (dI 0),.d (.nl 5)],.gr 1 9 ([]++(names.map txtRow)) 1 false] else bif bt f 1 then [.pv [.d (nodesD ns),.og 1 (0+(A names).count)],.gr 6 59 (((A names).on L).map Co.row) (0+(A names).count) false,.pv ((⟨13,a,b,c,num,text⟩:Nd).row.map .d),.pv [.d (dI 9),.d (dI (plc ((A names).on L))),.d (dI 0),.d (dI 0),.d (dI 0),.d (.nl 5)],.gr 1 9 [] 0 false] else [.pv [.d (nodesD ns),.og 1 (0+(A names).count)],.gr 6 59 (((A names).on L).map Co.row) (0+(A names).count) false,.pv ((⟨13,a,b,c,num,text⟩:Nd).row.map .d),.pv [.d (dI 9),.d (dI (plc ((A names).on L))),.d (dI 0),.d (dI 0),.d (dI 0),.d (.nl 5)]]) [(1,[0]),(0,[0,1]),(2,[1]),(0,[0,1,3]),(0,[0,1,3]),(0,[0,1,3]),(4,[3]),(0,[7])] [.pv [.d (nodesD ns),.og 1 (0+(A names).count)],.gr 6 59 (((A names).on L).map Co.row) (0+(A names).count) false,.pv ((⟨13,a,b,c,num,text⟩:Nd).row.map .d),.pv [.d (dI 9),.d (dI (plc ((A names).on L))),.d (dI 0),.d (dI 0),.d (dI 0),.d (.nl 5)],.gr 1 9 (([]++(names.map txtRow))++[[dS text]]) 2 false] ?_)|refine W.pubD 4 rfl ?_|refine WE.mkd (.og 4 0) ?_ (.c (OpS1.bsO rfl rfl rfl rfl rfl rfl rfl rfl rfl rfl rfl rfl) .n)|refine Z2 ?_|refine Z1 ?_|refine WG.loS rfl rfl (hA.2 names _ (by omega) (by(try simp only[Pt.on_length,tru_count,cv_count,lf_count,n1_count,n2_count,n3_count] at *);omega)) rfl rfl ?_|refine WG.loS rfl rfl (putM1S (ns:=ns) (L:=L) (plainN ⟨13,a,b,c,num,text⟩ names) (A names) (by(try simp only[Pt.on_length,tru_count,cv_count,lf_count,n1_count,n2_count,n3_count] at *);omega)) rfl rfl ?_|refine WG.c (E:=env) rfl rfl (hks) rfl rfl ?_|refine WG.c (E:=env) rfl rfl (hsm) rfl rfl ?_)
 refine W.ret ?_
 exact RetR.loS (.inl rfl) rfl rO rfl rfl rfl (by simp only[Pt.count,Pt.counts];omega) rfl
theorem l6One_14 (hk:k<ns.length)(hat:ns.getD k default=n)(hop:n.op=14)(hA:GoL ns n.a A ca)(hn:names.length+(1+ca)≤10000)(hl:L.length+5*(1+ca)≤5000):FunQ env.P 19 [.lp 0 0,.d (dI k),.d (namesD names)] (loS ns L 0) (just (.d (dI (plc ((Pt.mk (plainN n names) [A names]).on L)))) (loS ns ((Pt.mk (plainN n names) [A names]).on L) (Pt.mk (plainN n names) [A names]).count)):=by
 obtain⟨op,a,b,c,num,text⟩:=n
 obtain rfl:op=14:=hop
 have hat':ns.getD (Int.toNat (k:Int)) default=⟨14,a,b,c,num,text⟩:=by simpa using hat
 have hks:Fun env.P 60 [dI 14] (.d (dI 1)) []:=l5Kids_fn 14
 have cA:=hA.1 names
 have hsm:=l6Same_14
 refine FunQ.intro Tryz.func19 rfl (by kernel_rfl) rfl ?_
 unfold Go.Proofs.YtmmjbpgdkokjgaaGreatDoor.loS
 repeat(first|refine Z1 ?_)
 rw[hat']
 repeat'(first|(refine W.dre' (id:=16) [0,2,6] (fun f=>bif bt f 4 then [.pv [.d (nodesD ns),.og 1 (0+(A names).count)],.gr 6 59 (((A names).on L).map Co.row) (0+(A names).count) false,.pv ((⟨14,a,b,c,num,text⟩:Nd).row.map .d),.pv [.d (dI 10),.d (dI (plc ((A names).on L))),.d (dI 0),.d (dI 0),.d (dI 0),.d (.nl 5)],.gr 1 9 (([]++(names.map txtRow))++[[dS text]]) 2 false] else bif bt f 2 then [.pv [.d (nodesD ns),.og 1 (0+(A names).count)],.gr 6 59 (((A names).on L).map Co.row) (0+(A names).count) false,.pv ((⟨14,a,b,c,num,text⟩:Nd).row.map .d),.pv [.d (dI 10),.d (dI (plc ((A names).on L))),.d (dI 0),.d (dI 0),.d (dI 0),.d (.nl 5)],.gr 1 9 ([]++(names.map txtRow)) 1 false] else bif bt f 1 then [.pv [.d (nodesD ns),.og 1 (0+(A names).count)],.gr 6 59 (((A names).on L).map Co.row) (0+(A names).count) false,.pv ((⟨14,a,b,c,num,text⟩:Nd).row.map .d),.pv [.d (dI 10),.d (dI (plc ((A names).on L))),.d (dI 0),.d (dI 0),.d (dI 0),.d (.nl 5)],.gr 1 9 [] 0 false] else [.pv [.d (nodesD ns),.og 1 (0+(A names).count)],.gr 6 59 (((A names).on L).map Co.row) (0+(A names).count) false,.pv ((⟨14,a,b,c,num,text⟩:Nd).row.map .d),.pv [.d (dI 10),.d (dI (plc ((A names).on L))),.d (dI 0),.d (dI 0),.d (dI 0),.d (.nl 5)]]) [(1,[0]),(0,[0,1]),(2,[1]),(0,[0,1,3]),(0,[0,1,3]),(0,[0,1,3]),(4,[3]),(0,[7])] [.pv [.d (nodesD ns),.og 1 (0+(A names).count)],.gr 6 59 (((A names).on L).map Co.row) (0+(A names).count) false,.pv ((⟨14,a,b,c,num,text⟩:Nd).row.map .d),.pv [.d (dI 10),.d (dI (plc ((A names).on L))),.d (dI 0),.d (dI 0),.d (dI 0),.d (.nl 5)],.gr 1 9 (([]++(names.map txtRow))++[[dS text]]) 2 false] ?_)|refine W.pubD 4 rfl ?_|refine WE.mkd (.og 4 0) ?_ (.c (OpS1.bsO rfl rfl rfl rfl rfl rfl rfl rfl rfl rfl rfl rfl) .n)|refine Z2 ?_|refine Z1 ?_|refine WG.loS rfl rfl (hA.2 names _ (by omega) (by(try simp only[Pt.on_length,tru_count,cv_count,lf_count,n1_count,n2_count,n3_count] at *);omega)) rfl rfl ?_|refine WG.loS rfl rfl (putM1S (ns:=ns) (L:=L) (plainN ⟨14,a,b,c,num,text⟩ names) (A names) (by(try simp only[Pt.on_length,tru_count,cv_count,lf_count,n1_count,n2_count,n3_count] at *);omega)) rfl rfl ?_|refine WG.c (E:=env) rfl rfl (hks) rfl rfl ?_|refine WG.c (E:=env) rfl rfl (hsm) rfl rfl ?_)
 refine W.ret ?_
 exact RetR.loS (.inl rfl) rfl rO rfl rfl rfl (by simp only[Pt.count,Pt.counts];omega) rfl
theorem l6One_5 (hk:k<ns.length)(hat:ns.getD k default=n)(hop:n.op=5)(hA:GoL ns n.a A ca)(hB:GoL ns n.b B cb)(hn:names.length+(1+ca+cb)≤10000)(hl:L.length+5*(1+ca+cb)≤5000):FunQ env.P 19 [.lp 0 0,.d (dI k),.d (namesD names)] (loS ns L 0) (just (.d (dI (plc ((Pt.mk (plainN n names) [A names,B names]).on L)))) (loS ns ((Pt.mk (plainN n names) [A names,B names]).on L) (Pt.mk (plainN n names) [A names,B names]).count)):=by
 obtain⟨op,a,b,c,num,text⟩:=n
 obtain rfl:op=5:=hop
 have hat':ns.getD (Int.toNat (k:Int)) default=⟨5,a,b,c,num,text⟩:=by simpa using hat
 have hks:Fun env.P 60 [dI 5] (.d (dI 2)) []:=l5Kids_fn 5
 have cA:=hA.1 names
 have cB:=hB.1 names
 have hsm:=l6Same_5
 refine FunQ.intro Tryz.func19 rfl (by kernel_rfl) rfl ?_
 unfold Go.Proofs.YtmmjbpgdkokjgaaGreatDoor.loS
 repeat(first|refine Z1 ?_)
 rw[hat']
 repeat'(first|(refine W.dre' (id:=16) [0,2,6] (fun f=>bif bt f 4 then [.pv [.d (nodesD ns),.og 1 (0+(A names).count)],.gr 6 59 (((A names).on L).map Co.row) (0+(A names).count) false,.pv ((⟨5,a,b,c,num,text⟩:Nd).row.map .d),.pv [.d (dI 3),.d (dI (plc ((A names).on L))),.d (dI 0),.d (dI 0),.d (dI 0),.d (.nl 5)],.gr 1 9 (([]++(names.map txtRow))++[[dS text]]) 2 false] else bif bt f 2 then [.pv [.d (nodesD ns),.og 1 (0+(A names).count)],.gr 6 59 (((A names).on L).map Co.row) (0+(A names).count) false,.pv ((⟨5,a,b,c,num,text⟩:Nd).row.map .d),.pv [.d (dI 3),.d (dI (plc ((A names).on L))),.d (dI 0),.d (dI 0),.d (dI 0),.d (.nl 5)],.gr 1 9 ([]++(names.map txtRow)) 1 false] else bif bt f 1 then [.pv [.d (nodesD ns),.og 1 (0+(A names).count)],.gr 6 59 (((A names).on L).map Co.row) (0+(A names).count) false,.pv ((⟨5,a,b,c,num,text⟩:Nd).row.map .d),.pv [.d (dI 3),.d (dI (plc ((A names).on L))),.d (dI 0),.d (dI 0),.d (dI 0),.d (.nl 5)],.gr 1 9 [] 0 false] else [.pv [.d (nodesD ns),.og 1 (0+(A names).count)],.gr 6 59 (((A names).on L).map Co.row) (0+(A names).count) false,.pv ((⟨5,a,b,c,num,text⟩:Nd).row.map .d),.pv [.d (dI 3),.d (dI (plc ((A names).on L))),.d (dI 0),.d (dI 0),.d (dI 0),.d (.nl 5)]]) [(1,[0]),(0,[0,1]),(2,[1]),(0,[0,1,3]),(0,[0,1,3]),(0,[0,1,3]),(4,[3]),(0,[7])] [.pv [.d (nodesD ns),.og 1 (0+(A names).count)],.gr 6 59 (((A names).on L).map Co.row) (0+(A names).count) false,.pv ((⟨5,a,b,c,num,text⟩:Nd).row.map .d),.pv [.d (dI 3),.d (dI (plc ((A names).on L))),.d (dI 0),.d (dI 0),.d (dI 0),.d (.nl 5)],.gr 1 9 (([]++(names.map txtRow))++[[dS text]]) 2 false] ?_)|refine W.pubD 4 rfl ?_|refine WE.mkd (.og 4 0) ?_ (.c (OpS1.bsO rfl rfl rfl rfl rfl rfl rfl rfl rfl rfl rfl rfl) .n)|refine Z2 ?_|refine Z1 ?_|refine WG.loS rfl rfl (hA.2 names _ (by omega) (by(try simp only[Pt.on_length,tru_count,cv_count,lf_count,n1_count,n2_count,n3_count] at *);omega)) rfl rfl ?_|refine WG.loS rfl rfl (hB.2 names _ (by omega) (by(try simp only[Pt.on_length,tru_count,cv_count,lf_count,n1_count,n2_count,n3_count] at *);omega)) rfl rfl ?_|refine WG.loS rfl rfl (putM2S (ns:=ns) (L:=L) (plainN ⟨5,a,b,c,num,text⟩ names) (A names) (B names) (by(try simp only[Pt.on_length,tru_count,cv_count,lf_count,n1_count,n2_count,n3_count] at *);omega)) rfl rfl ?_|refine WG.c (E:=env) rfl rfl (hks) rfl rfl ?_|refine WG.c (E:=env) rfl rfl (hsm) rfl rfl ?_)
 refine W.ret ?_
 exact RetR.loS (.inl rfl) rfl rO rfl rfl rfl (by simp only[Pt.count,Pt.counts];omega) rfl
end
section
variable {ns:List Nd}{n:Nd}{k:Nat}{names:List ByteArray}{L:List Co}{A B C:List ByteArray→Pt}{ca cb cc:Nat}
theorem l6One_6 (hk:k<ns.length)(hat:ns.getD k default=n)(hop:n.op=6)(hA:GoL ns n.a A ca)(hB:GoL ns n.b B cb)(hn:names.length+(1+ca+cb)≤10000)(hl:L.length+5*(1+ca+cb)≤5000):FunQ env.P 19 [.lp 0 0,.d (dI k),.d (namesD names)] (loS ns L 0) (just (.d (dI (plc ((Pt.mk (plainN n names) [A names,B names]).on L)))) (loS ns ((Pt.mk (plainN n names) [A names,B names]).on L) (Pt.mk (plainN n names) [A names,B names]).count)):=by
 obtain⟨op,a,b,c,num,text⟩:=n
 obtain rfl:op=6:=hop
 have hat':ns.getD (Int.toNat (k:Int)) default=⟨6,a,b,c,num,text⟩:=by simpa using hat
 have hks:Fun env.P 60 [dI 6] (.d (dI 2)) []:=l5Kids_fn 6
 have cA:=hA.1 names
 have cB:=hB.1 names
 have hsm:=l6Same_6
 refine FunQ.intro Tryz.func19 rfl (by kernel_rfl) rfl ?_
 unfold Go.Proofs.YtmmjbpgdkokjgaaGreatDoor.loS
 repeat(first|refine Z1 ?_)
 rw[hat']
 repeat'(first|(refine W.dre' (id:=16) [0,2,6] (fun f=>bif bt f 4 then [.pv [.d (nodesD ns),.og 1 (0+(A names).count)],.gr 6 59 (((A names).on L).map Co.row) (0+(A names).count) false,.pv ((⟨6,a,b,c,num,text⟩:Nd).row.map .d),.pv [.d (dI 4),.d (dI (plc ((A names).on L))),.d (dI 0),.d (dI 0),.d (dI 0),.d (.nl 5)],.gr 1 9 (([]++(names.map txtRow))++[[dS text]]) 2 false] else bif bt f 2 then [.pv [.d (nodesD ns),.og 1 (0+(A names).count)],.gr 6 59 (((A names).on L).map Co.row) (0+(A names).count) false,.pv ((⟨6,a,b,c,num,text⟩:Nd).row.map .d),.pv [.d (dI 4),.d (dI (plc ((A names).on L))),.d (dI 0),.d (dI 0),.d (dI 0),.d (.nl 5)],.gr 1 9 ([]++(names.map txtRow)) 1 false] else bif bt f 1 then [.pv [.d (nodesD ns),.og 1 (0+(A names).count)],.gr 6 59 (((A names).on L).map Co.row) (0+(A names).count) false,.pv ((⟨6,a,b,c,num,text⟩:Nd).row.map .d),.pv [.d (dI 4),.d (dI (plc ((A names).on L))),.d (dI 0),.d (dI 0),.d (dI 0),.d (.nl 5)],.gr 1 9 [] 0 false] else [.pv [.d (nodesD ns),.og 1 (0+(A names).count)],.gr 6 59 (((A names).on L).map Co.row) (0+(A names).count) false,.pv ((⟨6,a,b,c,num,text⟩:Nd).row.map .d),.pv [.d (dI 4),.d (dI (plc ((A names).on L))),.d (dI 0),.d (dI 0),.d (dI 0),.d (.nl 5)]]) [(1,[0]),(0,[0,1]),(2,[1]),(0,[0,1,3]),(0,[0,1,3]),(0,[0,1,3]),(4,[3]),(0,[7])] [.pv [.d (nodesD ns),.og 1 (0+(A names).count)],.gr 6 59 (((A names).on L).map Co.row) (0+(A names).count) false,.pv ((⟨6,a,b,c,num,text⟩:Nd).row.map .d),.pv [.d (dI 4),.d (dI (plc ((A names).on L))),.d (dI 0),.d (dI 0),.d (dI 0),.d (.nl 5)],.gr 1 9 (([]++(names.map txtRow))++[[dS text]]) 2 false] ?_)|refine W.pubD 4 rfl ?_|refine WE.mkd (.og 4 0) ?_ (.c (OpS1.bsO rfl rfl rfl rfl rfl rfl rfl rfl rfl rfl rfl rfl) .n)|refine Z2 ?_|refine Z1 ?_|refine WG.loS rfl rfl (hA.2 names _ (by omega) (by(try simp only[Pt.on_length,tru_count,cv_count,lf_count,n1_count,n2_count,n3_count] at *);omega)) rfl rfl ?_|refine WG.loS rfl rfl (hB.2 names _ (by omega) (by(try simp only[Pt.on_length,tru_count,cv_count,lf_count,n1_count,n2_count,n3_count] at *);omega)) rfl rfl ?_|refine WG.loS rfl rfl (putM2S (ns:=ns) (L:=L) (plainN ⟨6,a,b,c,num,text⟩ names) (A names) (B names) (by(try simp only[Pt.on_length,tru_count,cv_count,lf_count,n1_count,n2_count,n3_count] at *);omega)) rfl rfl ?_|refine WG.c (E:=env) rfl rfl (hks) rfl rfl ?_|refine WG.c (E:=env) rfl rfl (hsm) rfl rfl ?_)
 refine W.ret ?_
 exact RetR.loS (.inl rfl) rfl rO rfl rfl rfl (by simp only[Pt.count,Pt.counts];omega) rfl
theorem l6One_7 (hk:k<ns.length)(hat:ns.getD k default=n)(hop:n.op=7)(hA:GoL ns n.a A ca)(hB:GoL ns n.b B cb)(hn:names.length+(1+ca+cb)≤10000)(hl:L.length+5*(1+ca+cb)≤5000):FunQ env.P 19 [.lp 0 0,.d (dI k),.d (namesD names)] (loS ns L 0) (just (.d (dI (plc ((Pt.mk (plainN n names) [A names,B names]).on L)))) (loS ns ((Pt.mk (plainN n names) [A names,B names]).on L) (Pt.mk (plainN n names) [A names,B names]).count)):=by
 obtain⟨op,a,b,c,num,text⟩:=n
 obtain rfl:op=7:=hop
 have hat':ns.getD (Int.toNat (k:Int)) default=⟨7,a,b,c,num,text⟩:=by simpa using hat
 have hks:Fun env.P 60 [dI 7] (.d (dI 2)) []:=l5Kids_fn 7
 have cA:=hA.1 names
 have cB:=hB.1 names
 have hsm:=l6Same_7
 refine FunQ.intro Tryz.func19 rfl (by kernel_rfl) rfl ?_
 unfold Go.Proofs.YtmmjbpgdkokjgaaGreatDoor.loS
 repeat(first|refine Z1 ?_)
 rw[hat']
 repeat'(first|(refine W.dre' (id:=16) [0,2,6] (fun f=>bif bt f 4 then [.pv [.d (nodesD ns),.og 1 (0+(A names).count)],.gr 6 59 (((A names).on L).map Co.row) (0+(A names).count) false,.pv ((⟨7,a,b,c,num,text⟩:Nd).row.map .d),.pv [.d (dI 5),.d (dI (plc ((A names).on L))),.d (dI 0),.d (dI 0),.d (dI 0),.d (.nl 5)],.gr 1 9 (([]++(names.map txtRow))++[[dS text]]) 2 false] else bif bt f 2 then [.pv [.d (nodesD ns),.og 1 (0+(A names).count)],.gr 6 59 (((A names).on L).map Co.row) (0+(A names).count) false,.pv ((⟨7,a,b,c,num,text⟩:Nd).row.map .d),.pv [.d (dI 5),.d (dI (plc ((A names).on L))),.d (dI 0),.d (dI 0),.d (dI 0),.d (.nl 5)],.gr 1 9 ([]++(names.map txtRow)) 1 false] else bif bt f 1 then [.pv [.d (nodesD ns),.og 1 (0+(A names).count)],.gr 6 59 (((A names).on L).map Co.row) (0+(A names).count) false,.pv ((⟨7,a,b,c,num,text⟩:Nd).row.map .d),.pv [.d (dI 5),.d (dI (plc ((A names).on L))),.d (dI 0),.d (dI 0),.d (dI 0),.d (.nl 5)],.gr 1 9 [] 0 false] else [.pv [.d (nodesD ns),.og 1 (0+(A names).count)],.gr 6 59 (((A names).on L).map Co.row) (0+(A names).count) false,.pv ((⟨7,a,b,c,num,text⟩:Nd).row.map .d),.pv [.d (dI 5),.d (dI (plc ((A names).on L))),.d (dI 0),.d (dI 0),.d (dI 0),.d (.nl 5)]]) [(1,[0]),(0,[0,1]),(2,[1]),(0,[0,1,3]),(0,[0,1,3]),(0,[0,1,3]),(4,[3]),(0,[7])] [.pv [.d (nodesD ns),.og 1 (0+(A names).count)],.gr 6 59 (((A names).on L).map Co.row) (0+(A names).count) false,.pv ((⟨7,a,b,c,num,text⟩:Nd).row.map .d),.pv [.d (dI 5),.d (dI (plc ((A names).on L))),.d (dI 0),.d (dI 0),.d (dI 0),.d (.nl 5)],.gr 1 9 (([]++(names.map txtRow))++[[dS text]]) 2 false] ?_)|refine W.pubD 4 rfl ?_|refine WE.mkd (.og 4 0) ?_ (.c (OpS1.bsO rfl rfl rfl rfl rfl rfl rfl rfl rfl rfl rfl rfl) .n)|refine Z2 ?_|refine Z1 ?_|refine WG.loS rfl rfl (hA.2 names _ (by omega) (by(try simp only[Pt.on_length,tru_count,cv_count,lf_count,n1_count,n2_count,n3_count] at *);omega)) rfl rfl ?_|refine WG.loS rfl rfl (hB.2 names _ (by omega) (by(try simp only[Pt.on_length,tru_count,cv_count,lf_count,n1_count,n2_count,n3_count] at *);omega)) rfl rfl ?_|refine WG.loS rfl rfl (putM2S (ns:=ns) (L:=L) (plainN ⟨7,a,b,c,num,text⟩ names) (A names) (B names) (by(try simp only[Pt.on_length,tru_count,cv_count,lf_count,n1_count,n2_count,n3_count] at *);omega)) rfl rfl ?_|refine WG.c (E:=env) rfl rfl (hks) rfl rfl ?_|refine WG.c (E:=env) rfl rfl (hsm) rfl rfl ?_)
 refine W.ret ?_
 exact RetR.loS (.inl rfl) rfl rO rfl rfl rfl (by simp only[Pt.count,Pt.counts];omega) rfl
theorem l6One_10 (hk:k<ns.length)(hat:ns.getD k default=n)(hop:n.op=10)(hA:GoL ns n.a A ca)(hB:GoL ns n.b B cb)(hn:names.length+(1+ca+cb)≤10000)(hl:L.length+5*(1+ca+cb)≤5000):FunQ env.P 19 [.lp 0 0,.d (dI k),.d (namesD names)] (loS ns L 0) (just (.d (dI (plc ((Pt.mk (plainN n names) [A names,B names]).on L)))) (loS ns ((Pt.mk (plainN n names) [A names,B names]).on L) (Pt.mk (plainN n names) [A names,B names]).count)):=by
 obtain⟨op,a,b,c,num,text⟩:=n
 obtain rfl:op=10:=hop
 have hat':ns.getD (Int.toNat (k:Int)) default=⟨10,a,b,c,num,text⟩:=by simpa using hat
 have hks:Fun env.P 60 [dI 10] (.d (dI 2)) []:=l5Kids_fn 10
 have cA:=hA.1 names
 have cB:=hB.1 names
 have hsm:=l6Same_10
 refine FunQ.intro Tryz.func19 rfl (by kernel_rfl) rfl ?_
 unfold Go.Proofs.YtmmjbpgdkokjgaaGreatDoor.loS
 repeat(first|refine Z1 ?_)
 rw[hat']
 repeat'(first|(refine W.dre' (id:=16) [0,2,6] (fun f=>bif bt f 4 then [.pv [.d (nodesD ns),.og 1 (0+(A names).count)],.gr 6 59 (((A names).on L).map Co.row) (0+(A names).count) false,.pv ((⟨10,a,b,c,num,text⟩:Nd).row.map .d),.pv [.d (dI 6),.d (dI (plc ((A names).on L))),.d (dI 0),.d (dI 0),.d (dI 0),.d (.nl 5)],.gr 1 9 (([]++(names.map txtRow))++[[dS text]]) 2 false] else bif bt f 2 then [.pv [.d (nodesD ns),.og 1 (0+(A names).count)],.gr 6 59 (((A names).on L).map Co.row) (0+(A names).count) false,.pv ((⟨10,a,b,c,num,text⟩:Nd).row.map .d),.pv [.d (dI 6),.d (dI (plc ((A names).on L))),.d (dI 0),.d (dI 0),.d (dI 0),.d (.nl 5)],.gr 1 9 ([]++(names.map txtRow)) 1 false] else bif bt f 1 then [.pv [.d (nodesD ns),.og 1 (0+(A names).count)],.gr 6 59 (((A names).on L).map Co.row) (0+(A names).count) false,.pv ((⟨10,a,b,c,num,text⟩:Nd).row.map .d),.pv [.d (dI 6),.d (dI (plc ((A names).on L))),.d (dI 0),.d (dI 0),.d (dI 0),.d (.nl 5)],.gr 1 9 [] 0 false] else [.pv [.d (nodesD ns),.og 1 (0+(A names).count)],.gr 6 59 (((A names).on L).map Co.row) (0+(A names).count) false,.pv ((⟨10,a,b,c,num,text⟩:Nd).row.map .d),.pv [.d (dI 6),.d (dI (plc ((A names).on L))),.d (dI 0),.d (dI 0),.d (dI 0),.d (.nl 5)]]) [(1,[0]),(0,[0,1]),(2,[1]),(0,[0,1,3]),(0,[0,1,3]),(0,[0,1,3]),(4,[3]),(0,[7])] [.pv [.d (nodesD ns),.og 1 (0+(A names).count)],.gr 6 59 (((A names).on L).map Co.row) (0+(A names).count) false,.pv ((⟨10,a,b,c,num,text⟩:Nd).row.map .d),.pv [.d (dI 6),.d (dI (plc ((A names).on L))),.d (dI 0),.d (dI 0),.d (dI 0),.d (.nl 5)],.gr 1 9 (([]++(names.map txtRow))++[[dS text]]) 2 false] ?_)|refine W.pubD 4 rfl ?_|refine WE.mkd (.og 4 0) ?_ (.c (OpS1.bsO rfl rfl rfl rfl rfl rfl rfl rfl rfl rfl rfl rfl) .n)|refine Z2 ?_|refine Z1 ?_|refine WG.loS rfl rfl (hA.2 names _ (by omega) (by(try simp only[Pt.on_length,tru_count,cv_count,lf_count,n1_count,n2_count,n3_count] at *);omega)) rfl rfl ?_|refine WG.loS rfl rfl (hB.2 names _ (by omega) (by(try simp only[Pt.on_length,tru_count,cv_count,lf_count,n1_count,n2_count,n3_count] at *);omega)) rfl rfl ?_|refine WG.loS rfl rfl (putM2S (ns:=ns) (L:=L) (plainN ⟨10,a,b,c,num,text⟩ names) (A names) (B names) (by(try simp only[Pt.on_length,tru_count,cv_count,lf_count,n1_count,n2_count,n3_count] at *);omega)) rfl rfl ?_|refine WG.c (E:=env) rfl rfl (hks) rfl rfl ?_|refine WG.c (E:=env) rfl rfl (hsm) rfl rfl ?_)
 refine W.ret ?_
 exact RetR.loS (.inl rfl) rfl rO rfl rfl rfl (by simp only[Pt.count,Pt.counts];omega) rfl
theorem l6One_11 (hk:k<ns.length)(hat:ns.getD k default=n)(hop:n.op=11)(hA:GoL ns n.a A ca)(hB:GoL ns n.b B cb)(hn:names.length+(1+ca+cb)≤10000)(hl:L.length+5*(1+ca+cb)≤5000):FunQ env.P 19 [.lp 0 0,.d (dI k),.d (namesD names)] (loS ns L 0) (just (.d (dI (plc ((Pt.mk (plainN n names) [A names,B names]).on L)))) (loS ns ((Pt.mk (plainN n names) [A names,B names]).on L) (Pt.mk (plainN n names) [A names,B names]).count)):=by
 obtain⟨op,a,b,c,num,text⟩:=n
 obtain rfl:op=11:=hop
 have hat':ns.getD (Int.toNat (k:Int)) default=⟨11,a,b,c,num,text⟩:=by simpa using hat
 have hks:Fun env.P 60 [dI 11] (.d (dI 2)) []:=l5Kids_fn 11
 have cA:=hA.1 names
 have cB:=hB.1 names
 have hsm:=l6Same_11
 refine FunQ.intro Tryz.func19 rfl (by kernel_rfl) rfl ?_
 unfold Go.Proofs.YtmmjbpgdkokjgaaGreatDoor.loS
 repeat(first|refine Z1 ?_)
 rw[hat']
 repeat'(first|(refine W.dre' (id:=16) [0,2,6] (fun f=>bif bt f 4 then [.pv [.d (nodesD ns),.og 1 (0+(A names).count)],.gr 6 59 (((A names).on L).map Co.row) (0+(A names).count) false,.pv ((⟨11,a,b,c,num,text⟩:Nd).row.map .d),.pv [.d (dI 7),.d (dI (plc ((A names).on L))),.d (dI 0),.d (dI 0),.d (dI 0),.d (.nl 5)],.gr 1 9 (([]++(names.map txtRow))++[[dS text]]) 2 false] else bif bt f 2 then [.pv [.d (nodesD ns),.og 1 (0+(A names).count)],.gr 6 59 (((A names).on L).map Co.row) (0+(A names).count) false,.pv ((⟨11,a,b,c,num,text⟩:Nd).row.map .d),.pv [.d (dI 7),.d (dI (plc ((A names).on L))),.d (dI 0),.d (dI 0),.d (dI 0),.d (.nl 5)],.gr 1 9 ([]++(names.map txtRow)) 1 false] else bif bt f 1 then [.pv [.d (nodesD ns),.og 1 (0+(A names).count)],.gr 6 59 (((A names).on L).map Co.row) (0+(A names).count) false,.pv ((⟨11,a,b,c,num,text⟩:Nd).row.map .d),.pv [.d (dI 7),.d (dI (plc ((A names).on L))),.d (dI 0),.d (dI 0),.d (dI 0),.d (.nl 5)],.gr 1 9 [] 0 false] else [.pv [.d (nodesD ns),.og 1 (0+(A names).count)],.gr 6 59 (((A names).on L).map Co.row) (0+(A names).count) false,.pv ((⟨11,a,b,c,num,text⟩:Nd).row.map .d),.pv [.d (dI 7),.d (dI (plc ((A names).on L))),.d (dI 0),.d (dI 0),.d (dI 0),.d (.nl 5)]]) [(1,[0]),(0,[0,1]),(2,[1]),(0,[0,1,3]),(0,[0,1,3]),(0,[0,1,3]),(4,[3]),(0,[7])] [.pv [.d (nodesD ns),.og 1 (0+(A names).count)],.gr 6 59 (((A names).on L).map Co.row) (0+(A names).count) false,.pv ((⟨11,a,b,c,num,text⟩:Nd).row.map .d),.pv [.d (dI 7),.d (dI (plc ((A names).on L))),.d (dI 0),.d (dI 0),.d (dI 0),.d (.nl 5)],.gr 1 9 (([]++(names.map txtRow))++[[dS text]]) 2 false] ?_)|refine W.pubD 4 rfl ?_|refine WE.mkd (.og 4 0) ?_ (.c (OpS1.bsO rfl rfl rfl rfl rfl rfl rfl rfl rfl rfl rfl rfl) .n)|refine Z2 ?_|refine Z1 ?_|refine WG.loS rfl rfl (hA.2 names _ (by omega) (by(try simp only[Pt.on_length,tru_count,cv_count,lf_count,n1_count,n2_count,n3_count] at *);omega)) rfl rfl ?_|refine WG.loS rfl rfl (hB.2 names _ (by omega) (by(try simp only[Pt.on_length,tru_count,cv_count,lf_count,n1_count,n2_count,n3_count] at *);omega)) rfl rfl ?_|refine WG.loS rfl rfl (putM2S (ns:=ns) (L:=L) (plainN ⟨11,a,b,c,num,text⟩ names) (A names) (B names) (by(try simp only[Pt.on_length,tru_count,cv_count,lf_count,n1_count,n2_count,n3_count] at *);omega)) rfl rfl ?_|refine WG.c (E:=env) rfl rfl (hks) rfl rfl ?_|refine WG.c (E:=env) rfl rfl (hsm) rfl rfl ?_)
 refine W.ret ?_
 exact RetR.loS (.inl rfl) rfl rO rfl rfl rfl (by simp only[Pt.count,Pt.counts];omega) rfl
end
section
variable {ns:List Nd}{n:Nd}{k:Nat}{names:List ByteArray}{L:List Co}{A B C:List ByteArray→Pt}{ca cb cc:Nat}
theorem l6One_17 (hk:k<ns.length)(hat:ns.getD k default=n)(hop:n.op=17)(hA:GoL ns n.a A ca)(hB:GoL ns n.b B cb)(hn:names.length+(1+ca+cb)≤10000)(hl:L.length+5*(1+ca+cb)≤5000):FunQ env.P 19 [.lp 0 0,.d (dI k),.d (namesD names)] (loS ns L 0) (just (.d (dI (plc ((Pt.mk (plainN n names) [A names,B names]).on L)))) (loS ns ((Pt.mk (plainN n names) [A names,B names]).on L) (Pt.mk (plainN n names) [A names,B names]).count)):=by
 obtain⟨op,a,b,c,num,text⟩:=n
 obtain rfl:op=17:=hop
 have hat':ns.getD (Int.toNat (k:Int)) default=⟨17,a,b,c,num,text⟩:=by simpa using hat
 have hks:Fun env.P 60 [dI 17] (.d (dI 2)) []:=l5Kids_fn 17
 have cA:=hA.1 names
 have cB:=hB.1 names
 have hsm:=l6Same_17
 have hst:=l6Str_fn text
 refine FunQ.intro Tryz.func19 rfl (by kernel_rfl) rfl ?_
 unfold Go.Proofs.YtmmjbpgdkokjgaaGreatDoor.loS
 repeat(first|refine Z1 ?_)
 rw[hat']
 repeat'(first|(refine W.dre' (id:=16) [0,2,6] (fun f=>bif bt f 4 then [.pv [.d (nodesD ns),.og 1 (0+(A names).count)],.gr 6 59 (((A names).on L).map Co.row) (0+(A names).count) false,.pv ((⟨17,a,b,c,num,text⟩:Nd).row.map .d),.pv [.d (dI 11),.d (dI (plc ((A names).on L))),.d (dI 0),.d (dI 0),.d (dI 0),.d (.nl 5)],.gr 1 9 (([]++(names.map txtRow))++[[dS text]]) 2 false] else bif bt f 2 then [.pv [.d (nodesD ns),.og 1 (0+(A names).count)],.gr 6 59 (((A names).on L).map Co.row) (0+(A names).count) false,.pv ((⟨17,a,b,c,num,text⟩:Nd).row.map .d),.pv [.d (dI 11),.d (dI (plc ((A names).on L))),.d (dI 0),.d (dI 0),.d (dI 0),.d (.nl 5)],.gr 1 9 ([]++(names.map txtRow)) 1 false] else bif bt f 1 then [.pv [.d (nodesD ns),.og 1 (0+(A names).count)],.gr 6 59 (((A names).on L).map Co.row) (0+(A names).count) false,.pv ((⟨17,a,b,c,num,text⟩:Nd).row.map .d),.pv [.d (dI 11),.d (dI (plc ((A names).on L))),.d (dI 0),.d (dI 0),.d (dI 0),.d (.nl 5)],.gr 1 9 [] 0 false] else [.pv [.d (nodesD ns),.og 1 (0+(A names).count)],.gr 6 59 (((A names).on L).map Co.row) (0+(A names).count) false,.pv ((⟨17,a,b,c,num,text⟩:Nd).row.map .d),.pv [.d (dI 11),.d (dI (plc ((A names).on L))),.d (dI 0),.d (dI 0),.d (dI 0),.d (.nl 5)]]) [(1,[0]),(0,[0,1]),(2,[1]),(0,[0,1,3]),(0,[0,1,3]),(0,[0,1,3]),(4,[3]),(0,[7])] [.pv [.d (nodesD ns),.og 1 (0+(A names).count)],.gr 6 59 (((A names).on L).map Co.row) (0+(A names).count) false,.pv ((⟨17,a,b,c,num,text⟩:Nd).row.map .d),.pv [.d (dI 11),.d (dI (plc ((A names).on L))),.d (dI 0),.d (dI 0),.d (dI 0),.d (.nl 5)],.gr 1 9 (([]++(names.map txtRow))++[[dS text]]) 2 false] ?_)|refine W.pubD 4 rfl ?_|refine WE.mkd (.og 4 0) ?_ (.c (OpS1.bsO rfl rfl rfl rfl rfl rfl rfl rfl rfl rfl rfl rfl) .n)|refine Z2 ?_|refine Z1 ?_|refine WG.loS rfl rfl (hA.2 names _ (by omega) (by(try simp only[Pt.on_length,tru_count,cv_count,lf_count,n1_count,n2_count,n3_count] at *);omega)) rfl rfl ?_|refine WG.loS rfl rfl (hB.2 names _ (by omega) (by(try simp only[Pt.on_length,tru_count,cv_count,lf_count,n1_count,n2_count,n3_count] at *);omega)) rfl rfl ?_|refine WG.loS rfl rfl (putM2S (ns:=ns) (L:=L) (plainN ⟨17,a,b,c,num,text⟩ names) (A names) (B names) (by(try simp only[Pt.on_length,tru_count,cv_count,lf_count,n1_count,n2_count,n3_count] at *);omega)) rfl rfl ?_|refine WG.c (E:=env) rfl rfl (hks) rfl rfl ?_|refine WG.c (E:=env) rfl rfl (hsm) rfl rfl ?_|refine WG.c (E:=env) rfl rfl (hst) rfl rfl ?_)
 refine W.ret ?_
 exact RetR.loS (.inl rfl) rfl rO rfl rfl rfl (by simp only[Pt.count,Pt.counts];omega) rfl
theorem l6One_18 (hk:k<ns.length)(hat:ns.getD k default=n)(hop:n.op=18)(hA:GoL ns n.a A ca)(hB:GoL ns n.b B cb)(hC:GoL ns n.c C cc)(hn:names.length+(1+ca+cb+cc)≤10000)(hl:L.length+5*(1+ca+cb+cc)≤5000):FunQ env.P 19 [.lp 0 0,.d (dI k),.d (namesD names)] (loS ns L 0) (just (.d (dI (plc ((Pt.mk (plainN n names) [A names,B names,C names]).on L)))) (loS ns ((Pt.mk (plainN n names) [A names,B names,C names]).on L) (Pt.mk (plainN n names) [A names,B names,C names]).count)):=by
 obtain⟨op,a,b,c,num,text⟩:=n
 obtain rfl:op=18:=hop
 have hat':ns.getD (Int.toNat (k:Int)) default=⟨18,a,b,c,num,text⟩:=by simpa using hat
 have hks:Fun env.P 60 [dI 18] (.d (dI 3)) []:=l5Kids_fn 18
 have cA:=hA.1 names
 have cB:=hB.1 names
 have cC:=hC.1 names
 have hsm:=l6Same_18
 refine FunQ.intro Tryz.func19 rfl (by kernel_rfl) rfl ?_
 unfold Go.Proofs.YtmmjbpgdkokjgaaGreatDoor.loS
 repeat(first|refine Z1 ?_)
 rw[hat']
 repeat'(first|(refine W.dre' (id:=16) [0,2,6] (fun f=>bif bt f 4 then [.pv [.d (nodesD ns),.og 1 (0+(A names).count)],.gr 6 59 (((A names).on L).map Co.row) (0+(A names).count) false,.pv ((⟨18,a,b,c,num,text⟩:Nd).row.map .d),.pv [.d (dI 12),.d (dI (plc ((A names).on L))),.d (dI 0),.d (dI 0),.d (dI 0),.d (.nl 5)],.gr 1 9 (([]++(names.map txtRow))++[[dS text]]) 2 false] else bif bt f 2 then [.pv [.d (nodesD ns),.og 1 (0+(A names).count)],.gr 6 59 (((A names).on L).map Co.row) (0+(A names).count) false,.pv ((⟨18,a,b,c,num,text⟩:Nd).row.map .d),.pv [.d (dI 12),.d (dI (plc ((A names).on L))),.d (dI 0),.d (dI 0),.d (dI 0),.d (.nl 5)],.gr 1 9 ([]++(names.map txtRow)) 1 false] else bif bt f 1 then [.pv [.d (nodesD ns),.og 1 (0+(A names).count)],.gr 6 59 (((A names).on L).map Co.row) (0+(A names).count) false,.pv ((⟨18,a,b,c,num,text⟩:Nd).row.map .d),.pv [.d (dI 12),.d (dI (plc ((A names).on L))),.d (dI 0),.d (dI 0),.d (dI 0),.d (.nl 5)],.gr 1 9 [] 0 false] else [.pv [.d (nodesD ns),.og 1 (0+(A names).count)],.gr 6 59 (((A names).on L).map Co.row) (0+(A names).count) false,.pv ((⟨18,a,b,c,num,text⟩:Nd).row.map .d),.pv [.d (dI 12),.d (dI (plc ((A names).on L))),.d (dI 0),.d (dI 0),.d (dI 0),.d (.nl 5)]]) [(1,[0]),(0,[0,1]),(2,[1]),(0,[0,1,3]),(0,[0,1,3]),(0,[0,1,3]),(4,[3]),(0,[7])] [.pv [.d (nodesD ns),.og 1 (0+(A names).count)],.gr 6 59 (((A names).on L).map Co.row) (0+(A names).count) false,.pv ((⟨18,a,b,c,num,text⟩:Nd).row.map .d),.pv [.d (dI 12),.d (dI (plc ((A names).on L))),.d (dI 0),.d (dI 0),.d (dI 0),.d (.nl 5)],.gr 1 9 (([]++(names.map txtRow))++[[dS text]]) 2 false] ?_)|refine W.pubD 4 rfl ?_|refine WE.mkd (.og 4 0) ?_ (.c (OpS1.bsO rfl rfl rfl rfl rfl rfl rfl rfl rfl rfl rfl rfl) .n)|refine Z2 ?_|refine Z1 ?_|refine WG.loS rfl rfl (hA.2 names _ (by omega) (by(try simp only[Pt.on_length,tru_count,cv_count,lf_count,n1_count,n2_count,n3_count] at *);omega)) rfl rfl ?_|refine WG.loS rfl rfl (hB.2 names _ (by omega) (by(try simp only[Pt.on_length,tru_count,cv_count,lf_count,n1_count,n2_count,n3_count] at *);omega)) rfl rfl ?_|refine WG.loS rfl rfl (hC.2 names _ (by omega) (by(try simp only[Pt.on_length,tru_count,cv_count,lf_count,n1_count,n2_count,n3_count] at *);omega)) rfl rfl ?_|refine WG.loS rfl rfl (putM3S (ns:=ns) (L:=L) (plainN ⟨18,a,b,c,num,text⟩ names) (A names) (B names) (C names) (by(try simp only[Pt.on_length,tru_count,cv_count,lf_count,n1_count,n2_count,n3_count] at *);omega)) rfl rfl ?_|refine WG.c (E:=env) rfl rfl (hks) rfl rfl ?_|refine WG.c (E:=env) rfl rfl (hsm) rfl rfl ?_)
 refine W.ret ?_
 exact RetR.loS (.inl rfl) rfl rO rfl rfl rfl (by simp only[Pt.count,Pt.counts];omega) rfl
theorem l6One_19 (hk:k<ns.length)(hat:ns.getD k default=n)(hop:n.op=19)(hA:GoL ns n.a A ca)(hB:GoL ns n.b B cb)(hC:GoL ns n.c C cc)(hn:names.length+(1+ca+cb+cc)≤10000)(hl:L.length+5*(1+ca+cb+cc)≤5000):FunQ env.P 19 [.lp 0 0,.d (dI k),.d (namesD names)] (loS ns L 0) (just (.d (dI (plc ((Pt.mk (plainN n names) [A names,B names,C (names++[n.text])]).on L)))) (loS ns ((Pt.mk (plainN n names) [A names,B names,C (names++[n.text])]).on L) (Pt.mk (plainN n names) [A names,B names,C (names++[n.text])]).count)):=by
 obtain⟨op,a,b,c,num,text⟩:=n
 obtain rfl:op=19:=hop
 have hat':ns.getD (Int.toNat (k:Int)) default=⟨19,a,b,c,num,text⟩:=by simpa using hat
 have hks:Fun env.P 60 [dI 19] (.d (dI 3)) []:=l5Kids_fn 19
 have cA:=hA.1 names
 have cB:=hB.1 names
 have cC:=hC.1 (names++[text])
 have hsm:=l6Same_19
 have hC2: ∀L:List Co,L.length+5*cc≤5000→FunQ env.P 19 [.lp 0 0,.d (dI c),.d (.sl 1 (([]++names.map txtRow)++[[dS text]]))] (loS ns L 0) (just (.d (dI (plc ((C (names++[text])).on L)))) (loS ns ((C (names++[text])).on L) (C (names++[text])).count)):=fun L hL=>by
  have:=hC.2 (names++[text]) L (by simp only[List.length_append,List.length_cons,List.length_nil];omega) hL
  rw[show namesD (names++[text])=.sl 1 (([]++names.map txtRow)++[[dS text]]) from by simp[namesD,txtRow]] at this
  exact this
 have hm:plainN ⟨19,a,b,c,num,text⟩ names=⟨13,0,0,0,((names.map txtRow).length:Nat),[]⟩:=by simp[plainN,plainM]
 rw[hm]
 refine FunQ.intro Tryz.func19 rfl (by kernel_rfl) rfl ?_
 unfold Go.Proofs.YtmmjbpgdkokjgaaGreatDoor.loS
 repeat(first|refine Z1 ?_)
 rw[hat']
 repeat'(first|(refine W.dre' (id:=16) [0,2,6] (fun f=>bif bt f 4 then [.pv [.d (nodesD ns),.og 1 (0+(A names).count)],.gr 6 59 (((A names).on L).map Co.row) (0+(A names).count) false,.pv ((⟨19,a,b,c,num,text⟩:Nd).row.map .d),.pv [.d (dI 13),.d (dI (plc ((A names).on L))),.d (dI 0),.d (dI 0),.d (dI 0),.d (.nl 5)],.gr 1 9 (([]++(names.map txtRow))++[[dS text]]) 2 false] else bif bt f 2 then [.pv [.d (nodesD ns),.og 1 (0+(A names).count)],.gr 6 59 (((A names).on L).map Co.row) (0+(A names).count) false,.pv ((⟨19,a,b,c,num,text⟩:Nd).row.map .d),.pv [.d (dI 13),.d (dI (plc ((A names).on L))),.d (dI 0),.d (dI 0),.d (dI 0),.d (.nl 5)],.gr 1 9 ([]++(names.map txtRow)) 1 false] else bif bt f 1 then [.pv [.d (nodesD ns),.og 1 (0+(A names).count)],.gr 6 59 (((A names).on L).map Co.row) (0+(A names).count) false,.pv ((⟨19,a,b,c,num,text⟩:Nd).row.map .d),.pv [.d (dI 13),.d (dI (plc ((A names).on L))),.d (dI 0),.d (dI 0),.d (dI 0),.d (.nl 5)],.gr 1 9 [] 0 false] else [.pv [.d (nodesD ns),.og 1 (0+(A names).count)],.gr 6 59 (((A names).on L).map Co.row) (0+(A names).count) false,.pv ((⟨19,a,b,c,num,text⟩:Nd).row.map .d),.pv [.d (dI 13),.d (dI (plc ((A names).on L))),.d (dI 0),.d (dI 0),.d (dI 0),.d (.nl 5)]]) [(1,[0]),(0,[0,1]),(2,[1]),(0,[0,1,3]),(0,[0,1,3]),(0,[0,1,3]),(4,[3]),(0,[7])] [.pv [.d (nodesD ns),.og 1 (0+(A names).count)],.gr 6 59 (((A names).on L).map Co.row) (0+(A names).count) false,.pv ((⟨19,a,b,c,num,text⟩:Nd).row.map .d),.pv [.d (dI 13),.d (dI (plc ((A names).on L))),.d (dI 0),.d (dI 0),.d (dI 0),.d (.nl 5)],.gr 1 9 (([]++(names.map txtRow))++[[dS text]]) 2 false] ?_)|refine W.pubD 4 rfl ?_|refine WE.mkd (.og 4 0) ?_ (.c (OpS1.bsO rfl rfl rfl rfl rfl rfl rfl rfl rfl rfl rfl rfl) .n)|refine Z2 ?_|refine Z1 ?_|refine WG.loS rfl rfl (hA.2 names _ (by omega) (by(try simp only[Pt.on_length,tru_count,cv_count,lf_count,n1_count,n2_count,n3_count] at *);omega)) rfl rfl ?_|refine WG.loS rfl rfl (hB.2 names _ (by omega) (by(try simp only[Pt.on_length,tru_count,cv_count,lf_count,n1_count,n2_count,n3_count] at *);omega)) rfl rfl ?_|refine WG.loS rfl rfl (hC2 _ (by(try simp only[Pt.on_length,tru_count,cv_count,lf_count,n1_count,n2_count,n3_count] at *);omega)) rfl rfl ?_|refine WG.loS rfl rfl (putM3S (ns:=ns) (L:=L) ⟨13,0,0,0,((names.map txtRow).length:Nat),[]⟩ (A names) (B names) (C (names++[text])) (by(try simp only[Pt.on_length,tru_count,cv_count,lf_count,n1_count,n2_count,n3_count] at *);omega)) rfl rfl ?_|refine WG.c (E:=env) rfl rfl (hks) rfl rfl ?_|refine WG.c (E:=env) rfl rfl (hsm) rfl rfl ?_)
 refine W.ret ?_
 exact RetR.loS (.inl rfl) rfl rO rfl rfl rfl (by simp only[Pt.count,Pt.counts];omega) rfl
theorem l6One_20 (hk:k<ns.length)(hat:ns.getD k default=n)(hop:n.op=20)(hA:GoL ns n.a A ca)(hB:GoL ns n.b B cb)(hn:names.length+(1+ca+cb)≤10000)(hl:L.length+5*(1+ca+cb)≤5000):FunQ env.P 19 [.lp 0 0,.d (dI k),.d (namesD names)] (loS ns L 0) (just (.d (dI (plc ((Pt.mk (plainN n names) [A names,B (names++[n.text])]).on L)))) (loS ns ((Pt.mk (plainN n names) [A names,B (names++[n.text])]).on L) (Pt.mk (plainN n names) [A names,B (names++[n.text])]).count)):=by
 obtain⟨op,a,b,c,num,text⟩:=n
 obtain rfl:op=20:=hop
 have hat':ns.getD (Int.toNat (k:Int)) default=⟨20,a,b,c,num,text⟩:=by simpa using hat
 have hks:Fun env.P 60 [dI 20] (.d (dI 2)) []:=l5Kids_fn 20
 have cA:=hA.1 names
 have cB:=hB.1 (names++[text])
 have hsm:=l6Same_20
 have hB2: ∀L:List Co,L.length+5*cb≤5000→FunQ env.P 19 [.lp 0 0,.d (dI b),.d (.sl 1 (([]++names.map txtRow)++[[dS text]]))] (loS ns L 0) (just (.d (dI (plc ((B (names++[text])).on L)))) (loS ns ((B (names++[text])).on L) (B (names++[text])).count)):=fun L hL=>by
  have:=hB.2 (names++[text]) L (by simp only[List.length_append,List.length_cons,List.length_nil];omega) hL
  rw[show namesD (names++[text])=.sl 1 (([]++names.map txtRow)++[[dS text]]) from by simp[namesD,txtRow]] at this
  exact this
 have hm:plainN ⟨20,a,b,c,num,text⟩ names=⟨14,0,0,0,((names.map txtRow).length:Nat),[]⟩:=by simp[plainN,plainM]
 rw[hm]
 refine FunQ.intro Tryz.func19 rfl (by kernel_rfl) rfl ?_
 unfold Go.Proofs.YtmmjbpgdkokjgaaGreatDoor.loS
 repeat(first|refine Z1 ?_)
 rw[hat']
 repeat'(first|(refine W.dre' (id:=16) [0,2,6] (fun f=>bif bt f 4 then [.pv [.d (nodesD ns),.og 1 (0+(A names).count)],.gr 6 59 (((A names).on L).map Co.row) (0+(A names).count) false,.pv ((⟨20,a,b,c,num,text⟩:Nd).row.map .d),.pv [.d (dI 14),.d (dI (plc ((A names).on L))),.d (dI 0),.d (dI 0),.d (dI 0),.d (.nl 5)],.gr 1 9 (([]++(names.map txtRow))++[[dS text]]) 2 false] else bif bt f 2 then [.pv [.d (nodesD ns),.og 1 (0+(A names).count)],.gr 6 59 (((A names).on L).map Co.row) (0+(A names).count) false,.pv ((⟨20,a,b,c,num,text⟩:Nd).row.map .d),.pv [.d (dI 14),.d (dI (plc ((A names).on L))),.d (dI 0),.d (dI 0),.d (dI 0),.d (.nl 5)],.gr 1 9 ([]++(names.map txtRow)) 1 false] else bif bt f 1 then [.pv [.d (nodesD ns),.og 1 (0+(A names).count)],.gr 6 59 (((A names).on L).map Co.row) (0+(A names).count) false,.pv ((⟨20,a,b,c,num,text⟩:Nd).row.map .d),.pv [.d (dI 14),.d (dI (plc ((A names).on L))),.d (dI 0),.d (dI 0),.d (dI 0),.d (.nl 5)],.gr 1 9 [] 0 false] else [.pv [.d (nodesD ns),.og 1 (0+(A names).count)],.gr 6 59 (((A names).on L).map Co.row) (0+(A names).count) false,.pv ((⟨20,a,b,c,num,text⟩:Nd).row.map .d),.pv [.d (dI 14),.d (dI (plc ((A names).on L))),.d (dI 0),.d (dI 0),.d (dI 0),.d (.nl 5)]]) [(1,[0]),(0,[0,1]),(2,[1]),(0,[0,1,3]),(0,[0,1,3]),(0,[0,1,3]),(4,[3]),(0,[7])] [.pv [.d (nodesD ns),.og 1 (0+(A names).count)],.gr 6 59 (((A names).on L).map Co.row) (0+(A names).count) false,.pv ((⟨20,a,b,c,num,text⟩:Nd).row.map .d),.pv [.d (dI 14),.d (dI (plc ((A names).on L))),.d (dI 0),.d (dI 0),.d (dI 0),.d (.nl 5)],.gr 1 9 (([]++(names.map txtRow))++[[dS text]]) 2 false] ?_)|refine W.pubD 4 rfl ?_|refine WE.mkd (.og 4 0) ?_ (.c (OpS1.bsO rfl rfl rfl rfl rfl rfl rfl rfl rfl rfl rfl rfl) .n)|refine Z2 ?_|refine Z1 ?_|refine WG.loS rfl rfl (hA.2 names _ (by omega) (by(try simp only[Pt.on_length,tru_count,cv_count,lf_count,n1_count,n2_count,n3_count] at *);omega)) rfl rfl ?_|refine WG.loS rfl rfl (hB2 _ (by(try simp only[Pt.on_length,tru_count,cv_count,lf_count,n1_count,n2_count,n3_count] at *);omega)) rfl rfl ?_|refine WG.loS rfl rfl (putM2S (ns:=ns) (L:=L) ⟨14,0,0,0,((names.map txtRow).length:Nat),[]⟩ (A names) (B (names++[text])) (by(try simp only[Pt.on_length,tru_count,cv_count,lf_count,n1_count,n2_count,n3_count] at *);omega)) rfl rfl ?_|refine WG.c (E:=env) rfl rfl (hks) rfl rfl ?_|refine WG.c (E:=env) rfl rfl (hsm) rfl rfl ?_)
 refine W.ret ?_
 exact RetR.loS (.inl rfl) rfl rO rfl rfl rfl (by simp only[Pt.count,Pt.counts];omega) rfl
end
theorem l6One_leaf {ns:List Nd}{n:Nd}{k:Nat}{names:List ByteArray}{L:List Co}{X:Pt}(hk:k<ns.length)(hat:ns.getD k default=n)(har:arN n.op=0)
 (hleaf:FunQ env.P 61 [.lp 0 0,.d (.agg n.row),.d (namesD names)] (loS ns L 0) (just (.d (dI (plc (X.on L)))) (loS ns (X.on L) X.count))):
 FunQ env.P 19 [.lp 0 0,.d (dI k),.d (namesD names)] (loS ns L 0) (just (.d (dI (plc (X.on L)))) (loS ns (X.on L) X.count)):=by
 have hat':ns.getD (Int.toNat (k:Int)) default=n:=by simpa using hat
 have hks:Fun env.P 60 [dI n.op] (.d (dI 0)) []:=by have:=l5Kids_fn n.op;rw[har] at this;exact this
 refine FunQ.intro Tryz.func19 rfl (by kernel_rfl) rfl ?_
 unfold Go.Proofs.YtmmjbpgdkokjgaaGreatDoor.loS
 repeat(first|refine Z1 ?_)
 rw[hat']
 repeat'(first|refine Z3 ?_|refine WG.loS rfl rfl hleaf rfl rfl ?_|refine WG.c (E:=env) rfl rfl (hks) rfl rfl ?_)
 refine W.ret ?_
 exact RetR.loS (.inl rfl) rfl rO rfl rfl rfl (Nat.zero_add _) rfl
theorem l6One_fn {ns:List Nd}(hok: ∀j,j<ns.length→TdK ns j): ∀(f k:Nat),k<f→k<ns.length→GoL ns k (fun names=>lowP ns f k names) (cntT ns k)
 |0,k,h,_=>by omega
 |f+1,k,h,hk=>by
  have hn:=hok k hk
  have hce:=cntT_eq hn
  have hka:1≤arN (ns.getD k default).op→GoL ns (ns.getD k default).a (fun names=>lowP ns f (ns.getD k default).a.toNat names) (cntT ns (ns.getD k default).a.toNat):=fun h1=>by
   have:=hn.a h1
   have e:(((ns.getD k default).a.toNat:Nat):Int)=(ns.getD k default).a:=by omega
   have ih:=l6One_fn hok f (ns.getD k default).a.toNat (by omega) (by omega)
   rwa [e] at ih
  have hkb:2≤arN (ns.getD k default).op→GoL ns (ns.getD k default).b (fun names=>lowP ns f (ns.getD k default).b.toNat names) (cntT ns (ns.getD k default).b.toNat):=fun h1=>by
   have:=hn.b h1
   have e:(((ns.getD k default).b.toNat:Nat):Int)=(ns.getD k default).b:=by omega
   have ih:=l6One_fn hok f (ns.getD k default).b.toNat (by omega) (by omega)
   rwa [e] at ih
  have hkc:3≤arN (ns.getD k default).op→GoL ns (ns.getD k default).c (fun names=>lowP ns f (ns.getD k default).c.toNat names) (cntT ns (ns.getD k default).c.toNat):=fun h1=>by
   have:=hn.c h1
   have e:(((ns.getD k default).c.toNat:Nat):Int)=(ns.getD k default).c:=by omega
   have ih:=l6One_fn hok f (ns.getD k default).c.toNat (by omega) (by omega)
   rwa [e] at ih
  refine⟨fun names=>lowP_count hok (f+1) k names h hk,fun names L hnl hL=>?_⟩
  obtain⟨A,hA⟩: ∃A:List ByteArray→Pt,A=fun names=>lowP ns f (ns.getD k default).a.toNat names:=⟨_,rfl⟩
  obtain⟨B,hB⟩: ∃B:List ByteArray→Pt,B=fun names=>lowP ns f (ns.getD k default).b.toNat names:=⟨_,rfl⟩
  obtain⟨C,hC⟩: ∃C:List ByteArray→Pt,C=fun names=>lowP ns f (ns.getD k default).c.toNat names:=⟨_,rfl⟩
  have el:lowP ns (f+1) k names=lowB (ns.getD k default) names (A (inT (ns.getD k default) 0 names)) (B (inT (ns.getD k default) 1 names)) (C (inT (ns.getD k default) 2 names)):=by rw[hA,hB,hC];rfl
  show FunQ env.P 19 [.lp 0 0,.d (dI k),.d (namesD names)] (loS ns L 0) (just (.d (dI (plc ((lowP ns (f+1) k names).on L)))) (loS ns ((lowP ns (f+1) k names).on L) (lowP ns (f+1) k names).count))
  rw[el]
  rw[←hA] at hka
  rw[←hB] at hkb
  rw[←hC] at hkc
  have hop:=hn.op
  clear hn hA hB hC el
  generalize cntT ns k=ck at*
  generalize cntT ns (ns.getD k default).a.toNat=ca at*
  generalize cntT ns (ns.getD k default).b.toNat=cb at*
  generalize cntT ns (ns.getD k default).c.toNat=cc at*
  generalize hat:ns.getD k default=n at*
  obtain⟨op,a,b,c,num,text⟩:=n
  simp only at hop hce hka hkb hkc
  have:op=1∨op=2∨op=3∨op=4∨op=5∨op=6∨op=7∨op=8∨op=9∨op=10∨op=11∨op=12∨op=13∨op=14∨op=15∨op=16∨op=17∨op=18∨op=19∨op=20∨op=21∨op=22∨op=23∨op=24:=by omega
  rcases this with rfl|rfl|rfl|rfl|rfl|rfl|rfl|rfl|rfl|rfl|rfl|rfl|rfl|rfl|rfl|rfl|rfl|rfl|rfl|rfl|rfl|rfl|rfl|rfl
  ·have e:arN 1=0:=rfl
   exact l6One_leaf hk hat rfl (l6Leaf_1 (n:=⟨1,a,b,c,num,text⟩) rfl (by omega) (by omega))
  ·have e:arN 2=0:=rfl
   exact l6One_leaf hk hat rfl (l6Leaf_2 (n:=⟨2,a,b,c,num,text⟩) rfl (by omega) (by omega))
  ·have e:arN 3=0:=rfl
   exact l6One_leaf hk hat rfl (l6Leaf_3 (n:=⟨3,a,b,c,num,text⟩) rfl (by omega) (by omega))
  ·have e:arN 4=0:=rfl
   exact l6One_leaf hk hat rfl (l6Leaf_4 (n:=⟨4,a,b,c,num,text⟩) rfl (by omega) (by omega))
  ·have e:arN 5=2:=rfl
   rw[e] at hce
   simp at hce
   exact l6One_5 hk hat rfl (hka (by decide)) (hkb (by decide)) (by omega) (by omega)
  ·have e:arN 6=2:=rfl
   rw[e] at hce
   simp at hce
   exact l6One_6 hk hat rfl (hka (by decide)) (hkb (by decide)) (by omega) (by omega)
  ·have e:arN 7=2:=rfl
   rw[e] at hce
   simp at hce
   exact l6One_7 hk hat rfl (hka (by decide)) (hkb (by decide)) (by omega) (by omega)
  ·have e:arN 8=2:=rfl
   rw[e] at hce
   simp at hce
   exact l6One_8 hk hat rfl (hka (by decide)) (hkb (by decide)) (by omega) (by omega)
  ·have e:arN 9=2:=rfl
   rw[e] at hce
   simp at hce
   exact l6One_9 hk hat rfl (hka (by decide)) (hkb (by decide)) (by omega) (by omega)
  ·have e:arN 10=2:=rfl
   rw[e] at hce
   simp at hce
   exact l6One_10 hk hat rfl (hka (by decide)) (hkb (by decide)) (by omega) (by omega)
  ·have e:arN 11=2:=rfl
   rw[e] at hce
   simp at hce
   exact l6One_11 hk hat rfl (hka (by decide)) (hkb (by decide)) (by omega) (by omega)
  ·have e:arN 12=1:=rfl
   rw[e] at hce
   simp at hce
   exact l6One_12 hk hat rfl (hka (by decide)) (by omega) (by omega)
  ·have e:arN 13=1:=rfl
   rw[e] at hce
   simp at hce
   exact l6One_13 hk hat rfl (hka (by decide)) (by omega) (by omega)
  ·have e:arN 14=1:=rfl
   rw[e] at hce
   simp at hce
   exact l6One_14 hk hat rfl (hka (by decide)) (by omega) (by omega)
  ·have e:arN 15=0:=rfl
   exact l6One_leaf hk hat rfl (l6Leaf_15 (n:=⟨15,a,b,c,num,text⟩) rfl (by omega) (by omega))
  ·have e:arN 16=0:=rfl
   exact l6One_leaf hk hat rfl (l6Leaf_16 (n:=⟨16,a,b,c,num,text⟩) rfl (by omega) (by omega))
  ·have e:arN 17=2:=rfl
   rw[e] at hce
   simp at hce
   exact l6One_17 hk hat rfl (hka (by decide)) (hkb (by decide)) (by omega) (by omega)
  ·have e:arN 18=3:=rfl
   rw[e] at hce
   simp at hce
   exact l6One_18 hk hat rfl (hka (by decide)) (hkb (by decide)) (hkc (by decide)) (by omega) (by omega)
  ·have e:arN 19=3:=rfl
   rw[e] at hce
   simp at hce
   exact l6One_19 hk hat rfl (hka (by decide)) (hkb (by decide)) (hkc (by decide)) (by omega) (by omega)
  ·have e:arN 20=2:=rfl
   rw[e] at hce
   simp at hce
   exact l6One_20 hk hat rfl (hka (by decide)) (hkb (by decide)) (by omega) (by omega)
  ·have e:arN 21=0:=rfl
   exact l6One_leaf hk hat rfl (l6Leaf_21 (n:=⟨21,a,b,c,num,text⟩) rfl (by omega) (by omega))
  ·have e:arN 22=0:=rfl
   exact l6One_leaf hk hat rfl (l6Leaf_22 (n:=⟨22,a,b,c,num,text⟩) rfl (by omega) (by omega))
  ·have e:arN 23=1:=rfl
   rw[e] at hce
   simp at hce
   exact l6One_23 hk hat rfl (hka (by decide)) (by omega) (by omega)
  ·have e:arN 24=0:=rfl
   exact l6One_leaf hk hat rfl (l6Leaf_24 (n:=⟨24,a,b,c,num,text⟩) rfl (by omega) (by omega))
structure Stop (p:Prop):Prop where
 out:p
theorem W.stopAt {P:Program}{N:Nm}{l:List Oper}{b:Bool}{Q:Exit→St→Prop}{S:St}(id:Nat)(h:Stop (W P N (.region id l.toArray b) Q S)):W P N (.region id l.toArray b) Q S:=h.out
theorem WG.adoptPv {P:Program}{N:Nm}{G:List Nat}{ops lst:List Oper}{Q:Exit→St→Prop}{tm:Nat→T}{ob:List Ob}(l off:Nat)(e:TypeId){z:Nat}{cs:List T}(hl:ob[l]? =some (.pv cs))(ho:cs[off]? =some (.d (.nl z)))
 (h:WG G P N ops lst Q ⟨tm,ob.set l (.pv (cs.set off (.og ob.length 0)))++[.gr z e [] 0 false]⟩):WG G P N ops lst Q ⟨tm,ob⟩:=fun w0 σ0 a w g r=>by
 obtain⟨g',hle,I,ht⟩:=r.inv.adopt (by rw[r.hm];exact r.hl) z e
 have hlt:l<ob.length:=(List.getElem?_eq_some_iff.1 hl).1
 refine h w0 σ0 a w g' ⟨?_,r.defers,r.size,r.hm,by have:=r.hl;simp at this ⊢;omega,fun j=>(r.tm j).mono hle⟩
 have hl2:(ob++[Ob.gr z e [] 0 false])[l]? =some (.pv cs):=by rw[List.getElem?_append_left hlt];exact hl
 rw[←List.set_append_left _ _ hlt]
 obtain⟨h1,b,vs,e',h2,h3,h4,h5,h6,h7,h8⟩:=I.obs l _ hl2
 refine I.turn hl2 (fun _ _ _ _ h=>by cases h) (by omega) (Gh.le_refl g') rfl (fun _ _=>⟨rfl,rfl⟩) rfl rfl rfl (Nat.le_refl _) (fun _ _ _=>rfl) ⟨h1,b,vs,e',h2,h3,h4,by simpa using h5,fun i x u hx hu=>?_,h7,h8⟩ fun _ hb=>.inl hb
 by_cases hi:off=i
 ·subst hi
  have hlo:off<cs.length:=(List.getElem?_eq_some_iff.1 ho).1
  rw[List.getElem?_set_self hlo] at hx
  simp only[Option.some.injEq] at hx
  subst hx
  have:=(h6 off _ u ho hu).inv_d.inv_nl
  rw[this]
  exact ht
 ·rw[List.getElem?_set_ne hi] at hx
  exact h6 i x u hx hu
def lowT (ns:List Nd):Pt:=lowP ns ns.length (ns.length - 1) []
noncomputable def lowC (ns:List Nd):Int:=if scopeC ns=0 then(if 900<(lowT ns).count then 2 else 0) else scopeC ns
noncomputable def lowV (ns:List Nd):Int:=if scopeC ns=0 then 0 else scopeV ns
noncomputable def lowR (ns:List Nd):List Co:=if scopeC ns=0∧¬900<(lowT ns).count then(lowT ns).flat 0 else []
def crD (c v:Int)(rs:List Co):D:=.agg [dI c,dI v,coresD rs]
theorem scopeC_zero {ns:List Nd}(h:scopeC ns=0):treeM ns=0:=by
 unfold scopeC at h
 by_cases h0:treeM ns=0
 ·exact h0
 ·rw[if_neg h0] at h;exact h
theorem tdK_all {ns:List Nd}(h:treeM ns=0): ∀j,j<ns.length→TdK ns j:=fun j hj=>tdK_of (codeFrom_zero (treeM_ok h).2.1 j (by omega) (by omega))
theorem cntT_all {ns:List Nd}(h:treeM ns=0):cntT ns (ns.length - 1)=ns.length:=by
 unfold cntT
 rw[(treeM_ok h).2.2.1,List.length_range]
theorem LowerTreeS_fn (ns:List Nd)(hf:fitsT ns):Fun env.P 7 [nodesD ns] (.d (crD (lowC ns) (lowV ns) (lowR ns))) []:=by
 have hsf:=ScopeFaultS_fn ns hf
 unfold lowC lowV lowR
 by_cases h0:scopeC ns=0
 ·have ht:=scopeC_zero h0
  obtain⟨⟨h1,h2⟩,-⟩:=treeM_ok ht
  have hok:=tdK_all ht
  have hcn:=cntT_all ht
  have hone:=(l6One_fn hok ns.length (ns.length - 1) (by omega) (by omega)).2 [] [] (by rw[hcn];simp;omega) (by rw[hcn];simp;omega)
  have hcl:=lowP_count hok ns.length (ns.length - 1) [] (by omega) (by omega)
  have hlt:(fun names=>lowP ns ns.length (ns.length - 1) names) []=lowT ns:=rfl
  rw[hlt] at hone
  change (lowT ns).count≤_ at hcl
  have hfl:(lowT ns).on []=(lowT ns).flat 0:=by simp[Pt.on]
  have hlen:=Pt.flat_length (lowT ns) 0
  rw[hfl,show((ns.length - 1:Nat):Int)=((ns.map Nd.row).length:Int) - 1 by simp;omega] at hone
  change FunQ env.P 19 [.lp 0 0,.d (dI (((ns.map Nd.row).length:Int) - 1)),.d (.sl 1 [])] [.pv [.d (nodesD ns),.og 1 0],.gr 6 59 [] 0 false] (just _ [.pv [.d (nodesD ns),.og 1 (lowT ns).count],.gr 6 59 (((lowT ns).flat 0).map Co.row) (lowT ns).count false]) at hone
  rw[h0] at hsf ⊢
  simp only[true_and,if_true]
  generalize (lowT ns).flat 0=X at*
  generalize (lowT ns).count=cX at*
  generalize plc X=px at*
  have hXl:(X.map Co.row).length=cX:=by rw[List.length_map];exact hlen
  refine Fun.intro Tryz.func7 rfl (by kernel_rfl) rfl ?_
  repeat'(first|refine Z1 ?_|refine WG.c (E:=env) rfl rfl (hsf) rfl rfl ?_|((refine SP (fun h=>?_) fun h=>?_)<;>(try(exfalso;first|contradiction|omega))))
  all_goals first|(exfalso;omega)|skip
  refine WG.adoptPv 2 1 59 rfl rfl ?_
  repeat'(first|refine W.stopAt 6 ?_|refine Z1 ?_|(refine WG.cq (E:=env) (t':=.d (dI px)) (ob2:=[_,_,.pv [.d (nodesD ns),.og 3 (0+cX)],.gr 6 59 (X.map Co.row) (0+cX) false]) [2,3] [0,0] false rfl rfl hone rfl rfl rfl rfl rfl rfl rfl ⟨rfl,rfl,trivial⟩ (.inl rfl) rfl (fun h=>nomatch h) rfl rfl ?_)|fail|((refine SP (fun h=>?_) fun h=>?_)<;>(try(exfalso;first|contradiction|omega))))
  all_goals first|(exfalso;omega)|skip
  refine⟨?_⟩
  refine W.imp ((St.imp.rev 3 (0+cX) rfl).trans (St.imp.of_le (S':=⟨ofL [(0,.d (nodesD ns)),(2,.lp 0 0),(4,.lp 2 0)],[.pv [.d (dI 0),.d (dI 0),.d (.nl 6)],.pv [.d (dI 0),.d (dI (scopeV ns))],.pv [.d (nodesD ns),.og 3 0],.gr 6 59 (X.map Co.row) 0 false]⟩) (le_ofL rfl (by simp[revObs,Ob.rev,T.revL,T.rev,obsLe];exact⟨rfl,rfl,rfl,rfl,rfl,rfl,rfl⟩) (by(repeat(first|exact trivial|refine⟨⟨rfl,rfl⟩,?_⟩|refine⟨rfl,.inl rfl,?_⟩|refine⟨rfl,.inr rfl,?_⟩)))))) ?_
  refine W.pubD 3 rfl ?_
  repeat'(first|refine Z1 ?_|((refine SP (fun h=>?_) fun h=>?_)<;>(try(exfalso;first|contradiction|omega))))
  all_goals first|(exfalso;omega)|skip
  all_goals (refine W.ret ?_;(first|refine RetQ.d' ?_))
  ·rw[if_pos (by omega),if_neg (by omega)];rfl
  ·rw[if_neg (by omega),if_pos (by omega)];rfl
 ·rw[if_neg h0,if_neg h0,if_neg (fun h=>h0 h.1)]
  generalize scopeC ns=c at*
  generalize scopeV ns=v at*
  refine Fun.intro Tryz.func7 rfl (by kernel_rfl) rfl ?_
  repeat'(first|refine Z1 ?_|refine WG.c (E:=env) rfl rfl (hsf) rfl rfl ?_|((refine SP (fun h=>?_) fun h=>?_)<;>(try(exfalso;first|contradiction|omega))))
  all_goals first|(exfalso;omega)|skip
  (refine W.ret ?_;(first|refine RetQ.d' ?_))
  rfl
theorem okText_small {t:ByteArray}(h:okText t=true):t.size≤60:=by
 unfold okText at h
 rw[Bool.and_eq_true,decide_eq_true_eq] at h
 exact h.2
theorem cellCode_small {c:Cell}(h:cellCode c=0):c.text.size≤60∧c.key.size≤60:=by
 unfold cellCode at h
 split at h
 ·exact absurd h (by decide)
 split at h
 ·exact absurd h (by decide)
 split at h
 ·exact absurd h (by decide)
 split at h
 ·exact absurd h (by decide)
 rename_i h1
 simp only[Bool.or_eq_true,Bool.not_eq_true',not_or,Bool.not_eq_false] at h1
 exact⟨okText_small h1.1,okText_small h1.2⟩
theorem val_fine {cs:List Cell}(h:(valOfM cs).2=0):(∀c∈cs,c.text.size≤1048576∧c.key.size≤1048576)∧cs.length≤1048576:=by
 obtain⟨_,_,h1,h2⟩:=valOfM_kind h
 refine⟨fun c hc=>?_,by omega⟩
 obtain⟨i,hi,rfl⟩:=List.getElem_of_mem hc
 have:=cellCode_small (cellsCode_kind h2 i hi)
 rw[show cs.getD i default=cs[i] by simp[hi]] at this
 omega
theorem fair_fine {n:Co}(h:n.fair)(es:List Int):(n.put es).fine:=by
 obtain⟨_,_,_,h4,_⟩:=h
 have e:(n.put es).val=n.val:=rfl
 unfold Co.fine
 rw[e]
 split at h4
 ·exact val_fine h4.1
 ·rw[h4];exact⟨(fun c hc=>by cases hc),Nat.zero_le _⟩
mutual
theorem Pt.fine_flat : ∀(p:Pt) (b:Nat),p.fair→ ∀n∈p.flat b,n.fine
 |.mk n kids,b,h,x,hx=>by
  simp only[Pt.flat,List.mem_append,List.mem_singleton] at hx
  rcases hx with hx|rfl
  ·exact Pt.fine_flats kids b h.2 x hx
  ·exact fair_fine h.1 _
theorem Pt.fine_flats : ∀(l:List Pt) (b:Nat),Pt.fairs l→ ∀n∈Pt.flats l b,n.fine
 |[],b,h,x,hx=>by cases hx
 |p::r,b,h,x,hx=>by
  simp only[Pt.flats,List.mem_append] at hx
  rcases hx with hx|hx
  ·exact Pt.fine_flat p b h.1 x hx
  ·exact Pt.fine_flats r _ h.2 x hx
end
theorem scope_zero {ns:List Nd}(h:scopeC ns=0):badM ns ns.length (ns.length - 1) []=[]:=by
 have ht:=scopeC_zero h
 unfold scopeC at h
 rw[if_pos ht] at h
 split at h
 ·exact absurd h (by decide)
 ·rename_i h1
  exact headI_nil h1
theorem lowers_ok {ns:List Nd}(h:scopeC ns=0)(hc:¬900<(lowT ns).count):coreM ((lowT ns).flat 0)=0∧maxK pS ((lowT ns).flat 0)≤((varsL ns).length:Int)*30∧fitsK ((lowT ns).flat 0):=by
 have ht:=scopeC_zero h
 obtain⟨⟨h1,h2⟩,-,-,h4⟩:=treeM_ok ht
 have hok:=tdK_all ht
 have hb:=scope_zero h
 have hv:varsL ns=gI (varP ns) ns.length:=by unfold varsL;rw[if_pos ht]
 have hp:=lowP_ok hok (fun op num=>op=14∨op=13→num+1≤((varsL ns).length:Int)*30) (fun op num a b h=>by omega) (fun k hk hop op m hm _=>by
  have hin:(ns.getD k default).text∈varsL ns:=by
   rw[hv]
   refine(gI_mem _ _ _).2 ⟨k,hk,?_⟩
   unfold varP
   rw[if_pos (by omega)]
  have:=List.length_pos_of_mem hin
  omega) ns.length (ns.length - 1) [] (by omega) (by omega) hb (by simp;omega)
 have hl:=Pt.flat_length (lowT ns) 0
 refine⟨Pt.coreM_flat _ hp.wf hp.fair hp.bnd (by omega) (by have:=hp.deep;show(lowT ns).depth≤120;change (lowT ns).depth≤_ at this;omega),?_,Pt.fine_flat _ _ hp.fair,by rw[hl];omega⟩
 refine(maxK_le _ _ _).2 ⟨by omega,fun n hn hps=>?_⟩
 exact Pt.all_flat _ _ hp.all n hn (by simpa [pS] using hps)
end Go.Proofs.YtmmjbpgdkokjgaaGreatDoor
