/-
  A text of this claim. Conditions: none.
-/
import Derived.Test.YtmmjbpgdkokjgaaGreatDoorProg
import Derived.Tactics
import Derived.Tactics2
import Derived.Defers
import Derived.Laws.Pointers
import Derived.Laws.LoneSync
import Derived.RegionTactic
import Derived.RegionCalls
import Derived.ChangeAlike
set_option linter.unusedVariables false
set_option linter.unusedSimpArgs false
set_option maxRecDepth 100000
set_option maxHeartbeats 16000000
namespace Go.Proofs.YtmmjbpgdkokjgaaGreatDoor
theorem race0 (w:World):(callFunc 214 #[]).run Tryz.prog w=.ok (.value (.tuple #[])) w:=run_call_mark0 Tryz.func214 (by kernel_rfl) (by kernel_rfl) (by kernel_rfl) .disable (by kernel_rfl) w
theorem race1 (w:World):(callFunc 216 #[]).run Tryz.prog w=.ok (.value (.tuple #[])) w:=run_call_mark0 Tryz.func216 (by kernel_rfl) (by kernel_rfl) (by kernel_rfl) .enable (by kernel_rfl) w
theorem race2 (a:Addr)(w:World):(callFunc 217 #[.pointer (some a)]).run Tryz.prog w=.ok (.value (.tuple #[])) w:=run_call_marked Tryz.func217 (by kernel_rfl) (by kernel_rfl) (by kernel_rfl) .acquire (by kernel_rfl) a w
theorem race3 (a:Addr)(w:World):(callFunc 219 #[.pointer (some a)]).run Tryz.prog w=.ok (.value (.tuple #[])) w:=run_call_marked Tryz.func219 (by kernel_rfl) (by kernel_rfl) (by kernel_rfl) .releaseMerge (by kernel_rfl) a w
theorem store_deferred (a:Addr)(x:Value)(u:FrameMode)(w:World)(hc:w.cell? a=some x)(hz:w.frozen? a=false):
 CallsD Tryz.prog 205 #[.pointer (some a),.bool true] u w fun e u' w'=>u'=u∧(e=.returned (.tuple #[])∧w'=w.drew.setCell a (.int .u32 1)):=by
 have hc':w.drew.cell? a=some x:=by go_simp
 have hz':w.drew.frozen? a=false:=by go_simp
 have hst:=run_call_store (P:=Tryz.prog) Tryz.func210 (by kernel_rfl) (by kernel_rfl) (by kernel_rfl) (by kernel_rfl) (k:=.u32) (y:=1) hc' hz'
 go_enter_d Tryz.func205,Tryz.ntmps205
 go_wp2
 go_region_calls
 all_goals (go_end0;exact⟨rfl,rfl⟩)
theorem unlock_deferred (a:Addr)(u:FrameMode)(w:World)(hc:w.cell? a=some (.int .i32 1))(hz:w.frozen? a=false):
 CallsD Tryz.prog 204 #[.pointer (some a)] u w fun e u' w'=>u'=u∧(e=.returned (.tuple #[])∧w'=w.setCell a (.int .i32 0)):=by
 have hd:=race0
 have he:=race1
 have hr:=race3
 have hadd:=run_call_add (P:=Tryz.prog) Tryz.func220 (by kernel_rfl) (by kernel_rfl) (by kernel_rfl) .i32 (by kernel_rfl) (y:= -1) (s:=0) hc hz (by simp[go_sem];rfl)
 have hcv:=run_convert_to_unsafe (P:=Tryz.prog) (src:=264) (dst:=178) Tryz.underlying264 Tryz.underlying178 (by kernel_rfl) hc
 go_enter_d Tryz.func204,Tryz.ntmps204
 go_wp2
 go_end0
 go_wp2
 go_end0
 exact⟨rfl,rfl⟩
theorem lock_free (a:Addr)(w:World)(hc:w.cell? a=some (.int .i32 0))(hz:w.frozen? a=false):
 Calls Tryz.prog 203 #[.pointer (some a)] w fun e w'=>e=.returned (.tuple #[])∧w'=w.setCell a (.int .i32 1):=by
 have hd:=race0
 have he:=race1
 have ha:=race2
 have hcas:=run_call_cas_hit (P:=Tryz.prog) Tryz.func215 (by kernel_rfl) (by kernel_rfl) (by kernel_rfl) .i32 (by kernel_rfl) (y:=1) hc hz
 have hc':(w.setCell a (.int .i32 1)).cell? a=some (.int .i32 1):=World.cell?_setCell_same w a _ hc
 have hcv:=run_convert_to_unsafe (P:=Tryz.prog) (src:=264) (dst:=178) Tryz.underlying264 Tryz.underlying178 (by kernel_rfl) hc'
 go_enter Tryz.func203,Tryz.ntmps203
 go_wp2
 first|go_end0|(simp only[Exit.inBlock,Exit.then];refine bodyPost_ret (results_none rfl _ _ _) rfl ?_)|refine bodyPost_ret (results_none rfl _ _ _) rfl ?_
 go_wp2
 go_end0
 exact⟨rfl,rfl⟩
theorem load_flag (a:Addr)(d:Int)(w:World)(h0:w.cell? a=some (.int .u32 d)):
 Calls Tryz.prog 198 #[.pointer (some a)] w fun e w'=>e=.returned (.bool (d != 0))∧w'=w:=by
 have hl:=run_call_load (P:=Tryz.prog) Tryz.func202 (by kernel_rfl) (by kernel_rfl) (by kernel_rfl) .u32 (by kernel_rfl) h0
 go_enter Tryz.func198,Tryz.ntmps198
 go_wp2
 go_ret
 exact⟨rfl,rfl⟩
set_option maxRecDepth 100000 in
theorem slow_raw (b:Nat)(recv:Value)(w:World)(Post:World→Prop)(h0:w.cell? ⟨b,0,none⟩=some (.int .u32 0))(h1:w.cell? ⟨b,1,none⟩=some (.int .i32 0))(f0:w.frozen? ⟨b,0,none⟩=false)(f1:w.frozen? ⟨b,1,none⟩=false)
 (hf:Calls Tryz.prog 189 #[recv] (w.setCell ⟨b,1,none⟩ (.int .i32 1)) fun e w'=>e=.returned (.tuple #[])∧Post w')
 (hp: ∀w',Post w'→w'.cell? ⟨b,0,none⟩=some (.int .u32 0)∧w'.cell? ⟨b,1,none⟩=some (.int .i32 1)∧w'.frozen? ⟨b,0,none⟩=false∧w'.frozen? ⟨b,1,none⟩=false):
 Calls Tryz.prog 199 #[.pointer (some ⟨b,0,none⟩),.func (.func 189) #[recv] #[]] w fun e w'=>e=.returned (.tuple #[])∧ ∃w2,Post w2∧w'=(w2.drew.setCell ⟨b,0,none⟩ (.int .u32 1)).setCell ⟨b,1,none⟩ (.int .i32 0):=by
 have h01:(w.setCell ⟨b,1,none⟩ (.int .i32 1)).cell? ⟨b,0,none⟩=some (.int .u32 0):=(World.cell?_setCell_other _ ⟨b,1,none⟩ ⟨b,0,none⟩ _ (by simp)).trans h0
 have hnot: ∀(x:Bool) (w:World),(Op.unary .not (.bool x)).run Tryz.prog w=.ok (.bool (!x)) w:=fun _ _=>rfl
 go_enter_defers Tryz.func199,Tryz.ntmps199
 go_wp2_with (first
  |(go_at_call 203;refine(lock_free ⟨b,1,none⟩ _ h1 f1).mono ?_;rintro e w' ⟨rfl,rfl⟩)
  |(go_at_call 198;refine(load_flag ⟨b,0,none⟩ 0 _ h01).mono ?_;rintro e w' ⟨rfl,rfl⟩)
  |(go_at_call 189;refine hf.mono ?_;rintro e w' ⟨rfl,hw⟩;obtain⟨p0,p1,p2,p3⟩:=hp _ hw))
 refine leaves_cons (f:=205) (args:= #[.pointer (some ⟨b,0,none⟩),.bool true]) (by simp) (by simp[go_sem]) ?_
 refine(store_deferred ⟨b,0,none⟩ (.int .u32 0) .returning _ p0 p2).mono ?_
 rintro e u' w'' ⟨rfl,rfl,rfl⟩
 refine leaves_cons (f:=204) (args:= #[.pointer (some ⟨b,1,none⟩)]) (by simp[settle]) (by simp[go_sem]) ?_
 refine(unlock_deferred ⟨b,1,none⟩ _ _ ?_ (by simp[p3])).mono ?_
 ·exact(World.cell?_setCell_other _ ⟨b,0,none⟩ ⟨b,1,none⟩ _ (by simp)).trans p1
 rintro e u' w'' ⟨rfl,rfl,rfl⟩
 simp[Leaves,settle,results,Tryz.results199]
 exact⟨_,hw,rfl⟩
set_option maxRecDepth 100000 in
theorem do_raw (b:Nat)(recv:Value)(w:World)(Post:World→Prop)(h0:w.cell? ⟨b,0,none⟩=some (.int .u32 0))(h1:w.cell? ⟨b,1,none⟩=some (.int .i32 0))(f0:w.frozen? ⟨b,0,none⟩=false)(f1:w.frozen? ⟨b,1,none⟩=false)
 (hf:Calls Tryz.prog 189 #[recv] (w.setCell ⟨b,1,none⟩ (.int .i32 1)) fun e w'=>e=.returned (.tuple #[])∧Post w')
 (hp: ∀w',Post w'→w'.cell? ⟨b,0,none⟩=some (.int .u32 0)∧w'.cell? ⟨b,1,none⟩=some (.int .i32 1)∧w'.frozen? ⟨b,0,none⟩=false∧w'.frozen? ⟨b,1,none⟩=false):
 Calls Tryz.prog 188 #[.pointer (some ⟨b,0,none⟩),.func (.func 189) #[recv] #[]] w fun e w'=>e=.returned (.tuple #[])∧ ∃w2,Post w2∧w'=(w2.drew.setCell ⟨b,0,none⟩ (.int .u32 1)).setCell ⟨b,1,none⟩ (.int .i32 0):=by
 have hnot: ∀(x:Bool) (w:World),(Op.unary .not (.bool x)).run Tryz.prog w=.ok (.bool (!x)) w:=fun _ _=>rfl
 go_enter Tryz.func188,Tryz.ntmps188
 go_wp2_with (first
  |(go_at_call 198;refine(load_flag ⟨b,0,none⟩ 0 _ h0).mono ?_;rintro e w' ⟨rfl,rfl⟩)
  |(go_at_call 199;refine(slow_raw b recv _ Post h0 h1 f0 f1 hf hp).mono ?_;rintro e w' ⟨rfl,w2,hw2,rfl⟩))
 go_end0
 exact⟨rfl,w2,hw2,rfl⟩
set_option maxRecDepth 100000 in
theorem method_bsr (recv:Value)(w:World):(Go.method (Tryz.prog.types.size+Made.depth) 249 recv "Replace").run Tryz.prog w=.ok (258,recv) w:=by kernel_rfl
theorem call_bsr (v:Value)(s:ByteArray)(w:World):(callMethod (.iface 249 v) "Replace" #[.string s]).run Tryz.prog w=.ok (.enter 258 #[v,.string s]) w:=by
 have hm:=method_bsr v w
 have he:(callFunc 258 #[v,.string s]).run Tryz.prog w=.ok (.enter 258 #[v,.string s]) w:=by kernel_rfl
 unfold callMethod
 simp only[Sem.run_bind,run_program,Result.andThen_ok,hm]
 exact he
set_option maxRecDepth 100000 in
theorem replace_raw (b:Nat)(s q:ByteArray)(w:World)(Post Fin:World→Prop)(h0:w.cell? ⟨b,0,none⟩=some (.int .u32 0))(h1:w.cell? ⟨b,1,none⟩=some (.int .i32 0))(f0:w.frozen? ⟨b,0,none⟩=false)(f1:w.frozen? ⟨b,1,none⟩=false)
 (hf:Calls Tryz.prog 189 #[.pointer (some ⟨b,0,none⟩)] (w.setCell ⟨b,1,none⟩ (.int .i32 1)) fun e w'=>e=.returned (.tuple #[])∧Post w')
 (hp: ∀w',Post w'→w'.cell? ⟨b,0,none⟩=some (.int .u32 0)∧w'.cell? ⟨b,1,none⟩=some (.int .i32 1)∧w'.frozen? ⟨b,0,none⟩=false∧w'.frozen? ⟨b,1,none⟩=false)
 (hr: ∀w2,Post w2→ ∃c:Nat,((w2.drew.setCell ⟨b,0,none⟩ (.int .u32 1)).setCell ⟨b,1,none⟩ (.int .i32 0)).cell? ⟨b,3,none⟩=some (.iface 249 (.pointer (some ⟨c,0,none⟩)))∧
   Calls Tryz.prog 258 #[.pointer (some ⟨c,0,none⟩),.string s] ((w2.drew.setCell ⟨b,0,none⟩ (.int .u32 1)).setCell ⟨b,1,none⟩ (.int .i32 0)) fun e w'=>e=.returned (.string q)∧Fin w'):
 Calls Tryz.prog 173 #[.pointer (some ⟨b,0,none⟩),.string s] w fun e w'=>e=.returned (.string q)∧Fin w':=by
 have hmf: ∀(fn:Fn) (first cap:Array Value) (w:World),(Instr.makeFunc fn first cap).run Tryz.prog w=.ok (.func fn first cap) w:=fun _ _ _ _=>rfl
 have hcb:=call_bsr
 go_enter Tryz.func173,Tryz.ntmps173
 go_wp2_with (first
  |(go_at_call 188;refine(do_raw b _ _ Post h0 h1 f0 f1 hf hp).mono ?_;rintro e w' ⟨rfl,w2,hw2,rfl⟩;obtain⟨c,hc,hcall⟩:=hr _ hw2)
  |(go_at_call 258;refine hcall.mono ?_;rintro e w' ⟨rfl,hw⟩))
 go_ret
 exact⟨rfl,hw⟩
end Go.Proofs.YtmmjbpgdkokjgaaGreatDoor
