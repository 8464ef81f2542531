/-
  strings.Replacer.Replace at its first call. Conditions: what the built replacer does is known.
-/
import Derived.Test.YthaakpbdijhgiaaGreatDoorQTokensOn0
import Derived.Test.YthaakpbdijhgiaaGreatDoorQTokensOn4
import Derived.Test.YthaakpbdijhgiaaGreatDoorQTokensOn7
set_option linter.unusedVariables false
set_option linter.unusedSimpArgs false
set_option maxRecDepth 100000
namespace Go.Proofs.YthaakpbdijhgiaaGreatDoor
open Go.RowKit

abbrev tBSR : TypeId := 145

theorem entersO {P : Program} {f : FuncId} {fn : Func} {c : Code} (hf : P.funcs[f]? = some fn) (hb : fn.body = some c) (hname : (fn.name == "runtime.NumGoroutine") = false) (vals : Array Value) (w : World) :
    (callFunc f vals).run P w = .ok (.enter f vals) w := by
  unfold callFunc
  simp only [Sem.run_bind, run_program, Result.andThen_ok, hf, hname, hb, Bool.false_eq_true, if_false, Option.isNone_some, Sem.run_pure]

theorem Replace_fn (s q : ByteArray) (h79 : FunQ env.P 158 [.lp 1 0, .d (dS s)] [.pv (replR 1 0 (.ifc tBSR (.lp 1 0)) (.d (.nl 1))), .pv bsrR] (just (.d (dS q)) [.pv (replR 1 0 (.ifc tBSR (.lp 1 0)) (.d (.nl 1))), .pv bsrR])) :
    FunQ env.P 45 [.lp 0 0, .d (dS s)] [.pv (replR 0 0 (.d (.v .nilIface)) (.d (.sl 1 oldnewR)))] (just (.d (dS q)) [.pv (replR 1 0 (.ifc tBSR (.lp 1 0)) (.d (.nl 1))), .pv bsrR]) := by
  refine ⟨entersO Tryz.func45 (c := _) rfl (by kernel_rfl), fun w g vals hI hl hr => ?_⟩
  match vals, hl with
  | [v0, v1], _ =>
  obtain ⟨b, hb0, hγ, hv0⟩ := (hr 0 (.lp 0 0) v0 rfl rfl).inv_lp
  have hv1 : v1 = .string s := (hr 1 (.d (dS s)) v1 rfl rfl).inv_v
  subst hv0; subst hv1
  let R0 : List T := replR 0 0 (.d (.v .nilIface)) (.d (.sl 1 oldnewR))
  let R1 : List T := replR 0 1 (.d (.v .nilIface)) (.d (.sl 1 oldnewR))
  let R2 : List T := replR 0 1 (.ifc tBSR (.lp 1 0)) (.d (.nl 1))
  let R3 : List T := replR 1 0 (.ifc tBSR (.lp 1 0)) (.d (.nl 1))
  obtain ⟨u0, c0, r0, f0⟩ := hI.cellV (l := 0) (cs := R0) rfl hγ (i := 0) rfl
  obtain ⟨u1, c1, r1, f1⟩ := hI.cellV (l := 0) (cs := R0) rfl hγ (i := 1) rfl
  have e0 := r0.inv_v
  have e1 := r1.inv_v
  subst e0; subst e1
  have I1 : Inv w (baseOf [.pv R0] g) [.pv R1] (w.setCell ⟨b, 1, none⟩ (.int .i32 1)) g := hI.setCell (l := 0) (i := 1) (cs := R0) (t := .d (.v (.int .i32 1))) rfl hγ (by decide) (.d _ _ (.v _)) rfl
  let Post : World → Prop := fun w2 => ∃ g2, Inv (w.setCell ⟨b, 1, none⟩ (.int .i32 1)) (baseOf [.pv R1] g) [.pv R2, .pv bsrR] w2 g2
  have hγ2 : ∀ {w2 g2}, Inv (w.setCell ⟨b, 1, none⟩ (.int .i32 1)) (baseOf [.pv R1] g) [.pv R2, .pv bsrR] w2 g2 → g2.γ 0 0 = .pointer (some ⟨b, 0, none⟩) := fun {w2 g2} J => by
    obtain ⟨hlim, _⟩ := J.obs 0 _ rfl
    rcases J.ext 0 (by show 0 < 1; omega) with h | h
    · omega
    · rw [h]
      exact hγ
  have hf : Calls env.P 68 #[.pointer (some ⟨b, 0, none⟩)] (w.setCell ⟨b, 1, none⟩ (.int .i32 1)) fun e w' => e = .returned (.tuple #[]) ∧ Post w' := by
    refine (buildOnce_fn.calls _ g [.pointer (some ⟨b, 0, none⟩)] I1.restart rfl fun i x u hx hu => ?_).mono fun e w' ⟨v, t, ob', g', he, ⟨h1, h2⟩, J, hv⟩ => ?_
    · match i with
      | 0 =>
        simp at hx hu
        subst hx; subst hu
        exact .lp 0 0 b hb0 hγ
      | i + 1 => simp at hx
    · subst h1; subst h2
      obtain ⟨vs, hvv, hvl, _⟩ := hv.inv_tup
      have : vs = [] := List.length_eq_zero_iff.1 hvl.symm
      subst this
      exact ⟨by rw [he, hvv], g', J⟩
  have hp : ∀ w', Post w' → w'.cell? ⟨b, 0, none⟩ = some (.int .u32 0) ∧ w'.cell? ⟨b, 1, none⟩ = some (.int .i32 1) ∧ w'.frozen? ⟨b, 0, none⟩ = false ∧ w'.frozen? ⟨b, 1, none⟩ = false := fun w' ⟨g2, J⟩ => by
    obtain ⟨u0, c0, r0, f0⟩ := J.cellV (l := 0) (cs := R2) rfl (hγ2 J) (i := 0) rfl
    obtain ⟨u1, c1, r1, f1⟩ := J.cellV (l := 0) (cs := R2) rfl (hγ2 J) (i := 1) rfl
    have e0 := r0.inv_v
    have e1 := r1.inv_v
    subst e0; subst e1
    exact ⟨c0, c1, f0, f1⟩
  refine (replace_raw b s q w Post (fun w4 => ∃ g4, Inv w (baseOf [.pv R0] g) [.pv R3, .pv bsrR] w4 g4) c0 c1 f0 f1 hf hp fun w2 ⟨g2, J⟩ => ?_).mono fun e w' ⟨he, g4, K⟩ => ⟨_, _, _, g4, he, ⟨rfl, rfl⟩, K, .d _ _ (.v _)⟩
  have hg := hγ2 J
  have K0 : Inv w (baseOf [.pv R0] g) [.pv R2, .pv bsrR] w2 g2 := I1.after J (Nat.le_refl _) fun k hk => rfl
  have K1 : Inv w (baseOf [.pv R0] g) [.pv (R2.set 0 (.d (.v (.int .u32 1)))), .pv bsrR] (w2.drew.setCell ⟨b, 0, none⟩ (.int .u32 1)) g2 := K0.drew.setCell (l := 0) (i := 0) (cs := R2) (t := .d (.v (.int .u32 1))) rfl hg (by decide) (.d _ _ (.v _)) rfl
  have K2 : Inv w (baseOf [.pv R0] g) [.pv R3, .pv bsrR] ((w2.drew.setCell ⟨b, 0, none⟩ (.int .u32 1)).setCell ⟨b, 1, none⟩ (.int .i32 0)) g2 := K1.setCell (l := 0) (i := 1) (cs := R2.set 0 (.d (.v (.int .u32 1)))) (t := .d (.v (.int .i32 0))) rfl hg (by decide) (.d _ _ (.v _)) rfl
  obtain ⟨u3, c3, r3, f3⟩ := K2.cellV (l := 0) (cs := R3) rfl hg (i := 3) rfl
  obtain ⟨c, hc0, hcγ, hu3⟩ : ∃ c, 0 < g2.lim 1 ∧ g2.γ 1 0 = .pointer (some ⟨c, 0, none⟩) ∧ u3 = .iface tBSR (.pointer (some ⟨c, 0, none⟩)) := by
    cases r3 with
    | ifc _ _ u h =>
      obtain ⟨c, h1, h2, h3⟩ := h.inv_lp
      exact ⟨c, h1, h2, by rw [h3]⟩
  subst hu3
  refine ⟨c, c3, (h79.calls _ g2 [.pointer (some ⟨c, 0, none⟩), .string s] K2.restart rfl fun i x u hx hu => ?_).mono fun e w' ⟨v, t, ob', g', he, ⟨h1, h2⟩, M, hv⟩ => ?_⟩
  · match i with
    | 0 =>
      simp at hx hu
      subst hx; subst hu
      exact .lp 1 0 c hc0 hcγ
    | 1 =>
      simp at hx hu
      subst hx; subst hu
      exact .d _ _ (.v _)
    | i + 2 => simp at hx
  · subst h1; subst h2
    refine ⟨by rw [he, hv.inv_v], g', K2.after M (by simp) fun k hk => ?_⟩
    have : k = 0 := by simp at hk; omega
    subst this
    rw [hg, hγ]

end Go.Proofs.YthaakpbdijhgiaaGreatDoor
