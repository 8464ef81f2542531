/-
  slices.Grow of nothing, and slices.Concat. Conditions: none.
-/
import Derived.Shelf.Spec.SlicesGrow
import Derived.Test.YtlegadpbjccelaaQAddAllOr1
import Derived.Test.YtlegadpbjccelaaQAddAllV3
import Derived.Test.YtlegadpbjccelaaQAddAllSo1
import Derived.Test.YtlegadpbjccelaaQAddAllPgE
set_option linter.unusedVariables false
set_option linter.unusedSimpArgs false
set_option maxRecDepth 100000
namespace Go.Proofs.Ytlegadpbjccelaa
open Go.RowKit Go.Shelf

def growS_ren : Go.Shelf.Ren := ⟨fun | 4 => 303 | n => n, fun | 22 => 68 | 25 => 9 | 3 => 3 | 4 => 4 | 9 => 9 | 20 => 20 | 0 => 0 | n => n, fun n => n⟩
theorem growS_lay : Lays8.n4 Try.prog growS_ren := {
  mixed := by kernel_rfl, f4 := ⟨"slices.Grow[[]string,string]", by decide, Try.func303.trans (congrArg some (by kernel_rfl))⟩,
  t0 := Try.underlying0, a0 := Try.isAgg0, z0 := Try.sizeOf0, v0 := Try.zeroValue0, t3 := Try.underlying3, a3 := Try.isAgg3, z3 := Try.sizeOf3, v3 := Try.zeroValue3,
  t4 := Try.underlying4, a4 := Try.isAgg4, z4 := Try.sizeOf4, v4 := Try.zeroValue4, t9 := Try.underlying9, a9 := Try.isAgg9, z9 := Try.sizeOf9, v9 := Try.zeroValue9,
  t20 := Try.underlying20, a20 := Try.isAgg20, z20 := Try.sizeOf20, v20 := Try.zeroValue20, t22 := Try.underlying68, a22 := Try.isAgg68, z22 := Try.sizeOf68, v22 := Try.zeroValue68 }

def growV_ren : Go.Shelf.Ren := ⟨fun | 4 => 302 | n => n, fun | 22 => 110 | 25 => 112 | 3 => 3 | 4 => 4 | 9 => 9 | 20 => 20 | 0 => 0 | n => n, fun n => n⟩
theorem growV_lay : Lays8.n4 Try.prog growV_ren := {
  mixed := by kernel_rfl, f4 := ⟨"slices.Grow[[]loop.example/g00166/impl.val,loop.example/g00166/impl.val]", by decide, Try.func302.trans (congrArg some (by kernel_rfl))⟩,
  t0 := Try.underlying0, a0 := Try.isAgg0, z0 := Try.sizeOf0, v0 := Try.zeroValue0, t3 := Try.underlying3, a3 := Try.isAgg3, z3 := Try.sizeOf3, v3 := Try.zeroValue3,
  t4 := Try.underlying4, a4 := Try.isAgg4, z4 := Try.sizeOf4, v4 := Try.zeroValue4, t9 := Try.underlying9, a9 := Try.isAgg9, z9 := Try.sizeOf9, v9 := Try.zeroValue9,
  t20 := Try.underlying20, a20 := Try.isAgg20, z20 := Try.sizeOf20, v20 := Try.zeroValue20, t22 := Try.underlying110, a22 := Try.isAgg110, z22 := Try.sizeOf110, v22 := Try.zeroValue110 }

/-- Room for n elements is made: nothing lies in it yet. -/
theorem Fun.grows {E : Env} {ρ : Go.Shelf.Ren} {z : Nat} {e : TypeId} (L : Lays8.n4 E.P ρ) (he : ρ.t 25 = e) (hk : (E.ty e).known = true) (hz : (E.ty e).size = z) (hz0 : 0 < z) (hby : (E.ty e).bytes ≤ 100)
    (hen : ∀ (vals : Array Value) (w : World), (callFunc (ρ.f 4) vals).run E.P w = .ok (.enter (ρ.f 4) vals) w) (n : Nat) (hn : n ≤ 1048576) : Fun E.P (ρ.f 4) [.nl z, .v (.int .i64 n)] (.og 0 0) [.gr z e [] 0 false] := by
  refine ⟨hen, fun w g vals I hl hr => ?_⟩
  match vals, hl with
  | [u0, u1], _ =>
    have h0 : u0 = .slice none 0 0 := by
      have := (hr 0 (.d (.nl z)) u0 rfl rfl).inv_d
      cases this
      rfl
    have h1 : u1 = .int .i64 n := (hr 1 (.d (.v (.int .i64 n))) u1 rfl rfl).inv_v
    subst h0 h1
    obtain ⟨inf, zz, hinf, hsz, hbb, hzz, _, hzc⟩ := E.info hk
    by_cases hp : n = 0
    · subst hp
      refine (Any8.slices_Grow_room L none 0 0 0 w (Nat.le_refl _) (by omega) (by omega) (by omega)).mono fun e' w' ⟨h1, h2⟩ => ?_
      subst h2
      obtain ⟨g', hle, I', ht⟩ := I.addGr (Nat.zero_le _) (Below.refl _ _) z e [] (.slice none 0 0) [] ⟨by simp, .inl ⟨rfl, rfl⟩⟩ (fun r hr => by simp at hr) (fun i j r x h => by simp at h) (fun u hu => by simp at hu)
      exact ⟨_, _, _, g', h1, ⟨rfl, rfl⟩, I', ht⟩
    · have hmul : (0 + n) * inf.bytes ≤ 140737488355328 := by
        have : (0 + n) * inf.bytes ≤ 1048576 * 100 := Nat.mul_le_mul (by omega) (by omega)
        omega
      refine (Any8.slices_Grow_grow L inf zz (by rw [he]; exact hinf) hzz (by omega) none 0 0 n [] w (Nat.le_refl _) (by omega) hmul (by omega) (by simp) (fun _ => rfl) (fun a h => by cases h)).mono fun e' w' ⟨h1, h2⟩ => ?_
      subst h2
      have hge := grownCap_ge w (0 + n) 0 (ρ.t 25)
      have hle := grownCap_le_maxLen w (0 + n) 0 (ρ.t 25) (by simp only [maxLen]; omega)
      have hnew := heap_alloc_new w.drew (.cells (([] : List Value).toArray ++ Builtin.zeroCells zz.cells (0 + n - 0) ++ Builtin.zeroCells zz.cells (grownCap w (0 + n) 0 (ρ.t 25) - (0 + n))) (ρ.t 25))
      rw [he] at hnew h1 hge hle ⊢
      obtain ⟨g', hle', I', ht⟩ := I.addGr (Nat.zero_le _) (Below.drew (Below.refl _ _) |>.alloc (Nat.le_refl _) (.cells (([] : List Value).toArray ++ Builtin.zeroCells zz.cells (0 + n - 0) ++ Builtin.zeroCells zz.cells (grownCap w (0 + n) 0 e - (0 + n))) e)) z e [] (.slice (some ⟨w.heap.size, 0, none⟩) 0 (grownCap w (0 + n) 0 e)) []
        ⟨by simp, .inr ⟨w.heap.size, grownCap w (0 + n) 0 e, _, rfl, Nat.le_refl _, hnew, Nat.zero_le _, hle, by
          simp only [Array.size_append, size_zeroCells, hzc, hz]
          simp
          rw [← Nat.add_mul]
          congr 1
          have hge' : n ≤ grownCap w n 0 e := by simpa using hge
          omega, by simp⟩⟩ (fun r hr => by simp at hr) (fun i j r x h => by simp at h) (fun u hu => by simp at hu)
      exact ⟨_, _, _, g', h1, ⟨rfl, rfl⟩, I', ht⟩

theorem growS_fn (n : Nat) (hn : n ≤ 1048576) : Fun env.P 303 [.nl 1, dI n] (.og 0 0) [.gr 1 9 [] 0 false] :=
  Fun.grows (E := env) growS_lay rfl rfl rfl (by decide) (by decide) (entersL Try.func303 (c := _) rfl (by kernel_rfl)) n hn
theorem growV_fn (n : Nat) (hn : n ≤ 1048576) : Fun env.P 302 [.nl 5, dI n] (.og 0 0) [.gr 5 112 [] 0 false] :=
  Fun.grows (E := env) growV_lay rfl rfl rfl (by decide) (by decide) (entersL Try.func302 (c := _) rfl (by kernel_rfl)) n hn

/-- A call with a nil slice and a datum that hands back a slice of its own making. -/
theorem WG.coNl {E : Env} {G : List Nat} {N : Nm} {Q : Exit → St → Prop} {tm : Nat → T} {ob : List Ob} {ops l : List Oper} {ty : TypeId} {pos : String} {after : Array Edge} {gd : Option (Nat × Bool)} {d : Nat} {f : FuncId} {x0 x1 : Operand} {tys : List TypeId} {a1 : D} {z z1 K : Nat} {e : TypeId} {rows : List (List D)}
    (hw : St.want ⟨tm, ob⟩ ops ⟨some d, .call ⟨.value (.func f), #[x0, x1], tys.toArray⟩, ty, pos, after, gd⟩ = some true) (hd : Nat.blt d N.n = true) (hc : Fun E.P f [.nl z, a1] (.og 0 0) [.gr z1 e rows 0 false]) (h0 : St.ev ⟨tm, ob⟩ x0 = .d (.v (.slice none 0 0))) (h1 : St.ev ⟨tm, ob⟩ x1 = .d a1) (hK : ob.length = K)
    (k : WG G E.P N ops l Q ⟨upd tm d (.og K 0), ob ++ [.gr z1 e rows 0 false]⟩) : WG G E.P N ops (⟨some d, .call ⟨.value (.func f), #[x0, x1], tys.toArray⟩, ty, pos, after, gd⟩ :: l) Q ⟨tm, ob⟩ := by
  subst hK
  refine WL.oper (S := ⟨tm, ob⟩) hw fun w0 σ0 a w g R => ?_
  refine R.callG (E := E) (xs := [x0, x1]) (tys := tys) (cap := []) (fop := .func f) [.d (.nl z), .d a1] ⟨[], [], ob.length⟩ hc rfl rfl (fun i x u hx hu => ?_) rfl rfl rfl rfl rfl rfl trivial (fun t2 o2 h => rfl) _ _ fun t2 o2 hR v w' g2 hle2 I' hv => ?_
  · match i with
    | 0 =>
      simp at hx hu
      subst hx; subst hu
      have := R.ev x0
      rw [h0] at this
      rw [this.inv_v]
      exact .d _ _ (.nl _)
    | 1 =>
      simp at hx hu
      subst hx; subst hu
      have := R.ev x1
      rw [h1] at this
      exact this
    | i + 2 => simp at hx
  · obtain ⟨rfl, rfl⟩ := hR
    have em : mergeO ⟨[], [], ob.length⟩ 0 ob [] [.gr z1 e rows 0 false] = ob ++ [.gr z1 e rows 0 false] := by simp [mergeO, renFrom, Ob.ren, Rn.of]
    rw [em] at I'
    have hv' : RT g2 (.og ob.length 0) v := by simpa [T.ren, Rn.ix, Rn.of] using hv
    have r' : Rel N w0 σ0 ⟨tm, ob ++ [.gr z1 e rows 0 false]⟩ a w' g2 := ⟨I', R.defers, R.size, R.hm, Nat.le_trans R.hl (by simp), fun i => (R.tm i).mono hle2⟩
    exact k w0 σ0 _ w' g2 (r'.set (by simpa using hd) hv')

/-- Slices one behind the other. -/
theorem sum_step {α : Type} (L : List (List α)) (i : Nat) (hi : i < L.length) : ((L.take (i + 1)).flatten.length) = (L.take i).flatten.length + (L.getD i default).length := by
  rw [take_step hi, List.flatten_append, List.length_append]; simp

theorem flat_take_le {α : Type} (L : List (List α)) (i : Nat) : (L.take i).flatten.length ≤ L.flatten.length := by
  have := congrArg (fun l => l.flatten.length) (List.take_append_drop i L)
  simp only [List.flatten_append, List.length_append] at this
  omega

set_option maxHeartbeats 4000000 in
theorem concatS_fn (L : List (List ByteArray)) (hl : L.length ≤ 1048576) (hs : L.flatten.length ≤ 1048576) : Fun env.P 276 [.sl 1 (L.map fun l => [.sl 1 (l.map keyRow)])] (.og 0 0) [.gr 1 9 (L.flatten.map keyRow) 0 false] := by
  have hlr : (L.map fun l => [D.sl 1 (l.map keyRow)]).length = L.length := by simp
  refine Fun.intro Try.func276 rfl (by kernel_rfl) rfl ?_
  repeat' (first | refine W.seq ?_ | refine W.rg ?_ | refine W.dra' ?_ | refine W.block ?_ | refine W.skip ?_ | refine W.exit ?_ | refine W.cond_true' ?_ | refine W.cond_false' ?_ | refine WG.nil ?_ | refine WG.run' (E := env) ?_ | refine WG.gt' ?_ | refine WG.gf' ?_ | refine WG.ixm' (E := env) ?_ | refine WG.ixo' (E := env) ?_ | refine WG.legm' (E := env) ?_ | refine WG.slS' (E := env) ?_ | refine WG.slD' (E := env) ?_ | refine WG.ap' (E := env) ?_ | refine WD.nil ?_ | refine WD.bs' (E := env) ?_ | refine WD.s' (E := env) (t := .d _) ?_ | refine WD.p' ?_ | refine WD.px' ?_ | refine WD.s' (E := env) (t := .ea _ _) ?_ | refine WD.s' (E := env) (t := .lp _ _) ?_ | refine WD.s' (E := env) (t := .og _ _) ?_ | refine WD.s' (E := env) (t := .agg _) ?_ | refine WD.s' (E := env) (t := .tup _) ?_ | refine WD.s' (E := env) (t := .clo _ _) ?_ | refine WD.ixm' (E := env) ?_ | refine WD.ixo' (E := env) ?_ | refine WD.legm' (E := env) ?_ | refine WD.slS' (E := env) ?_ | refine WD.slD' (E := env) ?_ | ((first | refine WG.sp' (fun h => ?_) fun h => ?_ | refine W.cond' (fun h => ?_) fun h => ?_ | refine WD.sp' (fun h => ?_) fun h => ?_) <;> (try simp only [decide_eq_true_eq, decide_eq_false_iff_not, Bool.not_eq_true', Bool.not_eq_false', Bool.and_eq_true, Bool.or_eq_true, Bool.and_eq_false_iff, Bool.or_eq_false_iff, Bool.not_eq_true, Bool.not_eq_false, Int.not_lt, Int.not_le, List.length_map, beq_self_eq_true, Bool.true_eq_false, Bool.false_eq_true] at h) <;> (try (exfalso; first | contradiction | omega))))
  refine W.loop (fun m S => ∃ (i : Nat), m = L.length - i ∧ i ≤ L.length ∧ S = ⟨ofL [(0, .d (.sl 1 (L.map fun l => [.sl 1 (l.map keyRow)]))), (3, vI .i64 ((L.take i).flatten.length : Nat)), (9, .d (.sl 1 (L.map fun l => [.sl 1 (l.map keyRow)]))), (10, vI .i64 (L.map fun l => [D.sl 1 (l.map keyRow)]).length), (11, vI .i64 i)], []⟩) _ _ ⟨0, rfl, by omega, rfl⟩ (by (refine le_ofL rfl ?_ ?_ <;> (repeat (first | exact trivial | refine ⟨⟨rfl, rfl⟩, ?_⟩ | refine ⟨rfl, .inl rfl, ?_⟩ | refine ⟨rfl, .inr rfl, ?_⟩)))) ?_
  rintro m S ⟨i, rfl, hi, rfl⟩
  by_cases hlt : i < L.length
  · have h1 := flat_take_le L (i + 1)
    rw [sum_step L i hlt] at h1
    have h2 : (L.take i).flatten.length + (L.getD (Int.toNat (i : Int)) default).length ≤ L.flatten.length := by rw [Int.toNat_natCast]; exact h1
    have hlk : (((L.getD (Int.toNat (i : Int)) default).map keyRow).length : Int) = ((L.getD i default).length : Nat) := by simp
    repeat' (first | refine W.seq ?_ | refine W.rg ?_ | refine W.dra' ?_ | refine W.block ?_ | refine W.skip ?_ | refine W.exit ?_ | refine W.cond_true' ?_ | refine W.cond_false' ?_ | refine WG.nil ?_ | refine WG.run' (E := env) ?_ | refine WG.gt' ?_ | refine WG.gf' ?_ | refine WG.ixm' (E := env) ?_ | refine WG.ixo' (E := env) ?_ | refine WG.legm' (E := env) ?_ | refine WG.slS' (E := env) ?_ | refine WG.slD' (E := env) ?_ | refine WG.ap' (E := env) ?_ | refine WD.nil ?_ | refine WD.bs' (E := env) ?_ | refine WD.s' (E := env) (t := .d _) ?_ | refine WD.p' ?_ | refine WD.px' ?_ | refine WD.s' (E := env) (t := .ea _ _) ?_ | refine WD.s' (E := env) (t := .lp _ _) ?_ | refine WD.s' (E := env) (t := .og _ _) ?_ | refine WD.s' (E := env) (t := .agg _) ?_ | refine WD.s' (E := env) (t := .tup _) ?_ | refine WD.s' (E := env) (t := .clo _ _) ?_ | refine WD.ixm' (E := env) ?_ | refine WD.ixo' (E := env) ?_ | refine WD.legm' (E := env) ?_ | refine WD.slS' (E := env) ?_ | refine WD.slD' (E := env) ?_ | ((first | refine WG.sp' (fun h => ?_) fun h => ?_ | refine W.cond' (fun h => ?_) fun h => ?_ | refine WD.sp' (fun h => ?_) fun h => ?_) <;> (try simp only [decide_eq_true_eq, decide_eq_false_iff_not, Bool.not_eq_true', Bool.not_eq_false', Bool.and_eq_true, Bool.or_eq_true, Bool.and_eq_false_iff, Bool.or_eq_false_iff, Bool.not_eq_true, Bool.not_eq_false, Int.not_lt, Int.not_le, List.length_map, beq_self_eq_true, Bool.true_eq_false, Bool.false_eq_true] at h) <;> (try (exfalso; first | contradiction | omega))))
    all_goals first | (exfalso; omega) | skip
    refine ⟨_, _, by omega, ⟨i + 1, rfl, by omega, rfl⟩, ?_⟩
    have e1 : (((L.take (i + 1)).flatten.length : Nat) : Int) = ((L.take i).flatten.length : Int) + (((L.getD (Int.toNat (i : Int)) default).map keyRow).length : Int) := by rw [hlk, sum_step L i hlt]; omega
    rw [e1]
    exact (by (refine le_ofL rfl ?_ ?_ <;> (repeat (first | exact trivial | refine ⟨⟨rfl, rfl⟩, ?_⟩ | refine ⟨rfl, .inl rfl, ?_⟩ | refine ⟨rfl, .inr rfl, ?_⟩))))
  obtain rfl : i = L.length := by omega
  rw [List.take_length]
  have hg := growS_fn L.flatten.length hs
  repeat' (first | refine WG.coNl (E := env) (K := 0) rfl rfl hg rfl rfl rfl ?_ | refine W.seq ?_ | refine W.rg ?_ | refine W.dra' ?_ | refine W.block ?_ | refine W.skip ?_ | refine W.exit ?_ | refine W.cond_true' ?_ | refine W.cond_false' ?_ | refine WG.nil ?_ | refine WG.run' (E := env) ?_ | refine WG.gt' ?_ | refine WG.gf' ?_ | refine WG.ixm' (E := env) ?_ | refine WG.ixo' (E := env) ?_ | refine WG.legm' (E := env) ?_ | refine WG.slS' (E := env) ?_ | refine WG.slD' (E := env) ?_ | refine WG.ap' (E := env) ?_ | refine WD.nil ?_ | refine WD.bs' (E := env) ?_ | refine WD.s' (E := env) (t := .d _) ?_ | refine WD.p' ?_ | refine WD.px' ?_ | refine WD.s' (E := env) (t := .ea _ _) ?_ | refine WD.s' (E := env) (t := .lp _ _) ?_ | refine WD.s' (E := env) (t := .og _ _) ?_ | refine WD.s' (E := env) (t := .agg _) ?_ | refine WD.s' (E := env) (t := .tup _) ?_ | refine WD.s' (E := env) (t := .clo _ _) ?_ | refine WD.ixm' (E := env) ?_ | refine WD.ixo' (E := env) ?_ | refine WD.legm' (E := env) ?_ | refine WD.slS' (E := env) ?_ | refine WD.slD' (E := env) ?_ | fail | ((first | refine WG.sp' (fun h => ?_) fun h => ?_ | refine W.cond' (fun h => ?_) fun h => ?_ | refine WD.sp' (fun h => ?_) fun h => ?_) <;> (try simp only [decide_eq_true_eq, decide_eq_false_iff_not, Bool.not_eq_true', Bool.not_eq_false', Bool.and_eq_true, Bool.or_eq_true, Bool.and_eq_false_iff, Bool.or_eq_false_iff, Bool.not_eq_true, Bool.not_eq_false, Int.not_lt, Int.not_le, List.length_map, beq_self_eq_true, Bool.true_eq_false, Bool.false_eq_true] at h) <;> (try (exfalso; first | contradiction | omega))))
  refine W.loopI (fun m S => ∃ (i : Nat) (rv : List (List D)), m = L.length - i ∧ (i ≤ L.length ∧ rv.length ≤ 1048576 ∧ rv = (L.take i).flatten.map keyRow) ∧ S = ⟨ofL [(6, .og 0 0), (25, .d (.sl 1 (L.map fun l => [.sl 1 (l.map keyRow)]))), (26, vI .i64 (L.map fun l => [D.sl 1 (l.map keyRow)]).length), (27, vI .i64 i)], [.gr 1 9 rv 0 false]⟩) _ _ ⟨0, [], rfl, ⟨by omega, by simp, by simp⟩, rfl⟩ (St.imp.of_le (by (refine le_ofL rfl ?_ ?_ <;> (repeat (first | exact trivial | refine ⟨⟨rfl, rfl⟩, ?_⟩ | refine ⟨rfl, .inl rfl, ?_⟩ | refine ⟨rfl, .inr rfl, ?_⟩))))) ?_
  rintro m S ⟨i, rv, rfl, ⟨hi, hrv, ev⟩, rfl⟩
  by_cases hlt : i < L.length
  · have h1 := flat_take_le L (i + 1)
    rw [sum_step L i hlt] at h1
    have h2 : rv.length + (L.getD (Int.toNat (i : Int)) default).length ≤ 1048576 := by rw [ev, List.length_map, Int.toNat_natCast]; omega
    repeat' (first | refine W.seq ?_ | refine W.rg ?_ | refine W.dra' ?_ | refine W.block ?_ | refine W.skip ?_ | refine W.exit ?_ | refine W.cond_true' ?_ | refine W.cond_false' ?_ | refine WG.nil ?_ | refine WG.run' (E := env) ?_ | refine WG.gt' ?_ | refine WG.gf' ?_ | refine WG.ixm' (E := env) ?_ | refine WG.ixo' (E := env) ?_ | refine WG.legm' (E := env) ?_ | refine WG.slS' (E := env) ?_ | refine WG.slD' (E := env) ?_ | refine WG.ap' (E := env) ?_ | refine WD.nil ?_ | refine WD.bs' (E := env) ?_ | refine WD.s' (E := env) (t := .d _) ?_ | refine WD.p' ?_ | refine WD.px' ?_ | refine WD.s' (E := env) (t := .ea _ _) ?_ | refine WD.s' (E := env) (t := .lp _ _) ?_ | refine WD.s' (E := env) (t := .og _ _) ?_ | refine WD.s' (E := env) (t := .agg _) ?_ | refine WD.s' (E := env) (t := .tup _) ?_ | refine WD.s' (E := env) (t := .clo _ _) ?_ | refine WD.ixm' (E := env) ?_ | refine WD.ixo' (E := env) ?_ | refine WD.legm' (E := env) ?_ | refine WD.slS' (E := env) ?_ | refine WD.slD' (E := env) ?_ | ((first | refine WG.sp' (fun h => ?_) fun h => ?_ | refine W.cond' (fun h => ?_) fun h => ?_ | refine WD.sp' (fun h => ?_) fun h => ?_) <;> (try simp only [decide_eq_true_eq, decide_eq_false_iff_not, Bool.not_eq_true', Bool.not_eq_false', Bool.and_eq_true, Bool.or_eq_true, Bool.and_eq_false_iff, Bool.or_eq_false_iff, Bool.not_eq_true, Bool.not_eq_false, Int.not_lt, Int.not_le, List.length_map, beq_self_eq_true, Bool.true_eq_false, Bool.false_eq_true] at h) <;> (try (exfalso; first | contradiction | omega))))
    refine ⟨_, _, by omega, ⟨i + 1, rv ++ (L.getD (Int.toNat (i : Int)) default).map keyRow, rfl, ⟨by omega, by rw [List.length_append, List.length_map]; exact h2, ?_⟩, rfl⟩, (St.imp.rev 0 1 rfl).trans (St.imp.of_le (by (refine le_ofL rfl ?_ ?_ <;> (repeat (first | exact trivial | refine ⟨⟨rfl, rfl⟩, ?_⟩ | refine ⟨rfl, .inl rfl, ?_⟩ | refine ⟨rfl, .inr rfl, ?_⟩)))))⟩
    rw [take_step hlt, List.flatten_append, List.map_append, ← ev, Int.toNat_natCast]
    simp
  · obtain rfl : i = L.length := by omega
    rw [List.take_length] at ev
    subst ev
    repeat' (first | refine W.seq ?_ | refine W.rg ?_ | refine W.dra' ?_ | refine W.block ?_ | refine W.skip ?_ | refine W.exit ?_ | refine W.cond_true' ?_ | refine W.cond_false' ?_ | refine WG.nil ?_ | refine WG.run' (E := env) ?_ | refine WG.gt' ?_ | refine WG.gf' ?_ | refine WG.ixm' (E := env) ?_ | refine WG.ixo' (E := env) ?_ | refine WG.legm' (E := env) ?_ | refine WG.slS' (E := env) ?_ | refine WG.slD' (E := env) ?_ | refine WG.ap' (E := env) ?_ | refine WD.nil ?_ | refine WD.bs' (E := env) ?_ | refine WD.s' (E := env) (t := .d _) ?_ | refine WD.p' ?_ | refine WD.px' ?_ | refine WD.s' (E := env) (t := .ea _ _) ?_ | refine WD.s' (E := env) (t := .lp _ _) ?_ | refine WD.s' (E := env) (t := .og _ _) ?_ | refine WD.s' (E := env) (t := .agg _) ?_ | refine WD.s' (E := env) (t := .tup _) ?_ | refine WD.s' (E := env) (t := .clo _ _) ?_ | refine WD.ixm' (E := env) ?_ | refine WD.ixo' (E := env) ?_ | refine WD.legm' (E := env) ?_ | refine WD.slS' (E := env) ?_ | refine WD.slD' (E := env) ?_ | ((first | refine WG.sp' (fun h => ?_) fun h => ?_ | refine W.cond' (fun h => ?_) fun h => ?_ | refine WD.sp' (fun h => ?_) fun h => ?_) <;> (try simp only [decide_eq_true_eq, decide_eq_false_iff_not, Bool.not_eq_true', Bool.not_eq_false', Bool.and_eq_true, Bool.or_eq_true, Bool.and_eq_false_iff, Bool.or_eq_false_iff, Bool.not_eq_true, Bool.not_eq_false, Int.not_lt, Int.not_le, List.length_map, beq_self_eq_true, Bool.true_eq_false, Bool.false_eq_true] at h) <;> (try (exfalso; first | contradiction | omega))))
    refine W.ret ?_
    exact RetQ.own (tt := .og 0 0) 0 0 (.inl rfl) rfl (by first | trivial | exact resOK_of (E := env) rfl) rfl rfl rfl rfl rfl

set_option maxHeartbeats 4000000 in
theorem concatV_fn (L : List (List V)) (hl : L.length ≤ 1048576) (hs : L.flatten.length ≤ 1048576) : Fun env.P 275 [.sl 1 (L.map fun l => [.sl 5 (l.map V.row)])] (.og 0 0) [.gr 5 112 (L.flatten.map V.row) 0 false] := by
  have hlr : (L.map fun l => [D.sl 5 (l.map V.row)]).length = L.length := by simp
  refine Fun.intro Try.func275 rfl (by kernel_rfl) rfl ?_
  repeat' (first | refine W.seq ?_ | refine W.rg ?_ | refine W.dra' ?_ | refine W.block ?_ | refine W.skip ?_ | refine W.exit ?_ | refine W.cond_true' ?_ | refine W.cond_false' ?_ | refine WG.nil ?_ | refine WG.run' (E := env) ?_ | refine WG.gt' ?_ | refine WG.gf' ?_ | refine WG.ixm' (E := env) ?_ | refine WG.ixo' (E := env) ?_ | refine WG.legm' (E := env) ?_ | refine WG.slS' (E := env) ?_ | refine WG.slD' (E := env) ?_ | refine WG.ap' (E := env) ?_ | refine WD.nil ?_ | refine WD.bs' (E := env) ?_ | refine WD.s' (E := env) (t := .d _) ?_ | refine WD.p' ?_ | refine WD.px' ?_ | refine WD.s' (E := env) (t := .ea _ _) ?_ | refine WD.s' (E := env) (t := .lp _ _) ?_ | refine WD.s' (E := env) (t := .og _ _) ?_ | refine WD.s' (E := env) (t := .agg _) ?_ | refine WD.s' (E := env) (t := .tup _) ?_ | refine WD.s' (E := env) (t := .clo _ _) ?_ | refine WD.ixm' (E := env) ?_ | refine WD.ixo' (E := env) ?_ | refine WD.legm' (E := env) ?_ | refine WD.slS' (E := env) ?_ | refine WD.slD' (E := env) ?_ | ((first | refine WG.sp' (fun h => ?_) fun h => ?_ | refine W.cond' (fun h => ?_) fun h => ?_ | refine WD.sp' (fun h => ?_) fun h => ?_) <;> (try simp only [decide_eq_true_eq, decide_eq_false_iff_not, Bool.not_eq_true', Bool.not_eq_false', Bool.and_eq_true, Bool.or_eq_true, Bool.and_eq_false_iff, Bool.or_eq_false_iff, Bool.not_eq_true, Bool.not_eq_false, Int.not_lt, Int.not_le, List.length_map, beq_self_eq_true, Bool.true_eq_false, Bool.false_eq_true] at h) <;> (try (exfalso; first | contradiction | omega))))
  refine W.loop (fun m S => ∃ (i : Nat), m = L.length - i ∧ i ≤ L.length ∧ S = ⟨ofL [(0, .d (.sl 1 (L.map fun l => [.sl 5 (l.map V.row)]))), (3, vI .i64 ((L.take i).flatten.length : Nat)), (9, .d (.sl 1 (L.map fun l => [.sl 5 (l.map V.row)]))), (10, vI .i64 (L.map fun l => [D.sl 5 (l.map V.row)]).length), (11, vI .i64 i)], []⟩) _ _ ⟨0, rfl, by omega, rfl⟩ (by (refine le_ofL rfl ?_ ?_ <;> (repeat (first | exact trivial | refine ⟨⟨rfl, rfl⟩, ?_⟩ | refine ⟨rfl, .inl rfl, ?_⟩ | refine ⟨rfl, .inr rfl, ?_⟩)))) ?_
  rintro m S ⟨i, rfl, hi, rfl⟩
  by_cases hlt : i < L.length
  · have h1 := flat_take_le L (i + 1)
    rw [sum_step L i hlt] at h1
    have h2 : (L.take i).flatten.length + (L.getD (Int.toNat (i : Int)) default).length ≤ L.flatten.length := by rw [Int.toNat_natCast]; exact h1
    have hlk : (((L.getD (Int.toNat (i : Int)) default).map V.row).length : Int) = ((L.getD i default).length : Nat) := by simp
    repeat' (first | refine W.seq ?_ | refine W.rg ?_ | refine W.dra' ?_ | refine W.block ?_ | refine W.skip ?_ | refine W.exit ?_ | refine W.cond_true' ?_ | refine W.cond_false' ?_ | refine WG.nil ?_ | refine WG.run' (E := env) ?_ | refine WG.gt' ?_ | refine WG.gf' ?_ | refine WG.ixm' (E := env) ?_ | refine WG.ixo' (E := env) ?_ | refine WG.legm' (E := env) ?_ | refine WG.slS' (E := env) ?_ | refine WG.slD' (E := env) ?_ | refine WG.ap' (E := env) ?_ | refine WD.nil ?_ | refine WD.bs' (E := env) ?_ | refine WD.s' (E := env) (t := .d _) ?_ | refine WD.p' ?_ | refine WD.px' ?_ | refine WD.s' (E := env) (t := .ea _ _) ?_ | refine WD.s' (E := env) (t := .lp _ _) ?_ | refine WD.s' (E := env) (t := .og _ _) ?_ | refine WD.s' (E := env) (t := .agg _) ?_ | refine WD.s' (E := env) (t := .tup _) ?_ | refine WD.s' (E := env) (t := .clo _ _) ?_ | refine WD.ixm' (E := env) ?_ | refine WD.ixo' (E := env) ?_ | refine WD.legm' (E := env) ?_ | refine WD.slS' (E := env) ?_ | refine WD.slD' (E := env) ?_ | ((first | refine WG.sp' (fun h => ?_) fun h => ?_ | refine W.cond' (fun h => ?_) fun h => ?_ | refine WD.sp' (fun h => ?_) fun h => ?_) <;> (try simp only [decide_eq_true_eq, decide_eq_false_iff_not, Bool.not_eq_true', Bool.not_eq_false', Bool.and_eq_true, Bool.or_eq_true, Bool.and_eq_false_iff, Bool.or_eq_false_iff, Bool.not_eq_true, Bool.not_eq_false, Int.not_lt, Int.not_le, List.length_map, beq_self_eq_true, Bool.true_eq_false, Bool.false_eq_true] at h) <;> (try (exfalso; first | contradiction | omega))))
    all_goals first | (exfalso; omega) | skip
    refine ⟨_, _, by omega, ⟨i + 1, rfl, by omega, rfl⟩, ?_⟩
    have e1 : (((L.take (i + 1)).flatten.length : Nat) : Int) = ((L.take i).flatten.length : Int) + (((L.getD (Int.toNat (i : Int)) default).map V.row).length : Int) := by rw [hlk, sum_step L i hlt]; omega
    rw [e1]
    exact (by (refine le_ofL rfl ?_ ?_ <;> (repeat (first | exact trivial | refine ⟨⟨rfl, rfl⟩, ?_⟩ | refine ⟨rfl, .inl rfl, ?_⟩ | refine ⟨rfl, .inr rfl, ?_⟩))))
  obtain rfl : i = L.length := by omega
  rw [List.take_length]
  have hg := growV_fn L.flatten.length hs
  repeat' (first | refine WG.coNl (E := env) (K := 0) rfl rfl hg rfl rfl rfl ?_ | refine W.seq ?_ | refine W.rg ?_ | refine W.dra' ?_ | refine W.block ?_ | refine W.skip ?_ | refine W.exit ?_ | refine W.cond_true' ?_ | refine W.cond_false' ?_ | refine WG.nil ?_ | refine WG.run' (E := env) ?_ | refine WG.gt' ?_ | refine WG.gf' ?_ | refine WG.ixm' (E := env) ?_ | refine WG.ixo' (E := env) ?_ | refine WG.legm' (E := env) ?_ | refine WG.slS' (E := env) ?_ | refine WG.slD' (E := env) ?_ | refine WG.ap' (E := env) ?_ | refine WD.nil ?_ | refine WD.bs' (E := env) ?_ | refine WD.s' (E := env) (t := .d _) ?_ | refine WD.p' ?_ | refine WD.px' ?_ | refine WD.s' (E := env) (t := .ea _ _) ?_ | refine WD.s' (E := env) (t := .lp _ _) ?_ | refine WD.s' (E := env) (t := .og _ _) ?_ | refine WD.s' (E := env) (t := .agg _) ?_ | refine WD.s' (E := env) (t := .tup _) ?_ | refine WD.s' (E := env) (t := .clo _ _) ?_ | refine WD.ixm' (E := env) ?_ | refine WD.ixo' (E := env) ?_ | refine WD.legm' (E := env) ?_ | refine WD.slS' (E := env) ?_ | refine WD.slD' (E := env) ?_ | fail | ((first | refine WG.sp' (fun h => ?_) fun h => ?_ | refine W.cond' (fun h => ?_) fun h => ?_ | refine WD.sp' (fun h => ?_) fun h => ?_) <;> (try simp only [decide_eq_true_eq, decide_eq_false_iff_not, Bool.not_eq_true', Bool.not_eq_false', Bool.and_eq_true, Bool.or_eq_true, Bool.and_eq_false_iff, Bool.or_eq_false_iff, Bool.not_eq_true, Bool.not_eq_false, Int.not_lt, Int.not_le, List.length_map, beq_self_eq_true, Bool.true_eq_false, Bool.false_eq_true] at h) <;> (try (exfalso; first | contradiction | omega))))
  refine W.loopI (fun m S => ∃ (i : Nat) (rv : List (List D)), m = L.length - i ∧ (i ≤ L.length ∧ rv.length ≤ 1048576 ∧ rv = (L.take i).flatten.map V.row) ∧ S = ⟨ofL [(6, .og 0 0), (25, .d (.sl 1 (L.map fun l => [.sl 5 (l.map V.row)]))), (26, vI .i64 (L.map fun l => [D.sl 5 (l.map V.row)]).length), (27, vI .i64 i)], [.gr 5 112 rv 0 false]⟩) _ _ ⟨0, [], rfl, ⟨by omega, by simp, by simp⟩, rfl⟩ (St.imp.of_le (by (refine le_ofL rfl ?_ ?_ <;> (repeat (first | exact trivial | refine ⟨⟨rfl, rfl⟩, ?_⟩ | refine ⟨rfl, .inl rfl, ?_⟩ | refine ⟨rfl, .inr rfl, ?_⟩))))) ?_
  rintro m S ⟨i, rv, rfl, ⟨hi, hrv, ev⟩, rfl⟩
  by_cases hlt : i < L.length
  · have h1 := flat_take_le L (i + 1)
    rw [sum_step L i hlt] at h1
    have h2 : rv.length + (L.getD (Int.toNat (i : Int)) default).length ≤ 1048576 := by rw [ev, List.length_map, Int.toNat_natCast]; omega
    repeat' (first | refine W.seq ?_ | refine W.rg ?_ | refine W.dra' ?_ | refine W.block ?_ | refine W.skip ?_ | refine W.exit ?_ | refine W.cond_true' ?_ | refine W.cond_false' ?_ | refine WG.nil ?_ | refine WG.run' (E := env) ?_ | refine WG.gt' ?_ | refine WG.gf' ?_ | refine WG.ixm' (E := env) ?_ | refine WG.ixo' (E := env) ?_ | refine WG.legm' (E := env) ?_ | refine WG.slS' (E := env) ?_ | refine WG.slD' (E := env) ?_ | refine WG.ap' (E := env) ?_ | refine WD.nil ?_ | refine WD.bs' (E := env) ?_ | refine WD.s' (E := env) (t := .d _) ?_ | refine WD.p' ?_ | refine WD.px' ?_ | refine WD.s' (E := env) (t := .ea _ _) ?_ | refine WD.s' (E := env) (t := .lp _ _) ?_ | refine WD.s' (E := env) (t := .og _ _) ?_ | refine WD.s' (E := env) (t := .agg _) ?_ | refine WD.s' (E := env) (t := .tup _) ?_ | refine WD.s' (E := env) (t := .clo _ _) ?_ | refine WD.ixm' (E := env) ?_ | refine WD.ixo' (E := env) ?_ | refine WD.legm' (E := env) ?_ | refine WD.slS' (E := env) ?_ | refine WD.slD' (E := env) ?_ | ((first | refine WG.sp' (fun h => ?_) fun h => ?_ | refine W.cond' (fun h => ?_) fun h => ?_ | refine WD.sp' (fun h => ?_) fun h => ?_) <;> (try simp only [decide_eq_true_eq, decide_eq_false_iff_not, Bool.not_eq_true', Bool.not_eq_false', Bool.and_eq_true, Bool.or_eq_true, Bool.and_eq_false_iff, Bool.or_eq_false_iff, Bool.not_eq_true, Bool.not_eq_false, Int.not_lt, Int.not_le, List.length_map, beq_self_eq_true, Bool.true_eq_false, Bool.false_eq_true] at h) <;> (try (exfalso; first | contradiction | omega))))
    refine ⟨_, _, by omega, ⟨i + 1, rv ++ (L.getD (Int.toNat (i : Int)) default).map V.row, rfl, ⟨by omega, by rw [List.length_append, List.length_map]; exact h2, ?_⟩, rfl⟩, (St.imp.rev 0 1 rfl).trans (St.imp.of_le (by (refine le_ofL rfl ?_ ?_ <;> (repeat (first | exact trivial | refine ⟨⟨rfl, rfl⟩, ?_⟩ | refine ⟨rfl, .inl rfl, ?_⟩ | refine ⟨rfl, .inr rfl, ?_⟩)))))⟩
    rw [take_step hlt, List.flatten_append, List.map_append, ← ev, Int.toNat_natCast]
    simp
  · obtain rfl : i = L.length := by omega
    rw [List.take_length] at ev
    subst ev
    repeat' (first | refine W.seq ?_ | refine W.rg ?_ | refine W.dra' ?_ | refine W.block ?_ | refine W.skip ?_ | refine W.exit ?_ | refine W.cond_true' ?_ | refine W.cond_false' ?_ | refine WG.nil ?_ | refine WG.run' (E := env) ?_ | refine WG.gt' ?_ | refine WG.gf' ?_ | refine WG.ixm' (E := env) ?_ | refine WG.ixo' (E := env) ?_ | refine WG.legm' (E := env) ?_ | refine WG.slS' (E := env) ?_ | refine WG.slD' (E := env) ?_ | refine WG.ap' (E := env) ?_ | refine WD.nil ?_ | refine WD.bs' (E := env) ?_ | refine WD.s' (E := env) (t := .d _) ?_ | refine WD.p' ?_ | refine WD.px' ?_ | refine WD.s' (E := env) (t := .ea _ _) ?_ | refine WD.s' (E := env) (t := .lp _ _) ?_ | refine WD.s' (E := env) (t := .og _ _) ?_ | refine WD.s' (E := env) (t := .agg _) ?_ | refine WD.s' (E := env) (t := .tup _) ?_ | refine WD.s' (E := env) (t := .clo _ _) ?_ | refine WD.ixm' (E := env) ?_ | refine WD.ixo' (E := env) ?_ | refine WD.legm' (E := env) ?_ | refine WD.slS' (E := env) ?_ | refine WD.slD' (E := env) ?_ | ((first | refine WG.sp' (fun h => ?_) fun h => ?_ | refine W.cond' (fun h => ?_) fun h => ?_ | refine WD.sp' (fun h => ?_) fun h => ?_) <;> (try simp only [decide_eq_true_eq, decide_eq_false_iff_not, Bool.not_eq_true', Bool.not_eq_false', Bool.and_eq_true, Bool.or_eq_true, Bool.and_eq_false_iff, Bool.or_eq_false_iff, Bool.not_eq_true, Bool.not_eq_false, Int.not_lt, Int.not_le, List.length_map, beq_self_eq_true, Bool.true_eq_false, Bool.false_eq_true] at h) <;> (try (exfalso; first | contradiction | omega))))
    refine W.ret ?_
    exact RetQ.own (tt := .og 0 0) 0 0 (.inl rfl) rfl (by first | trivial | exact resOK_of (E := env) rfl) rfl rfl rfl rfl rfl

end Go.Proofs.Ytlegadpbjccelaa
