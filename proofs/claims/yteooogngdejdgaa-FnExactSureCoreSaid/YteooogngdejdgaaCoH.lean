/-
  Whether a core gives just one value for sure, by the program and by the reference. Conditions: cells of at most 2^20 bytes.
-/
import Derived.Test.YteooogngdejdgaaCoG
import Derived.ChangeKeysEq
import Derived.Laws.StructEq
set_option linter.unusedVariables false
set_option linter.unusedSimpArgs false
set_option maxRecDepth 100000
namespace Go.Proofs.Yteooogngdejdgaa
open Go.RowKit

/-- Two counts are compared field by field. -/
theorem ct_equal (w : World) (a b c a' b' c' : Int) (q q' : Bool) :
    (Op.equalIn 10000 87 (.agg #[.int .i64 a, .int .i64 b, .int .i64 c, .bool q]) (.agg #[.int .i64 a', .int .i64 b', .int .i64 c', .bool q'])).run env.P w = .ok (decide (a = a' ∧ b = b' ∧ c = c' ∧ q = q')) w := by
  rw [run_equalIn_struct w 9999 87 _ _ (by kernel_rfl) (by kernel_rfl)]
  have hL : (env.P.fieldsOf 87).toList.map (fun f => (f.name != "_", f.type, f.offset)) = [(true, 2, 0), (true, 2, 1), (true, 2, 2), (true, 4, 3)] := by kernel_rfl
  have hi : env.P.underlying 2 = some (.int .i64) := by kernel_rfl
  have hb : env.P.underlying 4 = some .bool := by kernel_rfl
  have pi : env.P.plainKey 2 = true := by kernel_rfl
  have pb : env.P.plainKey 4 = true := by kernel_rfl
  generalize (env.P.fieldsOf 87).toList = fs at hL
  rcases fs with _ | ⟨f1, _ | ⟨f2, _ | ⟨f3, _ | ⟨f4, _ | ⟨f5, r⟩⟩⟩⟩⟩
  · simp at hL
  · simp at hL
  · simp at hL
  · simp at hL
  · simp only [List.map_cons, List.map_nil, List.cons.injEq, Prod.mk.injEq, bne_iff_ne, ne_eq, and_true] at hL
    obtain ⟨⟨n1, t1, o1⟩, ⟨n2, t2, o2⟩, ⟨n3, t3, o3⟩, n4, t4, o4⟩ := hL
    have P1 := fun (x0 x1 x2 x3 : Value) => run_part_plain (P := env.P) (xs := #[x0, x1, x2, x3]) (off := 0) (v := x0) w pi rfl
    have P2 := fun (x0 x1 x2 x3 : Value) => run_part_plain (P := env.P) (xs := #[x0, x1, x2, x3]) (off := 1) (v := x1) w pi rfl
    have P3 := fun (x0 x1 x2 x3 : Value) => run_part_plain (P := env.P) (xs := #[x0, x1, x2, x3]) (off := 2) (v := x2) w pi rfl
    have P4 := fun (x0 x1 x2 x3 : Value) => run_part_plain (P := env.P) (xs := #[x0, x1, x2, x3]) (off := 3) (v := x3) w pb rfl
    unfold Op.eqFields
    rw [if_pos n1, t1, o1]
    simp only [Sem.run_bind, P1, Result.andThen_ok, run_equalIn_int w 9998 _ .i64 .i64 _ _ hi, Sem.run_ite]
    by_cases e1 : a = a'
    · subst e1
      simp only [beq_self_eq_true, Bool.not_true, Bool.false_eq_true, if_false]
      unfold Op.eqFields
      rw [if_pos n2, t2, o2]
      simp only [Sem.run_bind, P2, Result.andThen_ok, run_equalIn_int w 9998 _ .i64 .i64 _ _ hi, Sem.run_ite]
      by_cases e2 : b = b'
      · subst e2
        simp only [beq_self_eq_true, Bool.not_true, Bool.false_eq_true, if_false]
        unfold Op.eqFields
        rw [if_pos n3, t3, o3]
        simp only [Sem.run_bind, P3, Result.andThen_ok, run_equalIn_int w 9998 _ .i64 .i64 _ _ hi, Sem.run_ite]
        by_cases e3 : c = c'
        · subst e3
          simp only [beq_self_eq_true, Bool.not_true, Bool.false_eq_true, if_false]
          unfold Op.eqFields
          rw [if_pos n4, t4, o4]
          simp only [Sem.run_bind, P4, Result.andThen_ok, run_equalIn_bool' w 9998 _ _ _ hb, Sem.run_ite]
          cases q <;> cases q' <;> simp [Op.eqFields]
        · simp [e3]
      · simp [e2]
    · simp [e1]
  · simp at hL

theorem RD.agg4 {σ : Sto} {x1 x2 x3 x4 u : Value} (h : RD σ (.agg [.v x1, .v x2, .v x3, .v x4]) u) : u = .agg #[x1, x2, x3, x4] := by
  generalize hd : D.agg [.v x1, .v x2, .v x3, .v x4] = d at h
  cases h with
  | agg cs vs hl hh =>
    simp only [D.agg.injEq] at hd
    subst hd
    match vs, hl with
    | [a, b, c, d], _ =>
      have h1 := (hh 0 _ _ rfl rfl).val_v
      have h2 := (hh 1 _ _ rfl rfl).val_v
      have h3 := (hh 2 _ _ rfl rfl).val_v
      have h4 := (hh 3 _ _ rfl rfl).val_v
      rw [h1, h2, h3, h4]
  | _ => cases hd

section
variable {N : Nm} {Q : Exit → St → Prop} {tm : Nat → T} {ob : List Ob} {ops l : List Oper} {ty : TypeId} {pos : String} {after : Array Edge} {gd : Option (Nat × Bool)} {d : Nat} {G : List Nat}

theorem WG.eqCt {x y : Operand} {t2 : TypeId} {a b c a' b' c' : Int} {q q' : Bool} (k : WG G env.P N ops l Q ⟨upd tm d (.d (dB (decide (a = a' ∧ b = b' ∧ c = c' ∧ q = q')))), ob⟩)
    (hw : St.want ⟨tm, ob⟩ ops ⟨some d, .binOp .eql 87 x y t2, ty, pos, after, gd⟩ = some true := by exact rfl) (hd : Nat.blt d N.n = true := by exact rfl)
    (hx : St.ev ⟨tm, ob⟩ x = .d (.agg [dI a, dI b, dI c, dB q]) := by exact rfl) (hy : St.ev ⟨tm, ob⟩ y = .d (.agg [dI a', dI b', dI c', dB q']) := by exact rfl) :
    WG G env.P N ops (⟨some d, .binOp .eql 87 x y t2, ty, pos, after, gd⟩ :: l) Q ⟨tm, ob⟩ :=
  WL.val (S := ⟨tm, ob⟩) hw hd (fun w0 σ0 ac w g r => by
    have h1 := RD.agg4 ((hx ▸ r.ev x : RT g (.d (.agg [dI a, dI b, dI c, dB q])) _).inv_d)
    have h2 := RD.agg4 ((hy ▸ r.ev y : RT g (.d (.agg [dI a', dI b', dI c', dB q'])) _).inv_d)
    refine ⟨.bool (decide (a = a' ∧ b = b' ∧ c = c' ∧ q = q')), ?_, .d _ _ (.v _)⟩
    simp only [execOp, h1, h2, Sem.run_bind]
    rw [run_eqGuard_agg w _ _ _ _ _ _ (by kernel_rfl)]
    simp only [Result.andThen_ok, run_eql_struct, ct_equal, Sem.run_pure]) k
end

noncomputable def sureM (cs : List Co) : Bool := decide (coreM cs = 0 ∧ (countM cs).low = 1 ∧ (countM cs).high = 1 ∧ (countM cs).fails = false)

theorem SureCore_fn (cs : List Co) (hf : fitsK cs) : Fun env.P 63 [coresD cs] (.d (dB (sureM cs))) [] := by
  have h := CountCore_fn cs hf
  unfold sureM
  generalize coreM cs = a at h
  generalize (countM cs).low = b at h
  generalize (countM cs).high = c at h
  generalize (countM cs).fails = q at h
  refine Fun.intro Try.func63 rfl (by kernel_rfl) rfl ?_
  repeat' (first | refine W.seq ?_ | refine W.rg ?_ | refine W.dra' ?_ | refine W.block ?_ | refine W.skip ?_ | refine W.exit ?_ | refine W.cond_true' ?_ | refine W.cond_false' ?_ | refine WG.nil ?_ | refine WG.run' (E := env) ?_ | refine WG.gt' ?_ | refine WG.gf' ?_ | refine WG.ixm' (E := env) ?_ | refine WG.ixo' (E := env) ?_ | refine WG.legm' (E := env) ?_ | refine WG.slS' (E := env) ?_ | refine WG.slD' (E := env) ?_ | refine WG.ap' (E := env) ?_ | refine WD.nil ?_ | refine WD.bs' (E := env) ?_ | refine WD.s' (E := env) (t := .d _) ?_ | refine WD.p' ?_ | refine WD.px' ?_ | refine WD.s' (E := env) (t := .ea _ _) ?_ | refine WD.s' (E := env) (t := .lp _ _) ?_ | refine WD.s' (E := env) (t := .og _ _) ?_ | refine WD.s' (E := env) (t := .agg _) ?_ | refine WD.s' (E := env) (t := .tup _) ?_ | refine WD.s' (E := env) (t := .clo _ _) ?_ | refine WD.ixm' (E := env) ?_ | refine WD.ixo' (E := env) ?_ | refine WD.legm' (E := env) ?_ | refine WD.slS' (E := env) ?_ | refine WD.slD' (E := env) ?_ | refine WG.eqCt ?_ | refine WG.c (E := env) rfl rfl (h) rfl rfl ?_ | refine WD.c (E := env) rfl rfl (h) rfl rfl ?_ | refine WG.co (E := env) rfl rfl (h) rfl rfl rfl rfl ?_ | refine WG.cx (E := env) rfl (h) rfl ?_ | ((first | refine WG.sp' (fun h => ?_) fun h => ?_ | refine W.cond' (fun h => ?_) fun h => ?_ | refine WD.sp' (fun h => ?_) fun h => ?_) <;> (try simp only [decide_eq_true_eq, decide_eq_false_iff_not, Bool.not_eq_true', Bool.not_eq_false', Bool.and_eq_true, Bool.or_eq_true, Bool.and_eq_false_iff, Bool.or_eq_false_iff, Bool.not_eq_true, Bool.not_eq_false, Int.not_lt, Int.not_le, List.length_map, beq_self_eq_true, Bool.true_eq_false, Bool.false_eq_true] at h) <;> (try (exfalso; first | contradiction | omega))))
  all_goals (refine W.ret ?_; (first | refine RetQ.b' ?_ | refine RetQ.i' ?_ | refine RetQ.d' ?_ | refine RetQ.t2' ?_ ?_ | refine RetQ.t3' ?_ ?_ ?_))
  all_goals rfl

theorem SureCoreS_fn (cs : List Co) (hf : fitsK cs) : Fun env.P 62 [coresD cs] (.d (dB (sureM cs))) [] := by
  have h := CountCoreS_fn cs hf
  unfold sureM
  generalize coreM cs = a at h
  generalize (countM cs).low = b at h
  generalize (countM cs).high = c at h
  generalize (countM cs).fails = q at h
  refine Fun.intro Try.func62 rfl (by kernel_rfl) rfl ?_
  repeat' (first | refine W.seq ?_ | refine W.rg ?_ | refine W.dra' ?_ | refine W.block ?_ | refine W.skip ?_ | refine W.exit ?_ | refine W.cond_true' ?_ | refine W.cond_false' ?_ | refine WG.nil ?_ | refine WG.run' (E := env) ?_ | refine WG.gt' ?_ | refine WG.gf' ?_ | refine WG.ixm' (E := env) ?_ | refine WG.ixo' (E := env) ?_ | refine WG.legm' (E := env) ?_ | refine WG.slS' (E := env) ?_ | refine WG.slD' (E := env) ?_ | refine WG.ap' (E := env) ?_ | refine WD.nil ?_ | refine WD.bs' (E := env) ?_ | refine WD.s' (E := env) (t := .d _) ?_ | refine WD.p' ?_ | refine WD.px' ?_ | refine WD.s' (E := env) (t := .ea _ _) ?_ | refine WD.s' (E := env) (t := .lp _ _) ?_ | refine WD.s' (E := env) (t := .og _ _) ?_ | refine WD.s' (E := env) (t := .agg _) ?_ | refine WD.s' (E := env) (t := .tup _) ?_ | refine WD.s' (E := env) (t := .clo _ _) ?_ | refine WD.ixm' (E := env) ?_ | refine WD.ixo' (E := env) ?_ | refine WD.legm' (E := env) ?_ | refine WD.slS' (E := env) ?_ | refine WD.slD' (E := env) ?_ | refine WG.c (E := env) rfl rfl (h) rfl rfl ?_ | refine WD.c (E := env) rfl rfl (h) rfl rfl ?_ | refine WG.co (E := env) rfl rfl (h) rfl rfl rfl rfl ?_ | refine WG.cx (E := env) rfl (h) rfl ?_ | ((first | refine WG.sp' (fun h => ?_) fun h => ?_ | refine W.cond' (fun h => ?_) fun h => ?_ | refine WD.sp' (fun h => ?_) fun h => ?_) <;> (try simp only [decide_eq_true_eq, decide_eq_false_iff_not, Bool.not_eq_true', Bool.not_eq_false', Bool.and_eq_true, Bool.or_eq_true, Bool.and_eq_false_iff, Bool.or_eq_false_iff, Bool.not_eq_true, Bool.not_eq_false, Int.not_lt, Int.not_le, List.length_map, beq_self_eq_true, Bool.true_eq_false, Bool.false_eq_true] at h) <;> (try (exfalso; first | contradiction | omega))))
  all_goals (refine W.ret ?_; (first | refine RetQ.b' ?_ | refine RetQ.i' ?_ | refine RetQ.d' ?_ | refine RetQ.t2' ?_ ?_ | refine RetQ.t3' ?_ ?_ ?_))
  all_goals (simp [*])

theorem SureCore_both (cs : List Co) (hf : fitsK cs) : ∃ r : Bool, Fun env.P 63 [coresD cs] (.d (dB r)) [] ∧ Fun env.P 62 [coresD cs] (.d (dB r)) [] :=
  ⟨_, SureCore_fn cs hf, SureCoreS_fn cs hf⟩

end Go.Proofs.Yteooogngdejdgaa
