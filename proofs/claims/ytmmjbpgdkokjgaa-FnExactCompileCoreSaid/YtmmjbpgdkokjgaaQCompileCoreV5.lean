/-
  What the reference's functions on whole values return: shape, fault. Conditions: at most 200 cells where the shape is asked.
-/
import Derived.Test.YtmmjbpgdkokjgaaQCompileCoreV4
set_option linter.unusedVariables false
set_option linter.unusedSimpArgs false
set_option maxRecDepth 100000
namespace Go.Proofs.Ytmmjbpgdkokjgaa
open Go.RowKit

def shapeRes : Option (V × Nat) → List T
  | some (v, b) => [.d (dI b), .d (dI v.depth)]
  | none => [.d (dI (-1)), .d (dI 0)]

theorem valAtM_ge {cs : List Cell} {f k : Nat} (h : cs.length ≤ k) : valAtM cs f k = none := by
  cases f with
  | zero => rfl
  | succ f => rw [valAtM, if_neg (by omega)]

theorem kidsM_bad {rec : Nat → Option (V × Nat)} {cs : List Cell} {c : Cell} {r i : Nat} {keys : List ByteArray} {kids : List V} {next : Nat}
    (h : (c.kind = 5 ∧ (cs.getD next default).key ≠ noS) ∨ (c.kind = 6 ∧ 0 < i ∧ Op.bytesLess (keys.getD (i - 1) default).data.toList (cs.getD next default).key.data.toList = false)) :
    kidsM rec cs c (r + 1) i keys kids next = none := by
  simp only [kidsM]
  split
  · rfl
  · rw [if_pos h]

set_option maxHeartbeats 2000000 in
theorem l1Shape_fn (cs : List Cell) (hl : cs.length ≤ 200) : ∀ (f k dep : Nat), cs.length < k + f → k ≤ 201 → dep ≤ k → Fun env.P 85 [cellsD cs, dI k, dI dep] (.tup (shapeRes (valAtM cs f k))) []
  | 0, k, dep, h, hk, hd => by
    rw [valAtM_ge (by omega)]
    refine Fun.intro Try.func85 rfl (by kernel_rfl) rfl ?_
    repeat' (first | refine W.seq ?_ | refine W.rg ?_ | refine W.dra' ?_ | refine W.block ?_ | refine W.skip ?_ | refine W.exit ?_ | refine W.cond_true' ?_ | refine W.cond_false' ?_ | refine WG.nil ?_ | refine WG.run' (E := env) ?_ | refine WG.gt' ?_ | refine WG.gf' ?_ | refine WG.ixm' (E := env) ?_ | refine WG.ixo' (E := env) ?_ | refine WG.legm' (E := env) ?_ | refine WG.slS' (E := env) ?_ | refine WG.slD' (E := env) ?_ | refine WG.ap' (E := env) ?_ | refine WD.nil ?_ | refine WD.bs' (E := env) ?_ | refine WD.s' (E := env) (t := .d _) ?_ | refine WD.p' ?_ | refine WD.px' ?_ | refine WD.s' (E := env) (t := .ea _ _) ?_ | refine WD.s' (E := env) (t := .lp _ _) ?_ | refine WD.s' (E := env) (t := .og _ _) ?_ | refine WD.s' (E := env) (t := .agg _) ?_ | refine WD.s' (E := env) (t := .tup _) ?_ | refine WD.s' (E := env) (t := .clo _ _) ?_ | refine WD.ixm' (E := env) ?_ | refine WD.ixo' (E := env) ?_ | refine WD.legm' (E := env) ?_ | refine WD.slS' (E := env) ?_ | refine WD.slD' (E := env) ?_ | ((first | refine WG.sp' (fun h => ?_) fun h => ?_ | refine W.cond' (fun h => ?_) fun h => ?_ | refine WD.sp' (fun h => ?_) fun h => ?_) <;> (try simp only [atS, List.length_map, beq_self_eq_true] at h) <;> (try (exfalso; first | contradiction | omega))))
    all_goals (refine W.ret ?_; (first | refine RetQ.b' ?_ | refine RetQ.i' ?_ | refine RetQ.d' ?_ | refine RetQ.t2' ?_ ?_ | refine RetQ.t3' ?_ ?_ ?_))
    all_goals rfl
  | f + 1, k, dep, h, hk, hd => by
    have ih := l1Shape_fn cs hl f
    refine Fun.intro Try.func85 rfl (by kernel_rfl) rfl ?_
    repeat' (first | refine W.seq ?_ | refine W.rg ?_ | refine W.dra' ?_ | refine W.block ?_ | refine W.skip ?_ | refine W.exit ?_ | refine W.cond_true' ?_ | refine W.cond_false' ?_ | refine WG.nil ?_ | refine WG.run' (E := env) ?_ | refine WG.gt' ?_ | refine WG.gf' ?_ | refine WG.ixm' (E := env) ?_ | refine WG.ixo' (E := env) ?_ | refine WG.legm' (E := env) ?_ | refine WG.slS' (E := env) ?_ | refine WG.slD' (E := env) ?_ | refine WG.ap' (E := env) ?_ | refine WD.nil ?_ | refine WD.bs' (E := env) ?_ | refine WD.s' (E := env) (t := .d _) ?_ | refine WD.p' ?_ | refine WD.px' ?_ | refine WD.s' (E := env) (t := .ea _ _) ?_ | refine WD.s' (E := env) (t := .lp _ _) ?_ | refine WD.s' (E := env) (t := .og _ _) ?_ | refine WD.s' (E := env) (t := .agg _) ?_ | refine WD.s' (E := env) (t := .tup _) ?_ | refine WD.s' (E := env) (t := .clo _ _) ?_ | refine WD.ixm' (E := env) ?_ | refine WD.ixo' (E := env) ?_ | refine WD.legm' (E := env) ?_ | refine WD.slS' (E := env) ?_ | refine WD.slD' (E := env) ?_ | ((first | refine WG.sp' (fun h => ?_) fun h => ?_ | refine W.cond' (fun h => ?_) fun h => ?_ | refine WD.sp' (fun h => ?_) fun h => ?_) <;> (try simp only [atS, List.length_map, beq_self_eq_true] at h) <;> (try (exfalso; first | contradiction | omega))))
    · rw [valAtM_ge (by omega)]
      (refine W.ret ?_; (first | refine RetQ.b' ?_ | refine RetQ.i' ?_ | refine RetQ.d' ?_ | refine RetQ.t2' ?_ ?_ | refine RetQ.t3' ?_ ?_ ?_))
      all_goals rfl
    rename_i hkl _
    generalize hc : cs.getD (Int.toNat k) default = c
    have hc' : cs.getD k default = c := by rw [← hc]; simp
    refine W.loopI (fun m S => ∃ (i : Nat) (keys : List ByteArray) (kids : List V) (next : Nat) (last : ByteArray) (deep : Int), m = c.n.toNat - i ∧ ((i ≤ c.n.toNat ∨ i = 0) ∧ k + 1 + i ≤ next ∧ next ≤ cs.length ∧ deep ≤ 200 ∧ deep = V.depths kids ∧ (c.kind = 6 → keys.length = i) ∧ (c.kind = 6 → 0 < i → last = keys.getD (i - 1) default) ∧
        kidsM (valAtM cs f) cs c c.n.toNat 0 [] [] (k + 1) = kidsM (valAtM cs f) cs c (c.n.toNat - i) i keys kids next) ∧
      S = ⟨ofL [(0, .d (cellsD cs)), (2, vI .i64 dep), (8, .lp 0 0), (9, vI .i64 deep), (10, vI .i64 next), (11, vS last), (12, vI .i64 i)], [.pv (c.row.map .d)]⟩) _ _
        ⟨0, [], [], k + 1, ⟨#[]⟩, 0, rfl, ⟨.inr rfl, Nat.le_refl _, by omega, by decide, rfl, fun _ => rfl, fun _ h => absurd h (by omega), rfl⟩, rfl⟩ (St.imp.of_le (by (refine le_ofL rfl ?_ ?_ <;> (repeat (first | exact trivial | refine ⟨⟨rfl, rfl⟩, ?_⟩ | refine ⟨rfl, .inl rfl, ?_⟩ | refine ⟨rfl, .inr rfl, ?_⟩))))) ?_
    rintro m S ⟨i, keys, kids, next, last, deep, rfl, ⟨hi, hn1, hn2, hdp, hde, hk6, hla, he⟩, rfl⟩
    have hd0 := (V.depths_le kids).1
    by_cases hin : (i : Int) < c.n
    · have hn : c.n.toNat - i = (c.n.toNat - (i + 1)) + 1 := by omega
      rw [hn] at he
      by_cases hnx : next < cs.length
      · by_cases hbad : (c.kind = 5 ∧ (cs.getD next default).key ≠ noS) ∨ (c.kind = 6 ∧ 0 < i ∧ Op.bytesLess last.data.toList (cs.getD next default).key.data.toList = false)
        · rw [kidsM_bad (hbad.imp id fun ⟨a, b, c⟩ => ⟨a, b, hla a b ▸ c⟩)] at he
          have e : valAtM cs (f + 1) k = none := by rw [valAtM, if_pos (by omega), hc', he]
          rw [e]
          repeat' (first | refine W.seq ?_ | refine W.rg ?_ | refine W.dra' ?_ | refine W.block ?_ | refine W.skip ?_ | refine W.exit ?_ | refine W.cond_true' ?_ | refine W.cond_false' ?_ | refine WG.nil ?_ | refine WG.run' (E := env) ?_ | refine WG.gt' ?_ | refine WG.gf' ?_ | refine WG.ixm' (E := env) ?_ | refine WG.ixo' (E := env) ?_ | refine WG.legm' (E := env) ?_ | refine WG.slS' (E := env) ?_ | refine WG.slD' (E := env) ?_ | refine WG.ap' (E := env) ?_ | refine WD.nil ?_ | refine WD.bs' (E := env) ?_ | refine WD.s' (E := env) (t := .d _) ?_ | refine WD.p' ?_ | refine WD.px' ?_ | refine WD.s' (E := env) (t := .ea _ _) ?_ | refine WD.s' (E := env) (t := .lp _ _) ?_ | refine WD.s' (E := env) (t := .og _ _) ?_ | refine WD.s' (E := env) (t := .agg _) ?_ | refine WD.s' (E := env) (t := .tup _) ?_ | refine WD.s' (E := env) (t := .clo _ _) ?_ | refine WD.ixm' (E := env) ?_ | refine WD.ixo' (E := env) ?_ | refine WD.legm' (E := env) ?_ | refine WD.slS' (E := env) ?_ | refine WD.slD' (E := env) ?_ | ((first | refine WG.sp' (fun h => ?_) fun h => ?_ | refine W.cond' (fun h => ?_) fun h => ?_ | refine WD.sp' (fun h => ?_) fun h => ?_) <;> (try simp only [atS, List.length_map, beq_self_eq_true] at h) <;> (try (exfalso; first | contradiction | omega))))
          all_goals first | ((refine W.ret ?_; (first | refine RetQ.b' ?_ | refine RetQ.i' ?_ | refine RetQ.d' ?_ | refine RetQ.t2' ?_ ?_ | refine RetQ.t3' ?_ ?_ ?_)); all_goals rfl; done) | (exfalso; (try simp only [Int.toNat_natCast, Int.toNat_zero, toNat_cc, toNat_c1, toNat_cm1, toNat_cm] at *); rcases hbad with ⟨g1, g2⟩ | ⟨g1, g2, g3⟩ <;> first | contradiction | omega | (simp_all; done) | (simp_all; omega))
        · cases hv : valAtM cs f next with
          | none =>
            have ih' := (ih next (dep + 1) (by omega) (by omega) (by omega)).cast (args' := [cellsD cs, dI next, dI ((dep : Int) + 1)]) (by simp) (congrArg (fun x => T.tup (shapeRes x)) hv) rfl
            simp only [kidsM, hv] at he
            have e : valAtM cs (f + 1) k = none := by rw [valAtM, if_pos (by omega), hc', he]
            rw [e]
            repeat' (first | refine W.seq ?_ | refine W.rg ?_ | refine W.dra' ?_ | refine W.block ?_ | refine W.skip ?_ | refine W.exit ?_ | refine W.cond_true' ?_ | refine W.cond_false' ?_ | refine WG.nil ?_ | refine WG.run' (E := env) ?_ | refine WG.gt' ?_ | refine WG.gf' ?_ | refine WG.ixm' (E := env) ?_ | refine WG.ixo' (E := env) ?_ | refine WG.legm' (E := env) ?_ | refine WG.slS' (E := env) ?_ | refine WG.slD' (E := env) ?_ | refine WG.ap' (E := env) ?_ | refine WD.nil ?_ | refine WD.bs' (E := env) ?_ | refine WD.s' (E := env) (t := .d _) ?_ | refine WD.p' ?_ | refine WD.px' ?_ | refine WD.s' (E := env) (t := .ea _ _) ?_ | refine WD.s' (E := env) (t := .lp _ _) ?_ | refine WD.s' (E := env) (t := .og _ _) ?_ | refine WD.s' (E := env) (t := .agg _) ?_ | refine WD.s' (E := env) (t := .tup _) ?_ | refine WD.s' (E := env) (t := .clo _ _) ?_ | refine WD.ixm' (E := env) ?_ | refine WD.ixo' (E := env) ?_ | refine WD.legm' (E := env) ?_ | refine WD.slS' (E := env) ?_ | refine WD.slD' (E := env) ?_ | refine WG.c (E := env) rfl rfl (ih') rfl rfl ?_ | refine WD.c (E := env) rfl rfl (ih') rfl rfl ?_ | refine WG.co (E := env) rfl rfl (ih') rfl rfl rfl rfl ?_ | refine WG.cx (E := env) rfl (ih') rfl ?_ | ((first | refine WG.sp' (fun h => ?_) fun h => ?_ | refine W.cond' (fun h => ?_) fun h => ?_ | refine WD.sp' (fun h => ?_) fun h => ?_) <;> (try simp only [atS, List.length_map, beq_self_eq_true] at h) <;> (try (exfalso; first | contradiction | omega))))
            all_goals first | ((refine W.ret ?_; (first | refine RetQ.b' ?_ | refine RetQ.i' ?_ | refine RetQ.d' ?_ | refine RetQ.t2' ?_ ?_ | refine RetQ.t3' ?_ ?_ ?_)); all_goals rfl; done) | (exfalso; (try simp only [Int.toNat_natCast, Int.toNat_zero, toNat_cc, toNat_c1, toNat_cm1, toNat_cm] at *); exact hbad (.inl ⟨by assumption, by assumption⟩); done) | (exfalso; (try simp only [Int.toNat_natCast, Int.toNat_zero, toNat_cc, toNat_c1, toNat_cm1, toNat_cm] at *); exact hbad (.inr ⟨by assumption, by omega, by assumption⟩); done)
          | some p =>
            obtain ⟨v, b⟩ := p
            have hb := valAtM_le f next _ _ hv
            have hcount := valAtM_count f next _ _ hv
            have hvd := V.depth_le v
            have ih' := (ih next (dep + 1) (by omega) (by omega) (by omega)).cast (args' := [cellsD cs, dI next, dI ((dep : Int) + 1)]) (by simp) (congrArg (fun x => T.tup (shapeRes x)) hv) rfl
            simp only [kidsM, hv] at he
            rw [if_neg (fun h => hbad (h.imp id fun ⟨a, b, c⟩ => ⟨a, b, (hla a b).symm ▸ c⟩))] at he
            repeat' (first | refine W.seq ?_ | refine W.rg ?_ | refine W.dra' ?_ | refine W.block ?_ | refine W.skip ?_ | refine W.exit ?_ | refine W.cond_true' ?_ | refine W.cond_false' ?_ | refine WG.nil ?_ | refine WG.run' (E := env) ?_ | refine WG.gt' ?_ | refine WG.gf' ?_ | refine WG.ixm' (E := env) ?_ | refine WG.ixo' (E := env) ?_ | refine WG.legm' (E := env) ?_ | refine WG.slS' (E := env) ?_ | refine WG.slD' (E := env) ?_ | refine WG.ap' (E := env) ?_ | refine WD.nil ?_ | refine WD.bs' (E := env) ?_ | refine WD.s' (E := env) (t := .d _) ?_ | refine WD.p' ?_ | refine WD.px' ?_ | refine WD.s' (E := env) (t := .ea _ _) ?_ | refine WD.s' (E := env) (t := .lp _ _) ?_ | refine WD.s' (E := env) (t := .og _ _) ?_ | refine WD.s' (E := env) (t := .agg _) ?_ | refine WD.s' (E := env) (t := .tup _) ?_ | refine WD.s' (E := env) (t := .clo _ _) ?_ | refine WD.ixm' (E := env) ?_ | refine WD.ixo' (E := env) ?_ | refine WD.legm' (E := env) ?_ | refine WD.slS' (E := env) ?_ | refine WD.slD' (E := env) ?_ | refine WG.c (E := env) rfl rfl (ih') rfl rfl ?_ | refine WD.c (E := env) rfl rfl (ih') rfl rfl ?_ | refine WG.co (E := env) rfl rfl (ih') rfl rfl rfl rfl ?_ | refine WG.cx (E := env) rfl (ih') rfl ?_ | ((first | refine WG.sp' (fun h => ?_) fun h => ?_ | refine W.cond' (fun h => ?_) fun h => ?_ | refine WD.sp' (fun h => ?_) fun h => ?_) <;> (try simp only [atS, List.length_map, beq_self_eq_true] at h) <;> (try (exfalso; first | contradiction | omega))))
            all_goals first
              | (exfalso; (try simp only [Int.toNat_natCast, Int.toNat_zero, toNat_cc, toNat_c1, toNat_cm1, toNat_cm] at *); exact hbad (.inl ⟨by assumption, by assumption⟩); done)
              | (exfalso; (try simp only [Int.toNat_natCast, Int.toNat_zero, toNat_cc, toNat_c1, toNat_cm1, toNat_cm] at *); exact hbad (.inr ⟨by assumption, by omega, by assumption⟩); done)
              | ((try simp only [Int.toNat_natCast, Int.toNat_zero, toNat_cc, toNat_c1, toNat_cm1, toNat_cm] at *)
                 refine ⟨_, _, ?_, ⟨i + 1, if c.kind = 6 then keys ++ [(cs.getD next default).key] else keys, kids ++ [v], b, (cs.getD next default).key, _, rfl, ⟨?_, ?_, ?_, ?_, ?_, ?_, ?_, ?_⟩, rfl⟩, (St.imp.of_le (by (refine le_ofL rfl ?_ ?_ <;> (repeat (first | exact trivial | refine ⟨⟨rfl, rfl⟩, ?_⟩ | refine ⟨rfl, .inl rfl, ?_⟩ | refine ⟨rfl, .inr rfl, ?_⟩)))))⟩
                 · omega
                 · omega
                 · omega
                 · omega
                 · omega
                 · rw [V.depths_app]; omega
                 · intro h6; rw [if_pos h6]; simp [hk6 h6]
                 · intro h6 _; rw [if_pos h6]; simp [← hk6 h6]
                 · exact he)
      · simp only [kidsM, valAtM_ge (Nat.le_of_not_lt hnx)] at he
        have e : valAtM cs (f + 1) k = none := by rw [valAtM, if_pos (by omega), hc', he]
        rw [e]
        repeat' (first | refine W.seq ?_ | refine W.rg ?_ | refine W.dra' ?_ | refine W.block ?_ | refine W.skip ?_ | refine W.exit ?_ | refine W.cond_true' ?_ | refine W.cond_false' ?_ | refine WG.nil ?_ | refine WG.run' (E := env) ?_ | refine WG.gt' ?_ | refine WG.gf' ?_ | refine WG.ixm' (E := env) ?_ | refine WG.ixo' (E := env) ?_ | refine WG.legm' (E := env) ?_ | refine WG.slS' (E := env) ?_ | refine WG.slD' (E := env) ?_ | refine WG.ap' (E := env) ?_ | refine WD.nil ?_ | refine WD.bs' (E := env) ?_ | refine WD.s' (E := env) (t := .d _) ?_ | refine WD.p' ?_ | refine WD.px' ?_ | refine WD.s' (E := env) (t := .ea _ _) ?_ | refine WD.s' (E := env) (t := .lp _ _) ?_ | refine WD.s' (E := env) (t := .og _ _) ?_ | refine WD.s' (E := env) (t := .agg _) ?_ | refine WD.s' (E := env) (t := .tup _) ?_ | refine WD.s' (E := env) (t := .clo _ _) ?_ | refine WD.ixm' (E := env) ?_ | refine WD.ixo' (E := env) ?_ | refine WD.legm' (E := env) ?_ | refine WD.slS' (E := env) ?_ | refine WD.slD' (E := env) ?_ | ((first | refine WG.sp' (fun h => ?_) fun h => ?_ | refine W.cond' (fun h => ?_) fun h => ?_ | refine WD.sp' (fun h => ?_) fun h => ?_) <;> (try simp only [atS, List.length_map, beq_self_eq_true] at h) <;> (try (exfalso; first | contradiction | omega))))
        (refine W.ret ?_; (first | refine RetQ.b' ?_ | refine RetQ.i' ?_ | refine RetQ.d' ?_ | refine RetQ.t2' ?_ ?_ | refine RetQ.t3' ?_ ?_ ?_))
        all_goals rfl
    · have hn : c.n.toNat - i = 0 := by omega
      rw [hn, kidsM] at he
      have e : valAtM cs (f + 1) k = some (.mk c.kind c.num c.text keys kids, next) := by rw [valAtM, if_pos (by omega), hc', he]
      rw [e]
      repeat' (first | refine W.seq ?_ | refine W.rg ?_ | refine W.dra' ?_ | refine W.block ?_ | refine W.skip ?_ | refine W.exit ?_ | refine W.cond_true' ?_ | refine W.cond_false' ?_ | refine WG.nil ?_ | refine WG.run' (E := env) ?_ | refine WG.gt' ?_ | refine WG.gf' ?_ | refine WG.ixm' (E := env) ?_ | refine WG.ixo' (E := env) ?_ | refine WG.legm' (E := env) ?_ | refine WG.slS' (E := env) ?_ | refine WG.slD' (E := env) ?_ | refine WG.ap' (E := env) ?_ | refine WD.nil ?_ | refine WD.bs' (E := env) ?_ | refine WD.s' (E := env) (t := .d _) ?_ | refine WD.p' ?_ | refine WD.px' ?_ | refine WD.s' (E := env) (t := .ea _ _) ?_ | refine WD.s' (E := env) (t := .lp _ _) ?_ | refine WD.s' (E := env) (t := .og _ _) ?_ | refine WD.s' (E := env) (t := .agg _) ?_ | refine WD.s' (E := env) (t := .tup _) ?_ | refine WD.s' (E := env) (t := .clo _ _) ?_ | refine WD.ixm' (E := env) ?_ | refine WD.ixo' (E := env) ?_ | refine WD.legm' (E := env) ?_ | refine WD.slS' (E := env) ?_ | refine WD.slD' (E := env) ?_ | ((first | refine WG.sp' (fun h => ?_) fun h => ?_ | refine W.cond' (fun h => ?_) fun h => ?_ | refine WD.sp' (fun h => ?_) fun h => ?_) <;> (try simp only [atS, List.length_map, beq_self_eq_true] at h) <;> (try (exfalso; first | contradiction | omega))))
      (refine W.ret ?_; (first | refine RetQ.b' ?_ | refine RetQ.i' ?_ | refine RetQ.d' ?_ | refine RetQ.t2' ?_ ?_ | refine RetQ.t3' ?_ ?_ ?_))
      · rfl
      · rw [hde]; rfl
end Go.Proofs.Ytmmjbpgdkokjgaa
