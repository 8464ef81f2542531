/-
  Values with their parts, and what the program's walk from cells to a value returns. Conditions: at most 2^20 cells.
-/
import Derived.Test.YtmmjbpgdkokjgaaQCompileCoreEnv
import Derived.Test.YtmmjbpgdkokjgaaQCompileCoreV2
import Derived.Test.YtmmjbpgdkokjgaaQCompileCorePgD
set_option linter.unusedVariables false
set_option linter.unusedSimpArgs false
set_option maxRecDepth 100000
namespace Go.Proofs.Ytmmjbpgdkokjgaa
open Go.RowKit

inductive V where
  | mk (kind num : Int) (text : ByteArray) (keys : List ByteArray) (kids : List V)
  deriving Inhabited

abbrev keyRow (k : ByteArray) : List D := [dS k]

mutual
def V.row : V → List D
  | .mk k n t ks kids => [dI k, dI n, dS t, .sl 1 (ks.map keyRow), .sl 5 (V.rows kids)]
def V.rows : List V → List (List D)
  | [] => []
  | v :: r => V.row v :: V.rows r
end

theorem V.rows_app (v : V) : ∀ l : List V, V.rows (l ++ [v]) = V.rows l ++ [v.row]
  | [] => rfl
  | x :: r => by rw [List.cons_append]; simp only [V.rows]; rw [V.rows_app v r]; rfl

def V.zero : V := .mk 0 0 noS [] []

/-- The elements or members of a cell, one after the other: keys, values, where the next begins. -/
def kidsM (rec : Nat → Option (V × Nat)) (cs : List Cell) (c : Cell) : Nat → Nat → List ByteArray → List V → Nat → Option (List ByteArray × List V × Nat)
  | 0, _, keys, kids, next => some (keys, kids, next)
  | r + 1, i, keys, kids, next =>
    match rec next with
    | none => none
    | some (kid, behind) =>
      if (c.kind = 5 ∧ (cs.getD next default).key ≠ noS) ∨ (c.kind = 6 ∧ 0 < i ∧ Op.bytesLess (keys.getD (i - 1) default).data.toList (cs.getD next default).key.data.toList = false) then none
      else kidsM rec cs c r (i + 1) (if c.kind = 6 then keys ++ [(cs.getD next default).key] else keys) (kids ++ [kid]) behind

/-- The value whose first cell is at a place, and what stands behind it. -/
def valAtM (cs : List Cell) : Nat → Nat → Option (V × Nat)
  | 0, _ => none
  | f + 1, k =>
    if k < cs.length then
      match kidsM (valAtM cs f) cs (cs.getD k default) (cs.getD k default).n.toNat 0 [] [] (k + 1) with
      | none => none
      | some (keys, kids, next) => some (.mk (cs.getD k default).kind (cs.getD k default).num (cs.getD k default).text keys kids, next)
    else none

def valRes : Option (V × Nat) → List T
  | some (v, b) => [.d (.agg v.row), .d (dI b), .d (dB true)]
  | none => [.d (.agg V.zero.row), .d (dI 0), .d (dB false)]

theorem kidsM_le {rec : Nat → Option (V × Nat)} {cs : List Cell} {c : Cell} {N : Nat} (hr : ∀ k v b, rec k = some (v, b) → k < b ∧ b ≤ N) : ∀ (r i : Nat) (keys : List ByteArray) (kids : List V) (next : Nat) (x : List ByteArray × List V × Nat),
    kidsM rec cs c r i keys kids next = some x → next ≤ N → next ≤ x.2.2 ∧ x.2.2 ≤ N
  | 0, i, keys, kids, next, x, h, hn => by
    simp only [kidsM, Option.some.injEq] at h
    subst h; exact ⟨Nat.le_refl _, hn⟩
  | r + 1, i, keys, kids, next, x, h, hn => by
    simp only [kidsM] at h
    split at h
    · cases h
    · rename_i kid b hk
      split at h
      · cases h
      · have h1 := hr next kid b hk
        have := kidsM_le hr r _ _ _ b x h h1.2
        omega

theorem valAtM_le {cs : List Cell} : ∀ (f k : Nat) (v : V) (b : Nat), valAtM cs f k = some (v, b) → k < b ∧ b ≤ cs.length
  | 0, k, v, b, h => by simp [valAtM] at h
  | f + 1, k, v, b, h => by
    simp only [valAtM] at h
    split at h
    · rename_i hk
      split at h
      · cases h
      · rename_i keys kids next hx
        simp only [Option.some.injEq, Prod.mk.injEq] at h
        have := kidsM_le (valAtM_le f) _ _ _ _ _ _ hx (by omega)
        simp only at this
        omega
    · cases h

set_option maxHeartbeats 1000000 in
theorem valAt_fn (cs : List Cell) (hl : cs.length ≤ 1048576) : ∀ (f k : Nat), cs.length < k + f → k ≤ 1048577 → Fun env.P 90 [cellsD cs, dI k] (.tup (valRes (valAtM cs f k))) []
  | 0, k, h, hk => by
    refine Fun.intro Try.func90 rfl (by kernel_rfl) rfl ?_
    repeat' (first | refine W.seq ?_ | refine W.rg ?_ | refine W.dra' ?_ | refine W.block ?_ | refine W.skip ?_ | refine W.exit ?_ | refine W.cond_true' ?_ | refine W.cond_false' ?_ | refine WG.nil ?_ | refine WG.run' (E := env) ?_ | refine WG.gt' ?_ | refine WG.gf' ?_ | refine WG.ixm' (E := env) ?_ | refine WG.ixo' (E := env) ?_ | refine WG.legm' (E := env) ?_ | refine WG.slS' (E := env) ?_ | refine WG.slD' (E := env) ?_ | refine WG.ap' (E := env) ?_ | refine WD.nil ?_ | refine WD.bs' (E := env) ?_ | refine WD.s' (E := env) (t := .d _) ?_ | refine WD.p' ?_ | refine WD.px' ?_ | refine WD.s' (E := env) (t := .ea _ _) ?_ | refine WD.s' (E := env) (t := .lp _ _) ?_ | refine WD.s' (E := env) (t := .og _ _) ?_ | refine WD.s' (E := env) (t := .agg _) ?_ | refine WD.s' (E := env) (t := .tup _) ?_ | refine WD.s' (E := env) (t := .clo _ _) ?_ | refine WD.ixm' (E := env) ?_ | refine WD.ixo' (E := env) ?_ | refine WD.legm' (E := env) ?_ | refine WD.slS' (E := env) ?_ | refine WD.slD' (E := env) ?_ | ((first | refine WG.sp' (fun h => ?_) fun h => ?_ | refine W.cond' (fun h => ?_) fun h => ?_ | refine WD.sp' (fun h => ?_) fun h => ?_) <;> (try simp only [atS, List.length_map, beq_self_eq_true] at h) <;> (try (exfalso; first | contradiction | omega))))
    · (refine W.ret ?_; (first | refine RetQ.b' ?_ | refine RetQ.i' ?_ | refine RetQ.d' ?_ | refine RetQ.t2' ?_ ?_ | refine RetQ.t3' ?_ ?_ ?_))
      all_goals rfl
  | f + 1, k, h, hk => by
    have ih := valAt_fn cs hl f
    refine Fun.intro Try.func90 rfl (by kernel_rfl) rfl ?_
    repeat' (first | refine W.seq ?_ | refine W.rg ?_ | refine W.dra' ?_ | refine W.block ?_ | refine W.skip ?_ | refine W.exit ?_ | refine W.cond_true' ?_ | refine W.cond_false' ?_ | refine WG.nil ?_ | refine WG.run' (E := env) ?_ | refine WG.gt' ?_ | refine WG.gf' ?_ | refine WG.ixm' (E := env) ?_ | refine WG.ixo' (E := env) ?_ | refine WG.legm' (E := env) ?_ | refine WG.slS' (E := env) ?_ | refine WG.slD' (E := env) ?_ | refine WG.ap' (E := env) ?_ | refine WD.nil ?_ | refine WD.bs' (E := env) ?_ | refine WD.s' (E := env) (t := .d _) ?_ | refine WD.p' ?_ | refine WD.px' ?_ | refine WD.s' (E := env) (t := .ea _ _) ?_ | refine WD.s' (E := env) (t := .lp _ _) ?_ | refine WD.s' (E := env) (t := .og _ _) ?_ | refine WD.s' (E := env) (t := .agg _) ?_ | refine WD.s' (E := env) (t := .tup _) ?_ | refine WD.s' (E := env) (t := .clo _ _) ?_ | refine WD.ixm' (E := env) ?_ | refine WD.ixo' (E := env) ?_ | refine WD.legm' (E := env) ?_ | refine WD.slS' (E := env) ?_ | refine WD.slD' (E := env) ?_ | ((first | refine WG.sp' (fun h => ?_) fun h => ?_ | refine W.cond' (fun h => ?_) fun h => ?_ | refine WD.sp' (fun h => ?_) fun h => ?_) <;> (try simp only [atS, List.length_map, beq_self_eq_true] at h) <;> (try (exfalso; first | contradiction | omega))))
    · have e : valAtM cs (f + 1) k = none := by rw [valAtM, if_neg (by omega)]
      rw [e]
      (refine W.ret ?_; (first | refine RetQ.b' ?_ | refine RetQ.i' ?_ | refine RetQ.d' ?_ | refine RetQ.t2' ?_ ?_ | refine RetQ.t3' ?_ ?_ ?_))
      all_goals rfl
    rename_i hkl
    generalize hc : cs.getD (Int.toNat k) default = c
    have hc' : cs.getD k default = c := by rw [← hc]; simp
    refine W.adoptPv 2 3 9 rfl rfl ?_
    refine W.adoptPv 2 4 103 rfl rfl ?_
    refine W.loopI (fun m S => ∃ (i : Nat) (keys : List ByteArray) (kids : List V) (next : Nat) (rk rv : List (List D)), m = c.n.toNat - i ∧ ((i ≤ c.n.toNat ∨ i = 0) ∧ k + 1 + i ≤ next ∧ next ≤ cs.length ∧ rv.length = i ∧ keys.length ≤ i ∧ (c.kind = 6 → keys.length = i) ∧
        kidsM (valAtM cs f) cs c c.n.toNat 0 [] [] (k + 1) = kidsM (valAtM cs f) cs c (c.n.toNat - i) i keys kids next ∧ rv = V.rows kids ∧ rk = keys.map keyRow) ∧
      S = ⟨ofL [(0, .d (cellsD cs)), (4, .lp 0 0), (7, .lp 1 0), (8, .lp 2 0), (9, vI .i64 next), (34, vI .i64 c.n), (35, vI .i64 i)],
        [.pv [.d (dI 0), .d (dI 0), .d (dS ByteArray.empty), .d (.nl 1), .d (.nl 5)], .pv (c.row.map .d), .pv [.d (dI c.kind), .d (dI c.num), .d (dS c.text), .og 3 0, .og 4 0],
         .gr 1 9 rk 0 false, .gr 5 103 rv 0 false]⟩) _ _ ⟨0, [], [], k + 1, [], [], rfl, ⟨.inr rfl, Nat.le_refl _, by omega, rfl, Nat.le_refl _, fun _ => rfl, rfl, rfl, rfl⟩, rfl⟩ (St.imp.of_le (by (refine le_ofL rfl ?_ ?_ <;> (repeat (first | exact trivial | refine ⟨⟨rfl, rfl⟩, ?_⟩ | refine ⟨rfl, .inl rfl, ?_⟩ | refine ⟨rfl, .inr rfl, ?_⟩))))) ?_
    rintro m S ⟨i, keys, kids, next, rk, rv, rfl, ⟨hi, hn1, hn2, hrl, hkl2, hk6, he, hrv, rfl⟩, rfl⟩
    repeat' (first | refine W.seq ?_ | refine W.rg ?_ | refine W.dra' ?_ | refine W.block ?_ | refine W.skip ?_ | refine W.exit ?_ | refine W.cond_true' ?_ | refine W.cond_false' ?_ | refine WG.nil ?_ | refine WG.run' (E := env) ?_ | refine WG.gt' ?_ | refine WG.gf' ?_ | refine WG.ixm' (E := env) ?_ | refine WG.ixo' (E := env) ?_ | refine WG.legm' (E := env) ?_ | refine WG.slS' (E := env) ?_ | refine WG.slD' (E := env) ?_ | refine WG.ap' (E := env) ?_ | refine WD.nil ?_ | refine WD.bs' (E := env) ?_ | refine WD.s' (E := env) (t := .d _) ?_ | refine WD.p' ?_ | refine WD.px' ?_ | refine WD.s' (E := env) (t := .ea _ _) ?_ | refine WD.s' (E := env) (t := .lp _ _) ?_ | refine WD.s' (E := env) (t := .og _ _) ?_ | refine WD.s' (E := env) (t := .agg _) ?_ | refine WD.s' (E := env) (t := .tup _) ?_ | refine WD.s' (E := env) (t := .clo _ _) ?_ | refine WD.ixm' (E := env) ?_ | refine WD.ixo' (E := env) ?_ | refine WD.legm' (E := env) ?_ | refine WD.slS' (E := env) ?_ | refine WD.slD' (E := env) ?_ | ((first | refine WG.sp' (fun h => ?_) fun h => ?_ | refine W.cond' (fun h => ?_) fun h => ?_ | refine WD.sp' (fun h => ?_) fun h => ?_) <;> (try simp only [atS, List.length_map, beq_self_eq_true] at h) <;> (try (exfalso; first | contradiction | omega))))
    · have hn : c.n.toNat - i = (c.n.toNat - (i + 1)) + 1 := by omega
      rw [hn] at he
      cases hv : valAtM cs f next with
      | none =>
        have ih' := (ih next (by omega) (by omega)).cast rfl (congrArg (fun x => T.tup (valRes x)) hv) rfl
        simp only [kidsM, hv] at he
        have e : valAtM cs (f + 1) k = none := by rw [valAtM, if_pos (by omega), hc', he]
        rw [e]
        repeat' (first | refine W.seq ?_ | refine W.rg ?_ | refine W.dra' ?_ | refine W.block ?_ | refine W.skip ?_ | refine W.exit ?_ | refine W.cond_true' ?_ | refine W.cond_false' ?_ | refine WG.nil ?_ | refine WG.run' (E := env) ?_ | refine WG.gt' ?_ | refine WG.gf' ?_ | refine WG.ixm' (E := env) ?_ | refine WG.ixo' (E := env) ?_ | refine WG.legm' (E := env) ?_ | refine WG.slS' (E := env) ?_ | refine WG.slD' (E := env) ?_ | refine WG.ap' (E := env) ?_ | refine WD.nil ?_ | refine WD.bs' (E := env) ?_ | refine WD.s' (E := env) (t := .d _) ?_ | refine WD.p' ?_ | refine WD.px' ?_ | refine WD.s' (E := env) (t := .ea _ _) ?_ | refine WD.s' (E := env) (t := .lp _ _) ?_ | refine WD.s' (E := env) (t := .og _ _) ?_ | refine WD.s' (E := env) (t := .agg _) ?_ | refine WD.s' (E := env) (t := .tup _) ?_ | refine WD.s' (E := env) (t := .clo _ _) ?_ | refine WD.ixm' (E := env) ?_ | refine WD.ixo' (E := env) ?_ | refine WD.legm' (E := env) ?_ | refine WD.slS' (E := env) ?_ | refine WD.slD' (E := env) ?_ | refine WG.c (E := env) rfl rfl (ih') rfl rfl ?_ | refine WD.c (E := env) rfl rfl (ih') rfl rfl ?_ | refine WG.co (E := env) rfl rfl (ih') rfl rfl rfl rfl ?_ | refine WG.cx (E := env) rfl (ih') rfl ?_ | ((first | refine WG.sp' (fun h => ?_) fun h => ?_ | refine W.cond' (fun h => ?_) fun h => ?_ | refine WD.sp' (fun h => ?_) fun h => ?_) <;> (try simp only [atS, List.length_map, beq_self_eq_true] at h) <;> (try (exfalso; first | contradiction | omega))))
        (refine W.ret ?_; (first | refine RetQ.b' ?_ | refine RetQ.i' ?_ | refine RetQ.d' ?_ | refine RetQ.t2' ?_ ?_ | refine RetQ.t3' ?_ ?_ ?_))
        all_goals rfl
      | some p =>
        obtain ⟨⟨vk, vn, vt, vks, vkd⟩, b⟩ := p
        have hb := valAtM_le f next _ _ hv
        have ih' := (ih next (by omega) (by omega)).cast rfl (congrArg (fun x => T.tup (valRes x)) hv) rfl
        simp only [kidsM, hv] at he
        by_cases hk : c.kind = 6
        · have hkl3 := hk6 hk
          simp only [hk, if_true, true_and, show ¬ (6 : Int) = 5 by decide, false_and, false_or] at he
          by_cases hge : 0 < i ∧ Op.bytesLess (keys.getD (i - 1) default).data.toList (cs.getD next default).key.data.toList = false
          · rw [if_pos hge] at he
            have e : valAtM cs (f + 1) k = none := by rw [valAtM, if_pos (by omega), hc', he]
            rw [e]
            repeat' (first | refine W.seq ?_ | refine W.rg ?_ | refine W.dra' ?_ | refine W.block ?_ | refine W.skip ?_ | refine W.exit ?_ | refine W.cond_true' ?_ | refine W.cond_false' ?_ | refine WG.nil ?_ | refine WG.run' (E := env) ?_ | refine WG.gt' ?_ | refine WG.gf' ?_ | refine WG.ixm' (E := env) ?_ | refine WG.ixo' (E := env) ?_ | refine WG.legm' (E := env) ?_ | refine WG.slS' (E := env) ?_ | refine WG.slD' (E := env) ?_ | refine WG.ap' (E := env) ?_ | refine WD.nil ?_ | refine WD.bs' (E := env) ?_ | refine WD.s' (E := env) (t := .d _) ?_ | refine WD.p' ?_ | refine WD.px' ?_ | refine WD.s' (E := env) (t := .ea _ _) ?_ | refine WD.s' (E := env) (t := .lp _ _) ?_ | refine WD.s' (E := env) (t := .og _ _) ?_ | refine WD.s' (E := env) (t := .agg _) ?_ | refine WD.s' (E := env) (t := .tup _) ?_ | refine WD.s' (E := env) (t := .clo _ _) ?_ | refine WD.ixm' (E := env) ?_ | refine WD.ixo' (E := env) ?_ | refine WD.legm' (E := env) ?_ | refine WD.slS' (E := env) ?_ | refine WD.slD' (E := env) ?_ | refine WG.c (E := env) rfl rfl (ih') rfl rfl ?_ | refine WD.c (E := env) rfl rfl (ih') rfl rfl ?_ | refine WG.co (E := env) rfl rfl (ih') rfl rfl rfl rfl ?_ | refine WG.cx (E := env) rfl (ih') rfl ?_ | ((first | refine WG.sp' (fun h => ?_) fun h => ?_ | refine W.cond' (fun h => ?_) fun h => ?_ | refine WD.sp' (fun h => ?_) fun h => ?_) <;> (try simp only [atS, List.length_map, beq_self_eq_true] at h) <;> (try (exfalso; first | contradiction | omega))))
            all_goals first | ((refine W.ret ?_; (first | refine RetQ.b' ?_ | refine RetQ.i' ?_ | refine RetQ.d' ?_ | refine RetQ.t2' ?_ ?_ | refine RetQ.t3' ?_ ?_ ?_)); all_goals rfl; done) | (exfalso; (try simp only [Int.toNat_natCast, Int.toNat_zero, toNat_cc, toNat_c1, toNat_cm1, toNat_cm] at *); simp_all; done)
          · rw [if_neg hge] at he
            repeat' (first | refine W.seq ?_ | refine W.rg ?_ | refine W.dra' ?_ | refine W.block ?_ | refine W.skip ?_ | refine W.exit ?_ | refine W.cond_true' ?_ | refine W.cond_false' ?_ | refine WG.nil ?_ | refine WG.run' (E := env) ?_ | refine WG.gt' ?_ | refine WG.gf' ?_ | refine WG.ixm' (E := env) ?_ | refine WG.ixo' (E := env) ?_ | refine WG.legm' (E := env) ?_ | refine WG.slS' (E := env) ?_ | refine WG.slD' (E := env) ?_ | refine WG.ap' (E := env) ?_ | refine WD.nil ?_ | refine WD.bs' (E := env) ?_ | refine WD.s' (E := env) (t := .d _) ?_ | refine WD.p' ?_ | refine WD.px' ?_ | refine WD.s' (E := env) (t := .ea _ _) ?_ | refine WD.s' (E := env) (t := .lp _ _) ?_ | refine WD.s' (E := env) (t := .og _ _) ?_ | refine WD.s' (E := env) (t := .agg _) ?_ | refine WD.s' (E := env) (t := .tup _) ?_ | refine WD.s' (E := env) (t := .clo _ _) ?_ | refine WD.ixm' (E := env) ?_ | refine WD.ixo' (E := env) ?_ | refine WD.legm' (E := env) ?_ | refine WD.slS' (E := env) ?_ | refine WD.slD' (E := env) ?_ | refine WG.c (E := env) rfl rfl (ih') rfl rfl ?_ | refine WD.c (E := env) rfl rfl (ih') rfl rfl ?_ | refine WG.co (E := env) rfl rfl (ih') rfl rfl rfl rfl ?_ | refine WG.cx (E := env) rfl (ih') rfl ?_ | ((first | refine WG.sp' (fun h => ?_) fun h => ?_ | refine W.cond' (fun h => ?_) fun h => ?_ | refine WD.sp' (fun h => ?_) fun h => ?_) <;> (try simp only [atS, List.length_map, beq_self_eq_true] at h) <;> (try (exfalso; first | contradiction | omega))))
            all_goals first
              | (exfalso; (try simp only [Int.toNat_natCast, Int.toNat_zero, toNat_cc, toNat_c1, toNat_cm1, toNat_cm] at *); exact hge ⟨by omega, by assumption⟩; done)
              | ((try simp only [Int.toNat_natCast, Int.toNat_zero, toNat_cc, toNat_c1, toNat_cm1, toNat_cm] at *)
                 refine ⟨_, _, ?_, ⟨i + 1, keys ++ [(cs.getD next default).key], kids ++ [V.mk vk vn vt vks vkd], b, _, _, rfl, ⟨?_, ?_, ?_, ?_, ?_, ?_, ?_, ?_, ?_⟩, rfl⟩, (St.imp.rev 3 1 rfl).trans ((St.imp.rev 4 1 rfl).trans (St.imp.of_le (by (refine le_ofL rfl ?_ ?_ <;> (repeat (first | exact trivial | refine ⟨⟨rfl, rfl⟩, ?_⟩ | refine ⟨rfl, .inl rfl, ?_⟩ | refine ⟨rfl, .inr rfl, ?_⟩))))))⟩
                 · omega
                 · omega
                 · omega
                 · omega
                 · simp; omega
                 · simp; omega
                 · intro _; simp; omega
                 · exact he
                 · rw [V.rows_app, ← hrv]; rfl
                 · rw [List.map_append]; rfl)
        · simp only [hk, if_false, false_and, or_false] at he
          by_cases hge : c.kind = 5 ∧ (cs.getD next default).key ≠ noS
          · rw [if_pos hge] at he
            have e : valAtM cs (f + 1) k = none := by rw [valAtM, if_pos (by omega), hc', he]
            rw [e]
            repeat' (first | refine W.seq ?_ | refine W.rg ?_ | refine W.dra' ?_ | refine W.block ?_ | refine W.skip ?_ | refine W.exit ?_ | refine W.cond_true' ?_ | refine W.cond_false' ?_ | refine WG.nil ?_ | refine WG.run' (E := env) ?_ | refine WG.gt' ?_ | refine WG.gf' ?_ | refine WG.ixm' (E := env) ?_ | refine WG.ixo' (E := env) ?_ | refine WG.legm' (E := env) ?_ | refine WG.slS' (E := env) ?_ | refine WG.slD' (E := env) ?_ | refine WG.ap' (E := env) ?_ | refine WD.nil ?_ | refine WD.bs' (E := env) ?_ | refine WD.s' (E := env) (t := .d _) ?_ | refine WD.p' ?_ | refine WD.px' ?_ | refine WD.s' (E := env) (t := .ea _ _) ?_ | refine WD.s' (E := env) (t := .lp _ _) ?_ | refine WD.s' (E := env) (t := .og _ _) ?_ | refine WD.s' (E := env) (t := .agg _) ?_ | refine WD.s' (E := env) (t := .tup _) ?_ | refine WD.s' (E := env) (t := .clo _ _) ?_ | refine WD.ixm' (E := env) ?_ | refine WD.ixo' (E := env) ?_ | refine WD.legm' (E := env) ?_ | refine WD.slS' (E := env) ?_ | refine WD.slD' (E := env) ?_ | refine WG.c (E := env) rfl rfl (ih') rfl rfl ?_ | refine WD.c (E := env) rfl rfl (ih') rfl rfl ?_ | refine WG.co (E := env) rfl rfl (ih') rfl rfl rfl rfl ?_ | refine WG.cx (E := env) rfl (ih') rfl ?_ | ((first | refine WG.sp' (fun h => ?_) fun h => ?_ | refine W.cond' (fun h => ?_) fun h => ?_ | refine WD.sp' (fun h => ?_) fun h => ?_) <;> (try simp only [atS, List.length_map, beq_self_eq_true] at h) <;> (try (exfalso; first | contradiction | omega))))
            all_goals first | ((refine W.ret ?_; (first | refine RetQ.b' ?_ | refine RetQ.i' ?_ | refine RetQ.d' ?_ | refine RetQ.t2' ?_ ?_ | refine RetQ.t3' ?_ ?_ ?_)); all_goals rfl; done) | (exfalso; (try simp only [Int.toNat_natCast, Int.toNat_zero, toNat_cc, toNat_c1, toNat_cm1, toNat_cm] at *); simp_all; done)
          · rw [if_neg hge] at he
            repeat' (first | refine W.seq ?_ | refine W.rg ?_ | refine W.dra' ?_ | refine W.block ?_ | refine W.skip ?_ | refine W.exit ?_ | refine W.cond_true' ?_ | refine W.cond_false' ?_ | refine WG.nil ?_ | refine WG.run' (E := env) ?_ | refine WG.gt' ?_ | refine WG.gf' ?_ | refine WG.ixm' (E := env) ?_ | refine WG.ixo' (E := env) ?_ | refine WG.legm' (E := env) ?_ | refine WG.slS' (E := env) ?_ | refine WG.slD' (E := env) ?_ | refine WG.ap' (E := env) ?_ | refine WD.nil ?_ | refine WD.bs' (E := env) ?_ | refine WD.s' (E := env) (t := .d _) ?_ | refine WD.p' ?_ | refine WD.px' ?_ | refine WD.s' (E := env) (t := .ea _ _) ?_ | refine WD.s' (E := env) (t := .lp _ _) ?_ | refine WD.s' (E := env) (t := .og _ _) ?_ | refine WD.s' (E := env) (t := .agg _) ?_ | refine WD.s' (E := env) (t := .tup _) ?_ | refine WD.s' (E := env) (t := .clo _ _) ?_ | refine WD.ixm' (E := env) ?_ | refine WD.ixo' (E := env) ?_ | refine WD.legm' (E := env) ?_ | refine WD.slS' (E := env) ?_ | refine WD.slD' (E := env) ?_ | refine WG.c (E := env) rfl rfl (ih') rfl rfl ?_ | refine WD.c (E := env) rfl rfl (ih') rfl rfl ?_ | refine WG.co (E := env) rfl rfl (ih') rfl rfl rfl rfl ?_ | refine WG.cx (E := env) rfl (ih') rfl ?_ | ((first | refine WG.sp' (fun h => ?_) fun h => ?_ | refine W.cond' (fun h => ?_) fun h => ?_ | refine WD.sp' (fun h => ?_) fun h => ?_) <;> (try simp only [atS, List.length_map, beq_self_eq_true] at h) <;> (try (exfalso; first | contradiction | omega))))
            all_goals first
              | (exfalso; (try simp only [Int.toNat_natCast, Int.toNat_zero, toNat_cc, toNat_c1, toNat_cm1, toNat_cm] at *); exact hge ⟨by assumption, by assumption⟩; done)
              | ((try simp only [Int.toNat_natCast, Int.toNat_zero, toNat_cc, toNat_c1, toNat_cm1, toNat_cm] at *)
                 refine ⟨_, _, ?_, ⟨i + 1, keys, kids ++ [V.mk vk vn vt vks vkd], b, _, _, rfl, ⟨?_, ?_, ?_, ?_, ?_, ?_, ?_, ?_, ?_⟩, rfl⟩, (St.imp.rev 4 1 rfl).trans (St.imp.of_le (by (refine le_ofL rfl ?_ ?_ <;> (repeat (first | exact trivial | refine ⟨⟨rfl, rfl⟩, ?_⟩ | refine ⟨rfl, .inl rfl, ?_⟩ | refine ⟨rfl, .inr rfl, ?_⟩)))))⟩
                 · omega
                 · omega
                 · omega
                 · omega
                 · simp; omega
                 · omega
                 · intro h6; exact absurd h6 hk
                 · exact he
                 · rw [V.rows_app, ← hrv]; rfl
                 · rfl)
    · have hn : c.n.toNat - i = 0 := by omega
      rw [hn, kidsM] at he
      have e : valAtM cs (f + 1) k = some (.mk c.kind c.num c.text keys kids, next) := by rw [valAtM, if_pos (by omega), hc', he]
      rw [e]
      refine W.pub 3 rfl ?_
      refine W.pub 4 rfl ?_
      (refine W.ret ?_; (first | refine RetQ.b' ?_ | refine RetQ.i' ?_ | refine RetQ.d' ?_ | refine RetQ.t2' ?_ ?_ | refine RetQ.t3' ?_ ?_ ?_))
      · rw [hrv]; rfl
      · rfl
      · rfl
end Go.Proofs.Ytmmjbpgdkokjgaa
