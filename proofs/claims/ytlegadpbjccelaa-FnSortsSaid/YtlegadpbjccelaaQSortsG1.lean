/-
  The program's way from values to cells: counts, cells, faults, results. Conditions: none.
-/
import Derived.Test.YtlegadpbjccelaaQSortsCl1
import Derived.Test.YtlegadpbjccelaaQSortsPgD
import Derived.Test.YtlegadpbjccelaaQSortsEnv
import Derived.Test.YtlegadpbjccelaaQSortsOr1
import Derived.Test.YtlegadpbjccelaaQSortsP1
set_option linter.unusedVariables false
set_option linter.unusedSimpArgs false
set_option maxRecDepth 100000
namespace Go.Proofs.Ytlegadpbjccelaa
open Go.RowKit

theorem V.counts_app (v : V) : ∀ l : List V, V.counts (l ++ [v]) = V.counts l + v.count
  | [] => by simp [V.counts]
  | x :: r => by
    rw [List.cons_append]
    simp only [V.counts]
    rw [V.counts_app v r]
    omega

theorem V.counts_take (l : List V) (j : Nat) : V.counts (l.take j) ≤ V.counts l := by
  induction l generalizing j with
  | nil => simp
  | cons x r ih => cases j <;> simp [V.counts, List.take]; have := ih ‹_›; omega

theorem V.kidsC_take : ∀ (l : List V) (ks : List ByteArray) (i : Nat), i < l.length → V.kidsC (l.take (i + 1)) ks = V.kidsC (l.take i) ks ++ (l.getD i default).cellsK (ks.getD i noS)
  | [], _, i, h => by simp at h
  | x :: r, ks, 0, h => by cases ks <;> simp [V.kidsC]
  | x :: r, ks, i + 1, h => by
    have := V.kidsC_take r ks.tail i (by simpa using h)
    simp only [List.take_succ_cons, V.kidsC, this, List.append_assoc, List.getD_cons_succ]
    cases ks <;> simp

set_option maxHeartbeats 1000000 in
theorem countP_fn : ∀ (n : Nat) (v : V), v.count ≤ n → n ≤ 1048576 → Fun env.P 241 [.agg v.rowP] (.d (dI v.count)) []
  | 0, v, h, _ => by
    have := V.depth_le v
    omega
  | n + 1, v, h, hn => by
    have ih := countP_fn n
    obtain ⟨k, nm, t, ks, kids⟩ := v
    simp only [V.count] at h
    have hlc := V.length_counts kids
    have hdep : ∀ j, j < kids.length → (kids.getD j default).count ≤ n := fun j hj => by
      have := V.counts_ge (kids.getD j default) (getD_mem' hj)
      omega
    have hmax := V.counts_take kids
    refine Fun.intro Try.func241 rfl (by kernel_rfl) rfl ?_
    repeat' (first | refine W.seq ?_ | refine W.rg ?_ | refine W.dra' ?_ | refine W.block ?_ | refine W.skip ?_ | refine W.exit ?_ | refine W.cond_true' ?_ | refine W.cond_false' ?_ | refine WG.nil ?_ | refine WG.run' (E := env) ?_ | refine WG.gt' ?_ | refine WG.gf' ?_ | refine WG.ixm' (E := env) ?_ | refine WG.ixo' (E := env) ?_ | refine WG.legm' (E := env) ?_ | refine WG.slS' (E := env) ?_ | refine WG.slD' (E := env) ?_ | refine WG.ap' (E := env) ?_ | refine WD.nil ?_ | refine WD.bs' (E := env) ?_ | refine WD.s' (E := env) (t := .d _) ?_ | refine WD.p' ?_ | refine WD.px' ?_ | refine WD.s' (E := env) (t := .ea _ _) ?_ | refine WD.s' (E := env) (t := .lp _ _) ?_ | refine WD.s' (E := env) (t := .og _ _) ?_ | refine WD.s' (E := env) (t := .agg _) ?_ | refine WD.s' (E := env) (t := .tup _) ?_ | refine WD.s' (E := env) (t := .clo _ _) ?_ | refine WD.ixm' (E := env) ?_ | refine WD.ixo' (E := env) ?_ | refine WD.legm' (E := env) ?_ | refine WD.slS' (E := env) ?_ | refine WD.slD' (E := env) ?_ | ((first | refine WG.sp' (fun h => ?_) fun h => ?_ | refine W.cond' (fun h => ?_) fun h => ?_ | refine WD.sp' (fun h => ?_) fun h => ?_) <;> (try simp only [decide_eq_true_eq, decide_eq_false_iff_not, Bool.not_eq_true', Bool.not_eq_false', Bool.and_eq_true, Bool.or_eq_true, Bool.and_eq_false_iff, Bool.or_eq_false_iff, Bool.not_eq_true, Bool.not_eq_false, Int.not_lt, Int.not_le, List.length_map, beq_self_eq_true, Bool.true_eq_false, Bool.false_eq_true] at h) <;> (try (exfalso; first | contradiction | omega))))
    refine W.loop (fun m S => ∃ (i : Nat), m = kids.length - i ∧ i ≤ kids.length ∧ S = ⟨ofL [(3, vI .i64 ((V.counts (kids.take i) + 1 : Nat) : Int)), (7, .d (.sl 5 (kids.map V.row))), (8, vI .i64 (kids.map V.row).length), (9, vI .i64 i)], []⟩) _ _ ⟨0, rfl, by omega, rfl⟩ (by (refine le_ofL rfl ?_ ?_ <;> (repeat (first | exact trivial | refine ⟨⟨rfl, rfl⟩, ?_⟩ | refine ⟨rfl, .inl rfl, ?_⟩ | refine ⟨rfl, .inr rfl, ?_⟩)))) ?_
    rintro m S ⟨i, rfl, hi, rfl⟩
    have hm1 := hmax i
    have hm2 := hmax (i + 1)
    by_cases hlt : i < kids.length
    · have he : V.counts (kids.take (i + 1)) = V.counts (kids.take i) + (kids.getD i default).count := by rw [take_step (by omega), V.counts_app]
      have hm3 : V.counts (kids.take i) + (kids.getD (Int.toNat (i : Int)) default).count ≤ V.counts kids := by rw [Int.toNat_natCast, ← he]; exact hm2
      repeat' (first | refine WG.ixm (E := env) (f' := V.rowP) rfl rfl rfl rfl rfl rfl rfl (fun x => V.row_eq x) (by (first | exact trivial | (simp only [inRange, List.length_map]; omega) | omega | assumption)) ?_ | refine W.seq ?_ | refine W.rg ?_ | refine W.dra' ?_ | refine W.block ?_ | refine W.skip ?_ | refine W.exit ?_ | refine W.cond_true' ?_ | refine W.cond_false' ?_ | refine WG.nil ?_ | refine WG.run' (E := env) ?_ | refine WG.gt' ?_ | refine WG.gf' ?_ | refine WG.ixm' (E := env) ?_ | refine WG.ixo' (E := env) ?_ | refine WG.legm' (E := env) ?_ | refine WG.slS' (E := env) ?_ | refine WG.slD' (E := env) ?_ | refine WG.ap' (E := env) ?_ | refine WD.nil ?_ | refine WD.bs' (E := env) ?_ | refine WD.s' (E := env) (t := .d _) ?_ | refine WD.p' ?_ | refine WD.px' ?_ | refine WD.s' (E := env) (t := .ea _ _) ?_ | refine WD.s' (E := env) (t := .lp _ _) ?_ | refine WD.s' (E := env) (t := .og _ _) ?_ | refine WD.s' (E := env) (t := .agg _) ?_ | refine WD.s' (E := env) (t := .tup _) ?_ | refine WD.s' (E := env) (t := .clo _ _) ?_ | refine WD.ixm' (E := env) ?_ | refine WD.ixo' (E := env) ?_ | refine WD.legm' (E := env) ?_ | refine WD.slS' (E := env) ?_ | refine WD.slD' (E := env) ?_ | refine WG.c (E := env) rfl rfl (ih _ (hdep _ (by omega)) (by omega)) rfl rfl ?_ | refine WD.c (E := env) rfl rfl (ih _ (hdep _ (by omega)) (by omega)) rfl rfl ?_ | refine WG.co (E := env) rfl rfl (ih _ (hdep _ (by omega)) (by omega)) rfl rfl rfl rfl ?_ | refine WG.cx (E := env) rfl (ih _ (hdep _ (by omega)) (by omega)) rfl ?_ | ((first | refine WG.sp' (fun h => ?_) fun h => ?_ | refine W.cond' (fun h => ?_) fun h => ?_ | refine WD.sp' (fun h => ?_) fun h => ?_) <;> (try simp only [decide_eq_true_eq, decide_eq_false_iff_not, Bool.not_eq_true', Bool.not_eq_false', Bool.and_eq_true, Bool.or_eq_true, Bool.and_eq_false_iff, Bool.or_eq_false_iff, Bool.not_eq_true, Bool.not_eq_false, Int.not_lt, Int.not_le, List.length_map, beq_self_eq_true, Bool.true_eq_false, Bool.false_eq_true] at h) <;> (try (exfalso; first | contradiction | omega))))
      refine ⟨_, _, by omega, ⟨i + 1, rfl, by omega, rfl⟩, ?_⟩
      have e1 : ((V.counts (kids.take (i + 1)) + 1 : Nat) : Int) = ((V.counts (kids.take i) + 1 : Nat) : Int) + ((kids.getD (Int.toNat (i : Int)) default).count : Int) := by rw [Int.toNat_natCast, he]; omega
      rw [e1]
      exact (by (refine le_ofL rfl ?_ ?_ <;> (repeat (first | exact trivial | refine ⟨⟨rfl, rfl⟩, ?_⟩ | refine ⟨rfl, .inl rfl, ?_⟩ | refine ⟨rfl, .inr rfl, ?_⟩))))
    · repeat' (first | refine W.seq ?_ | refine W.rg ?_ | refine W.dra' ?_ | refine W.block ?_ | refine W.skip ?_ | refine W.exit ?_ | refine W.cond_true' ?_ | refine W.cond_false' ?_ | refine WG.nil ?_ | refine WG.run' (E := env) ?_ | refine WG.gt' ?_ | refine WG.gf' ?_ | refine WG.ixm' (E := env) ?_ | refine WG.ixo' (E := env) ?_ | refine WG.legm' (E := env) ?_ | refine WG.slS' (E := env) ?_ | refine WG.slD' (E := env) ?_ | refine WG.ap' (E := env) ?_ | refine WD.nil ?_ | refine WD.bs' (E := env) ?_ | refine WD.s' (E := env) (t := .d _) ?_ | refine WD.p' ?_ | refine WD.px' ?_ | refine WD.s' (E := env) (t := .ea _ _) ?_ | refine WD.s' (E := env) (t := .lp _ _) ?_ | refine WD.s' (E := env) (t := .og _ _) ?_ | refine WD.s' (E := env) (t := .agg _) ?_ | refine WD.s' (E := env) (t := .tup _) ?_ | refine WD.s' (E := env) (t := .clo _ _) ?_ | refine WD.ixm' (E := env) ?_ | refine WD.ixo' (E := env) ?_ | refine WD.legm' (E := env) ?_ | refine WD.slS' (E := env) ?_ | refine WD.slD' (E := env) ?_ | ((first | refine WG.sp' (fun h => ?_) fun h => ?_ | refine W.cond' (fun h => ?_) fun h => ?_ | refine WD.sp' (fun h => ?_) fun h => ?_) <;> (try simp only [decide_eq_true_eq, decide_eq_false_iff_not, Bool.not_eq_true', Bool.not_eq_false', Bool.and_eq_true, Bool.or_eq_true, Bool.and_eq_false_iff, Bool.or_eq_false_iff, Bool.not_eq_true, Bool.not_eq_false, Int.not_lt, Int.not_le, List.length_map, beq_self_eq_true, Bool.true_eq_false, Bool.false_eq_true] at h) <;> (try (exfalso; first | contradiction | omega))))
      (refine W.ret ?_; (first | refine RetQ.b' ?_ | refine RetQ.i' ?_ | refine RetQ.d' ?_ | refine RetQ.t2' ?_ ?_ | refine RetQ.t3' ?_ ?_ ?_))
      rw [show i = kids.length by omega, List.take_length]
      rfl

section
variable {E : Env} {N : Nm} {Q : Exit → St → Prop} {S : St} {ops l : List Oper} {ty : TypeId} {pos : String} {after : Array Edge} {gd : Option (Nat × Bool)} {d : Nat} {tm : Nat → T} {ob : List Ob} {G : List Nat}
theorem WG.ixe {α : Type} [Inhabited α] {f : α → List D} {r : List D} {xs : List α} {t e : TypeId} {x ix : Operand} {z : Nat} {k : IntKind} {i : Int} (hw : St.want ⟨tm, ob⟩ ops ⟨some d, .indexAddr t x ix, ty, pos, after, gd⟩ = some true) (hd : Nat.blt d N.n = true)
    (ht : (E.ty t).kind = .slice e) (he : (E.ty e).known = true) (hz : (E.ty e).size = z) (hx : norm ob (St.ev ⟨tm, ob⟩ x) = .d (.sl z (xs.map f))) (hi : St.ev ⟨tm, ob⟩ ix = .d (.v (.int k i)))
    (hf : f (xs.getD i.toNat default) = r) (hb : 0 ≤ i ∧ i < xs.length)
    (kk : WG G E.P N ops l Q ⟨upd tm d (.ea r 0), ob⟩) : WG G E.P N ops (⟨some d, .indexAddr t x ix, ty, pos, after, gd⟩ :: l) Q ⟨tm, ob⟩ := by
  subst hf
  exact WG.ixm hw hd ht he hz hx hi (fun _ => rfl) hb kk

theorem WG.pub (k : Nat) {z : Nat} {e : TypeId} {rows : List (List D)} {n : Nat} (hk : ob[k]? = some (.gr z e rows n false)) (h : WG G E.P N ops l Q ⟨tm, ob.set k (.gr z e rows n true)⟩) : WG G E.P N ops l Q ⟨tm, ob⟩ := WL.pub (S := ⟨tm, ob⟩) k hk h
end

theorem sizeV_fn (kids : List V) : Fun env.P 178 [.sl 5 (kids.map V.row)] (.d (dI (kids.map V.row).length)) [] := by
  refine Fun.intro Try.func178 rfl (by kernel_rfl) rfl ?_
  repeat' (first | refine W.seq ?_ | refine W.rg ?_ | refine W.dra' ?_ | refine W.block ?_ | refine W.skip ?_ | refine W.exit ?_ | refine W.cond_true' ?_ | refine W.cond_false' ?_ | refine WG.nil ?_ | refine WG.run' (E := env) ?_ | refine WG.gt' ?_ | refine WG.gf' ?_ | refine WG.ixm' (E := env) ?_ | refine WG.ixo' (E := env) ?_ | refine WG.legm' (E := env) ?_ | refine WG.slS' (E := env) ?_ | refine WG.slD' (E := env) ?_ | refine WG.ap' (E := env) ?_ | refine WD.nil ?_ | refine WD.bs' (E := env) ?_ | refine WD.s' (E := env) (t := .d _) ?_ | refine WD.p' ?_ | refine WD.px' ?_ | refine WD.s' (E := env) (t := .ea _ _) ?_ | refine WD.s' (E := env) (t := .lp _ _) ?_ | refine WD.s' (E := env) (t := .og _ _) ?_ | refine WD.s' (E := env) (t := .agg _) ?_ | refine WD.s' (E := env) (t := .tup _) ?_ | refine WD.s' (E := env) (t := .clo _ _) ?_ | refine WD.ixm' (E := env) ?_ | refine WD.ixo' (E := env) ?_ | refine WD.legm' (E := env) ?_ | refine WD.slS' (E := env) ?_ | refine WD.slD' (E := env) ?_ | ((first | refine WG.sp' (fun h => ?_) fun h => ?_ | refine W.cond' (fun h => ?_) fun h => ?_ | refine WD.sp' (fun h => ?_) fun h => ?_) <;> (try simp only [decide_eq_true_eq, decide_eq_false_iff_not, Bool.not_eq_true', Bool.not_eq_false', Bool.and_eq_true, Bool.or_eq_true, Bool.and_eq_false_iff, Bool.or_eq_false_iff, Bool.not_eq_true, Bool.not_eq_false, Int.not_lt, Int.not_le, List.length_map, beq_self_eq_true, Bool.true_eq_false, Bool.false_eq_true] at h) <;> (try (exfalso; first | contradiction | omega))))
  (refine W.ret ?_; (first | refine RetQ.b' ?_ | refine RetQ.i' ?_ | refine RetQ.d' ?_ | refine RetQ.t2' ?_ ?_ | refine RetQ.t3' ?_ ?_ ?_))
  rfl

set_option maxHeartbeats 2000000 in
theorem cellsP_fn : ∀ (n : Nat) (v : V), v.count ≤ n → n ≤ 1048576 → v.good → Fun env.P 99 [.agg v.rowP] (.og 0 0) [.gr 5 91 (v.cells.map Cell.row) 0 false]
  | 0, v, h, _, _ => by
    have := V.depth_le v
    omega
  | n + 1, v, h, hn, hg => by
    have ih := cellsP_fn n
    obtain ⟨k, nm, t, ks, kids⟩ := v
    simp only [V.count] at h
    have hlc := V.length_counts kids
    have hdep : ∀ j, j < kids.length → (kids.getD j default).count ≤ n := fun j hj => by
      have := V.counts_ge (kids.getD j default) (getD_mem' hj)
      omega
    have hmax := V.counts_take kids
    obtain ⟨g1, g2, g3, g4, g5, g6, g7, g8, g9, g10, g11⟩ := hg
    have hgk : ∀ j, j < kids.length → (kids.getD j default).good := fun j hj => V.goods_mem g11 _ (getD_mem' hj)
    have hsz := sizeV_fn kids
    refine Fun.intro Try.func99 rfl (by kernel_rfl) rfl ?_
    have hkn : ¬ (k = 5 ∨ k = 6) → kids = [] := fun hk => Decidable.byContradiction fun hne => hk (g4 hne)
    have hky : (V.mk k nm t ks kids).keys.length = ks.length := rfl
    have hkk : (V.mk k nm t ks kids).kind = k := rfl
    repeat' (first | refine W.seq ?_ | refine W.rg ?_ | refine W.dra' ?_ | refine W.block ?_ | refine W.skip ?_ | refine W.exit ?_ | refine W.cond_true' ?_ | refine W.cond_false' ?_ | refine WG.nil ?_ | refine WG.run' (E := env) ?_ | refine WG.gt' ?_ | refine WG.gf' ?_ | refine WG.ixm' (E := env) ?_ | refine WG.ixo' (E := env) ?_ | refine WG.legm' (E := env) ?_ | refine WG.slS' (E := env) ?_ | refine WG.slD' (E := env) ?_ | refine WG.ap' (E := env) ?_ | refine WD.nil ?_ | refine WD.bs' (E := env) ?_ | refine WD.s' (E := env) (t := .d _) ?_ | refine WD.p' ?_ | refine WD.px' ?_ | refine WD.s' (E := env) (t := .ea _ _) ?_ | refine WD.s' (E := env) (t := .lp _ _) ?_ | refine WD.s' (E := env) (t := .og _ _) ?_ | refine WD.s' (E := env) (t := .agg _) ?_ | refine WD.s' (E := env) (t := .tup _) ?_ | refine WD.s' (E := env) (t := .clo _ _) ?_ | refine WD.ixm' (E := env) ?_ | refine WD.ixo' (E := env) ?_ | refine WD.legm' (E := env) ?_ | refine WD.slS' (E := env) ?_ | refine WD.slD' (E := env) ?_ | refine WG.c (E := env) rfl rfl (hsz) rfl rfl ?_ | refine WD.c (E := env) rfl rfl (hsz) rfl rfl ?_ | refine WG.co (E := env) rfl rfl (hsz) rfl rfl rfl rfl ?_ | refine WG.cx (E := env) rfl (hsz) rfl ?_ | ((first | refine WG.sp' (fun h => ?_) fun h => ?_ | refine W.cond' (fun h => ?_) fun h => ?_ | refine WD.sp' (fun h => ?_) fun h => ?_) <;> (try simp only [decide_eq_true_eq, decide_eq_false_iff_not, Bool.not_eq_true', Bool.not_eq_false', Bool.and_eq_true, Bool.or_eq_true, Bool.and_eq_false_iff, Bool.or_eq_false_iff, Bool.not_eq_true, Bool.not_eq_false, Int.not_lt, Int.not_le, List.length_map, beq_self_eq_true, Bool.true_eq_false, Bool.false_eq_true] at h) <;> (try (exfalso; first | contradiction | omega))))
    · refine W.loopI (fun m S => ∃ (i : Nat) (rv : List (List D)), m = kids.length - i ∧ (i ≤ kids.length ∧ rv = (V.kidsC (kids.take i) ks).map Cell.row) ∧
        S = ⟨ofL [(1, .lp 0 0), (4, .og 1 0), (29, .d (.sl 5 (kids.map V.row))), (30, vI .i64 (kids.map V.row).length), (31, vI .i64 i)],
          [.pv ((V.mk k nm t ks kids).rowP.map .d), .gr 5 91 (Cell.row ⟨k, nm, t, noS, ((kids.map V.row).length : Int)⟩ :: rv) 0 false]⟩) _ _ ⟨0, [], rfl, ⟨by omega, rfl⟩, rfl⟩ (St.imp.of_le (by (refine le_ofL rfl ?_ ?_ <;> (repeat (first | exact trivial | refine ⟨⟨rfl, rfl⟩, ?_⟩ | refine ⟨rfl, .inl rfl, ?_⟩ | refine ⟨rfl, .inr rfl, ?_⟩))))) ?_
      rintro m S ⟨i, rv, rfl, ⟨hi, hrv⟩, rfl⟩
      by_cases hlt : i < kids.length
      · have hrl : rv.length = V.counts (kids.take i) := by rw [hrv, List.length_map, V.kidsC_length]
        have hm1 := hmax i
        have hc1 := hdep i hlt
        have ih' := ih (kids.getD i default) hc1 (by omega) (hgk i hlt)
        have htk := V.kidsC_take kids ks i hlt
        generalize hkid : kids.getD i default = kid at ih' htk hc1
        obtain ⟨vk, vn, vt, vks, vkids⟩ := kid
        have hl2 : ((V.kidsC vkids vks).map Cell.row).length = V.counts vkids := by rw [List.length_map, V.kidsC_length]
        simp only [V.count] at hc1
        have ih2 : Fun env.P 99 [.agg (V.mk vk vn vt vks vkids).rowP] (.og 0 0) [.gr 5 91 (Cell.row ⟨vk, vn, vt, noS, vkids.length⟩ :: (V.kidsC vkids vks).map Cell.row) 0 false] := ih'
        have hix : ∀ j : Nat, j = i → (kids.getD j default).row = (V.mk vk vn vt vks vkids).rowP := fun j hj => by rw [hj, hkid, V.row_eq]
        clear ih ih' hkid
        repeat' (first | refine WG.ixe (E := env) (r := (V.mk vk vn vt vks vkids).rowP) rfl rfl rfl rfl rfl rfl rfl (hix _ (by omega)) (by (first | exact trivial | (simp only [inRange, List.length_map]; omega) | omega | assumption)) ?_ | refine WG.co (E := env) (K := 3) (t' := .og 3 0) rfl rfl ih2 rfl rfl rfl rfl ?_ | refine WG.ap (E := env) rfl rfl rfl rfl rfl rfl rfl rfl rfl rfl rfl (by show (List.length (_ :: _) + List.length (_ :: _)) * 56 ≤ _; simp only [List.length_cons, hrl, hl2]; omega) ?_ | refine WG.ixA (E := env) (A := []) rfl rfl rfl rfl rfl rfl rfl rfl rfl ?_ | refine WG.stA (E := env) (A := []) rfl rfl rfl rfl rfl rfl rfl rfl rfl ?_ | refine W.seq ?_ | refine W.rg ?_ | refine W.dra' ?_ | refine W.block ?_ | refine W.skip ?_ | refine W.exit ?_ | refine W.cond_true' ?_ | refine W.cond_false' ?_ | refine WG.nil ?_ | refine WG.run' (E := env) ?_ | refine WG.gt' ?_ | refine WG.gf' ?_ | refine WG.ixm' (E := env) ?_ | refine WG.ixo' (E := env) ?_ | refine WG.legm' (E := env) ?_ | refine WG.slS' (E := env) ?_ | refine WG.slD' (E := env) ?_ | refine WG.ap' (E := env) ?_ | refine WD.nil ?_ | refine WD.bs' (E := env) ?_ | refine WD.s' (E := env) (t := .d _) ?_ | refine WD.p' ?_ | refine WD.px' ?_ | refine WD.s' (E := env) (t := .ea _ _) ?_ | refine WD.s' (E := env) (t := .lp _ _) ?_ | refine WD.s' (E := env) (t := .og _ _) ?_ | refine WD.s' (E := env) (t := .agg _) ?_ | refine WD.s' (E := env) (t := .tup _) ?_ | refine WD.s' (E := env) (t := .clo _ _) ?_ | refine WD.ixm' (E := env) ?_ | refine WD.ixo' (E := env) ?_ | refine WD.legm' (E := env) ?_ | refine WD.slS' (E := env) ?_ | refine WD.slD' (E := env) ?_ | fail | ((first | refine WG.sp' (fun h => ?_) fun h => ?_ | refine W.cond' (fun h => ?_) fun h => ?_ | refine WD.sp' (fun h => ?_) fun h => ?_) <;> (try simp only [decide_eq_true_eq, decide_eq_false_iff_not, Bool.not_eq_true', Bool.not_eq_false', Bool.and_eq_true, Bool.or_eq_true, Bool.and_eq_false_iff, Bool.or_eq_false_iff, Bool.not_eq_true, Bool.not_eq_false, Int.not_lt, Int.not_le, List.length_map, beq_self_eq_true, Bool.true_eq_false, Bool.false_eq_true] at h) <;> (try (exfalso; first | contradiction | omega))))
        refine ⟨_, _, by omega, ⟨i + 1, _, rfl, ⟨by omega, ?_⟩, rfl⟩, (St.imp.rev 1 1 rfl).trans (St.imp.of_le (by (refine le_ofL rfl ?_ ?_ <;> (repeat (first | exact trivial | refine ⟨⟨rfl, rfl⟩, ?_⟩ | refine ⟨rfl, .inl rfl, ?_⟩ | refine ⟨rfl, .inr rfl, ?_⟩)))))⟩
        rw [htk, List.map_append, ← hrv, show ks.getD i noS = noS by rw [g8 (by omega)]; rfl]
        rfl
      · obtain rfl : i = kids.length := by omega
        repeat' (first | refine W.seq ?_ | refine W.rg ?_ | refine W.dra' ?_ | refine W.block ?_ | refine W.skip ?_ | refine W.exit ?_ | refine W.cond_true' ?_ | refine W.cond_false' ?_ | refine WG.nil ?_ | refine WG.run' (E := env) ?_ | refine WG.gt' ?_ | refine WG.gf' ?_ | refine WG.ixm' (E := env) ?_ | refine WG.ixo' (E := env) ?_ | refine WG.legm' (E := env) ?_ | refine WG.slS' (E := env) ?_ | refine WG.slD' (E := env) ?_ | refine WG.ap' (E := env) ?_ | refine WD.nil ?_ | refine WD.bs' (E := env) ?_ | refine WD.s' (E := env) (t := .d _) ?_ | refine WD.p' ?_ | refine WD.px' ?_ | refine WD.s' (E := env) (t := .ea _ _) ?_ | refine WD.s' (E := env) (t := .lp _ _) ?_ | refine WD.s' (E := env) (t := .og _ _) ?_ | refine WD.s' (E := env) (t := .agg _) ?_ | refine WD.s' (E := env) (t := .tup _) ?_ | refine WD.s' (E := env) (t := .clo _ _) ?_ | refine WD.ixm' (E := env) ?_ | refine WD.ixo' (E := env) ?_ | refine WD.legm' (E := env) ?_ | refine WD.slS' (E := env) ?_ | refine WD.slD' (E := env) ?_ | ((first | refine WG.sp' (fun h => ?_) fun h => ?_ | refine W.cond' (fun h => ?_) fun h => ?_ | refine WD.sp' (fun h => ?_) fun h => ?_) <;> (try simp only [decide_eq_true_eq, decide_eq_false_iff_not, Bool.not_eq_true', Bool.not_eq_false', Bool.and_eq_true, Bool.or_eq_true, Bool.and_eq_false_iff, Bool.or_eq_false_iff, Bool.not_eq_true, Bool.not_eq_false, Int.not_lt, Int.not_le, List.length_map, beq_self_eq_true, Bool.true_eq_false, Bool.false_eq_true] at h) <;> (try (exfalso; first | contradiction | omega))))
        refine W.ret ?_
        exact RetQ.own (tt := .og 1 0) 1 0 (.inl rfl) rfl (by first | trivial | exact resOK_of (E := env) rfl) rfl rfl rfl rfl (by rw [hrv, List.take_length, List.length_map]; rfl)
    · refine W.loopI (fun m S => ∃ (i : Nat) (rv : List (List D)), m = kids.length - i ∧ (i ≤ kids.length ∧ rv = (V.kidsC (kids.take i) ks).map Cell.row) ∧
        S = ⟨ofL [(1, .lp 0 0), (4, .og 1 0), (29, .d (.sl 5 (kids.map V.row))), (30, vI .i64 (kids.map V.row).length), (31, vI .i64 i)],
          [.pv ((V.mk k nm t ks kids).rowP.map .d), .gr 5 91 (Cell.row ⟨k, nm, t, noS, ((kids.map V.row).length : Int)⟩ :: rv) 0 false]⟩) _ _ ⟨0, [], rfl, ⟨by omega, rfl⟩, rfl⟩ (St.imp.of_le (by (refine le_ofL rfl ?_ ?_ <;> (repeat (first | exact trivial | refine ⟨⟨rfl, rfl⟩, ?_⟩ | refine ⟨rfl, .inl rfl, ?_⟩ | refine ⟨rfl, .inr rfl, ?_⟩))))) ?_
      rintro m S ⟨i, rv, rfl, ⟨hi, hrv⟩, rfl⟩
      by_cases hlt : i < kids.length
      · have hrl : rv.length = V.counts (kids.take i) := by rw [hrv, List.length_map, V.kidsC_length]
        have hm1 := hmax i
        have hc1 := hdep i hlt
        have ih' := ih (kids.getD i default) hc1 (by omega) (hgk i hlt)
        have htk := V.kidsC_take kids ks i hlt
        generalize hkid : kids.getD i default = kid at ih' htk hc1
        obtain ⟨vk, vn, vt, vks, vkids⟩ := kid
        have hl2 : ((V.kidsC vkids vks).map Cell.row).length = V.counts vkids := by rw [List.length_map, V.kidsC_length]
        simp only [V.count] at hc1
        have ih2 : Fun env.P 99 [.agg (V.mk vk vn vt vks vkids).rowP] (.og 0 0) [.gr 5 91 (Cell.row ⟨vk, vn, vt, noS, vkids.length⟩ :: (V.kidsC vkids vks).map Cell.row) 0 false] := ih'
        have hix : ∀ j : Nat, j = i → (kids.getD j default).row = (V.mk vk vn vt vks vkids).rowP := fun j hj => by rw [hj, hkid, V.row_eq]
        clear ih ih' hkid
        repeat' (first | refine WG.ixe (E := env) (r := (V.mk vk vn vt vks vkids).rowP) rfl rfl rfl rfl rfl rfl rfl (hix _ (by omega)) (by (first | exact trivial | (simp only [inRange, List.length_map]; omega) | omega | assumption)) ?_ | refine WG.co (E := env) (K := 3) (t' := .og 3 0) rfl rfl ih2 rfl rfl rfl rfl ?_ | refine WG.ap (E := env) rfl rfl rfl rfl rfl rfl rfl rfl rfl rfl rfl (by show (List.length (_ :: _) + List.length (_ :: _)) * 56 ≤ _; simp only [List.length_cons, hrl, hl2]; omega) ?_ | refine WG.ixA (E := env) (A := []) rfl rfl rfl rfl rfl rfl rfl rfl rfl ?_ | refine WG.stA (E := env) (A := []) rfl rfl rfl rfl rfl rfl rfl rfl rfl ?_ | refine W.seq ?_ | refine W.rg ?_ | refine W.dra' ?_ | refine W.block ?_ | refine W.skip ?_ | refine W.exit ?_ | refine W.cond_true' ?_ | refine W.cond_false' ?_ | refine WG.nil ?_ | refine WG.run' (E := env) ?_ | refine WG.gt' ?_ | refine WG.gf' ?_ | refine WG.ixm' (E := env) ?_ | refine WG.ixo' (E := env) ?_ | refine WG.legm' (E := env) ?_ | refine WG.slS' (E := env) ?_ | refine WG.slD' (E := env) ?_ | refine WG.ap' (E := env) ?_ | refine WD.nil ?_ | refine WD.bs' (E := env) ?_ | refine WD.s' (E := env) (t := .d _) ?_ | refine WD.p' ?_ | refine WD.px' ?_ | refine WD.s' (E := env) (t := .ea _ _) ?_ | refine WD.s' (E := env) (t := .lp _ _) ?_ | refine WD.s' (E := env) (t := .og _ _) ?_ | refine WD.s' (E := env) (t := .agg _) ?_ | refine WD.s' (E := env) (t := .tup _) ?_ | refine WD.s' (E := env) (t := .clo _ _) ?_ | refine WD.ixm' (E := env) ?_ | refine WD.ixo' (E := env) ?_ | refine WD.legm' (E := env) ?_ | refine WD.slS' (E := env) ?_ | refine WD.slD' (E := env) ?_ | fail | ((first | refine WG.sp' (fun h => ?_) fun h => ?_ | refine W.cond' (fun h => ?_) fun h => ?_ | refine WD.sp' (fun h => ?_) fun h => ?_) <;> (try simp only [decide_eq_true_eq, decide_eq_false_iff_not, Bool.not_eq_true', Bool.not_eq_false', Bool.and_eq_true, Bool.or_eq_true, Bool.and_eq_false_iff, Bool.or_eq_false_iff, Bool.not_eq_true, Bool.not_eq_false, Int.not_lt, Int.not_le, List.length_map, beq_self_eq_true, Bool.true_eq_false, Bool.false_eq_true] at h) <;> (try (exfalso; first | contradiction | omega))))
        refine ⟨_, _, by omega, ⟨i + 1, _, rfl, ⟨by omega, ?_⟩, rfl⟩, (St.imp.rev 1 1 rfl).trans (St.imp.of_le (by (refine le_ofL rfl ?_ ?_ <;> (repeat (first | exact trivial | refine ⟨⟨rfl, rfl⟩, ?_⟩ | refine ⟨rfl, .inl rfl, ?_⟩ | refine ⟨rfl, .inr rfl, ?_⟩)))))⟩
        rw [htk, List.map_append, ← hrv, show ks.getD i noS = ks.getD (Int.toNat (i : Int)) default from rfl]
        rfl
      · obtain rfl : i = kids.length := by omega
        repeat' (first | refine W.seq ?_ | refine W.rg ?_ | refine W.dra' ?_ | refine W.block ?_ | refine W.skip ?_ | refine W.exit ?_ | refine W.cond_true' ?_ | refine W.cond_false' ?_ | refine WG.nil ?_ | refine WG.run' (E := env) ?_ | refine WG.gt' ?_ | refine WG.gf' ?_ | refine WG.ixm' (E := env) ?_ | refine WG.ixo' (E := env) ?_ | refine WG.legm' (E := env) ?_ | refine WG.slS' (E := env) ?_ | refine WG.slD' (E := env) ?_ | refine WG.ap' (E := env) ?_ | refine WD.nil ?_ | refine WD.bs' (E := env) ?_ | refine WD.s' (E := env) (t := .d _) ?_ | refine WD.p' ?_ | refine WD.px' ?_ | refine WD.s' (E := env) (t := .ea _ _) ?_ | refine WD.s' (E := env) (t := .lp _ _) ?_ | refine WD.s' (E := env) (t := .og _ _) ?_ | refine WD.s' (E := env) (t := .agg _) ?_ | refine WD.s' (E := env) (t := .tup _) ?_ | refine WD.s' (E := env) (t := .clo _ _) ?_ | refine WD.ixm' (E := env) ?_ | refine WD.ixo' (E := env) ?_ | refine WD.legm' (E := env) ?_ | refine WD.slS' (E := env) ?_ | refine WD.slD' (E := env) ?_ | ((first | refine WG.sp' (fun h => ?_) fun h => ?_ | refine W.cond' (fun h => ?_) fun h => ?_ | refine WD.sp' (fun h => ?_) fun h => ?_) <;> (try simp only [decide_eq_true_eq, decide_eq_false_iff_not, Bool.not_eq_true', Bool.not_eq_false', Bool.and_eq_true, Bool.or_eq_true, Bool.and_eq_false_iff, Bool.or_eq_false_iff, Bool.not_eq_true, Bool.not_eq_false, Int.not_lt, Int.not_le, List.length_map, beq_self_eq_true, Bool.true_eq_false, Bool.false_eq_true] at h) <;> (try (exfalso; first | contradiction | omega))))
        refine W.ret ?_
        exact RetQ.own (tt := .og 1 0) 1 0 (.inl rfl) rfl (by first | trivial | exact resOK_of (E := env) rfl) rfl rfl rfl rfl (by rw [hrv, List.take_length, List.length_map]; rfl)
    · obtain rfl : kids = [] := hkn (by omega)
      refine W.loopI (fun m S => S = ⟨ofL [(4, .og 1 0), (30, vI .i64 0), (31, vI .i64 0)], [.pv ((V.mk k nm t ks []).rowP.map .d), .gr 5 91 [Cell.row ⟨k, nm, t, noS, 0⟩] 0 false]⟩) 0 _ rfl (St.imp.of_le (by (refine le_ofL rfl ?_ ?_ <;> (repeat (first | exact trivial | refine ⟨⟨rfl, rfl⟩, ?_⟩ | refine ⟨rfl, .inl rfl, ?_⟩ | refine ⟨rfl, .inr rfl, ?_⟩))))) ?_
      rintro m S rfl
      repeat' (first | refine W.seq ?_ | refine W.rg ?_ | refine W.dra' ?_ | refine W.block ?_ | refine W.skip ?_ | refine W.exit ?_ | refine W.cond_true' ?_ | refine W.cond_false' ?_ | refine WG.nil ?_ | refine WG.run' (E := env) ?_ | refine WG.gt' ?_ | refine WG.gf' ?_ | refine WG.ixm' (E := env) ?_ | refine WG.ixo' (E := env) ?_ | refine WG.legm' (E := env) ?_ | refine WG.slS' (E := env) ?_ | refine WG.slD' (E := env) ?_ | refine WG.ap' (E := env) ?_ | refine WD.nil ?_ | refine WD.bs' (E := env) ?_ | refine WD.s' (E := env) (t := .d _) ?_ | refine WD.p' ?_ | refine WD.px' ?_ | refine WD.s' (E := env) (t := .ea _ _) ?_ | refine WD.s' (E := env) (t := .lp _ _) ?_ | refine WD.s' (E := env) (t := .og _ _) ?_ | refine WD.s' (E := env) (t := .agg _) ?_ | refine WD.s' (E := env) (t := .tup _) ?_ | refine WD.s' (E := env) (t := .clo _ _) ?_ | refine WD.ixm' (E := env) ?_ | refine WD.ixo' (E := env) ?_ | refine WD.legm' (E := env) ?_ | refine WD.slS' (E := env) ?_ | refine WD.slD' (E := env) ?_ | ((first | refine WG.sp' (fun h => ?_) fun h => ?_ | refine W.cond' (fun h => ?_) fun h => ?_ | refine WD.sp' (fun h => ?_) fun h => ?_) <;> (try simp only [decide_eq_true_eq, decide_eq_false_iff_not, Bool.not_eq_true', Bool.not_eq_false', Bool.and_eq_true, Bool.or_eq_true, Bool.and_eq_false_iff, Bool.or_eq_false_iff, Bool.not_eq_true, Bool.not_eq_false, Int.not_lt, Int.not_le, List.length_map, beq_self_eq_true, Bool.true_eq_false, Bool.false_eq_true] at h) <;> (try (exfalso; first | contradiction | omega))))
      refine W.ret ?_
      exact RetQ.own (tt := .og 1 0) 1 0 (.inl rfl) rfl (by first | trivial | exact resOK_of (E := env) rfl) rfl rfl rfl rfl rfl

/-! ### the cells of a right value are right -/

theorem cellsCode_all : ∀ {cs : List Cell}, (∀ c ∈ cs, cellCode c = 0) → cellsCode cs = 0
  | [], _ => rfl
  | c :: r, h => by
    rw [cellsCode, if_neg (by rw [h c (List.mem_cons_self ..)]; simp)]
    exact cellsCode_all fun x hx => h x (List.mem_cons_of_mem _ hx)

theorem okText_no : okText noS = true := rfl

mutual
theorem V.cells_code : ∀ (v : V), v.good → v.count ≤ 201 → ∀ (key : ByteArray), okText key = true → ∀ c ∈ v.cellsK key, cellCode c = 0
  | .mk k n t ks kids, hg, hcn, key, hkey, c, hc => by
    obtain ⟨g1, g2, g3, g4, g5, g6, g7, g8, g9, g10, g11⟩ := hg
    simp only [V.count] at hcn
    have hlc := V.length_counts kids
    simp only [V.cellsK] at hc
    rcases List.mem_cons.1 hc with rfl | hc
    · have e1 : ¬ (kids.length : Int) = 0 → holdsK k = true := fun h0 => by
        have := g4 (fun e => h0 (by rw [e]; rfl))
        rcases this with rfl | rfl <;> rfl
      unfold cellCode
      simp only [hkey, g6]
      rw [if_neg, if_neg, if_neg, if_neg (by simp)]
      · simp; omega
      · by_cases h1 : n = 0 <;> by_cases h2 : t = noS <;> by_cases h3 : (kids.length : Int) = 0 <;> simp_all
      · simp; omega
    · exact V.cells_codes kids ks g11 (by omega) g9 c hc
theorem V.cells_codes : ∀ (l : List V) (ks : List ByteArray), V.goods l → V.counts l ≤ 201 → (∀ key ∈ ks, okText key = true) → ∀ c ∈ V.kidsC l ks, cellCode c = 0
  | [], ks, _, _, _, c, hc => by simp [V.kidsC] at hc
  | v :: r, ks, hg, hcn, hk, c, hc => by
    simp only [V.counts] at hcn
    simp only [V.kidsC] at hc
    rcases List.mem_append.1 hc with hc | hc
    · refine V.cells_code v hg.1 (by omega) _ ?_ c hc
      cases ks with
      | nil => rfl
      | cons a r => exact hk a (List.mem_cons_self ..)
    · exact V.cells_codes r ks.tail hg.2 (by omega) (fun key hkey => hk key (List.mem_of_mem_tail hkey)) c hc
end

/-- What reading the cells of a right value gives. -/
theorem valOfM_good (v : V) (hg : v.good) (hc : v.count ≤ 200) : valOfM v.cells = if 20 < v.depth then (V.zero, 7) else (v, 0) := by
  have hl : v.cells.length = v.count := V.cellsK_length v noS
  have hd := V.depth_le v
  unfold valOfM
  rw [if_neg (by omega), if_neg (by rw [cellsCode_all (cs := v.cells) fun c h => V.cells_code v hg (by omega) noS okText_no c h]; simp)]
  have hr := V.read_at (cs := v.cells) v hg noS [] [] (by rw [List.nil_append, List.append_nil]; rfl)
  rw [show valAtM v.cells (v.cells.length + 1) 0 = some (v, 0 + v.count) from hr]
  obtain ⟨c, r, he, hk, _⟩ := V.cellsK_key v noS
  have hk0 : (v.cells.getD 0 default).key = noS := by rw [show v.cells = c :: r from he]; exact hk
  simp only []
  rw [if_neg (by rw [hl, hk0]; simp)]

/-- The fault of a value that is made of right ones. -/
def faultV (v : V) : Int := if 200 < v.count then 2 else if 20 < v.depth then 7 else 0

theorem cellCode_sizes {c : Cell} (h : cellCode c = 0) : c.text.size ≤ 1048576 ∧ c.key.size ≤ 1048576 := by
  unfold cellCode at h
  iterate 4
    split at h
    · revert h; simp
  rename_i h4
  simp only [okText, Bool.or_eq_true, Bool.not_eq_true', Bool.and_eq_false_iff, not_or, not_and] at h4
  simp at h4
  omega

set_option maxHeartbeats 1000000 in
theorem faultP_fn (v : V) (hg : v.good) (hc : v.count ≤ 1048576) : Fun env.P 179 [.agg v.rowP] (.d (dI (faultV v))) [] := by
  have h1 := countP_fn 1048576 v hc (Nat.le_refl _)
  by_cases hm : 200 < v.count
  · refine Fun.intro Try.func179 rfl (by kernel_rfl) rfl ?_
    repeat' (first | refine W.seq ?_ | refine W.rg ?_ | refine W.dra' ?_ | refine W.block ?_ | refine W.skip ?_ | refine W.exit ?_ | refine W.cond_true' ?_ | refine W.cond_false' ?_ | refine WG.nil ?_ | refine WG.run' (E := env) ?_ | refine WG.gt' ?_ | refine WG.gf' ?_ | refine WG.ixm' (E := env) ?_ | refine WG.ixo' (E := env) ?_ | refine WG.legm' (E := env) ?_ | refine WG.slS' (E := env) ?_ | refine WG.slD' (E := env) ?_ | refine WG.ap' (E := env) ?_ | refine WD.nil ?_ | refine WD.bs' (E := env) ?_ | refine WD.s' (E := env) (t := .d _) ?_ | refine WD.p' ?_ | refine WD.px' ?_ | refine WD.s' (E := env) (t := .ea _ _) ?_ | refine WD.s' (E := env) (t := .lp _ _) ?_ | refine WD.s' (E := env) (t := .og _ _) ?_ | refine WD.s' (E := env) (t := .agg _) ?_ | refine WD.s' (E := env) (t := .tup _) ?_ | refine WD.s' (E := env) (t := .clo _ _) ?_ | refine WD.ixm' (E := env) ?_ | refine WD.ixo' (E := env) ?_ | refine WD.legm' (E := env) ?_ | refine WD.slS' (E := env) ?_ | refine WD.slD' (E := env) ?_ | refine WG.c (E := env) rfl rfl (h1) rfl rfl ?_ | refine WD.c (E := env) rfl rfl (h1) rfl rfl ?_ | refine WG.co (E := env) rfl rfl (h1) rfl rfl rfl rfl ?_ | refine WG.cx (E := env) rfl (h1) rfl ?_ | ((first | refine WG.sp' (fun h => ?_) fun h => ?_ | refine W.cond' (fun h => ?_) fun h => ?_ | refine WD.sp' (fun h => ?_) fun h => ?_) <;> (try simp only [decide_eq_true_eq, decide_eq_false_iff_not, Bool.not_eq_true', Bool.not_eq_false', Bool.and_eq_true, Bool.or_eq_true, Bool.and_eq_false_iff, Bool.or_eq_false_iff, Bool.not_eq_true, Bool.not_eq_false, Int.not_lt, Int.not_le, List.length_map, beq_self_eq_true, Bool.true_eq_false, Bool.false_eq_true] at h) <;> (try (exfalso; first | contradiction | omega))))
    (refine W.ret ?_; (first | refine RetQ.b' ?_ | refine RetQ.i' ?_ | refine RetQ.d' ?_ | refine RetQ.t2' ?_ ?_ | refine RetQ.t3' ?_ ?_ ?_))
    rw [faultV, if_pos hm]
  · have h2 := cellsP_fn 1048576 v hc (Nat.le_refl _) hg
    have hl : v.cells.length = v.count := V.cellsK_length v noS
    have h3 := valOf_fn v.cells (fun c hcc => cellCode_sizes (V.cells_code v hg (by omega) noS okText_no c hcc)) (by omega)
    rw [valOfM_good v hg (by omega)] at h3
    have h4 : Fun env.P 92 [cellsD v.cells] (.tup [.d (.agg (if 20 < v.depth then (V.zero, (7 : Int)) else (v, 0)).1.rowP), .d (dI (faultV v))]) [] := h3.cast rfl (by rw [V.row_eq, faultV, if_neg hm]; split <;> rfl) rfl
    generalize (if 20 < v.depth then (V.zero, (7 : Int)) else (v, 0)).1 = v' at h4
    refine Fun.intro Try.func179 rfl (by kernel_rfl) rfl ?_
    repeat' (first | refine WG.co (E := env) (K := 1) (t' := .og 1 0) (ob2 := [.gr 5 91 (v.cells.map Cell.row) 0 false]) rfl rfl h2 rfl rfl rfl rfl ?_ | refine W.seq ?_ | refine W.rg ?_ | refine W.dra' ?_ | refine W.block ?_ | refine W.skip ?_ | refine W.exit ?_ | refine W.cond_true' ?_ | refine W.cond_false' ?_ | refine WG.nil ?_ | refine WG.run' (E := env) ?_ | refine WG.gt' ?_ | refine WG.gf' ?_ | refine WG.ixm' (E := env) ?_ | refine WG.ixo' (E := env) ?_ | refine WG.legm' (E := env) ?_ | refine WG.slS' (E := env) ?_ | refine WG.slD' (E := env) ?_ | refine WG.ap' (E := env) ?_ | refine WD.nil ?_ | refine WD.bs' (E := env) ?_ | refine WD.s' (E := env) (t := .d _) ?_ | refine WD.p' ?_ | refine WD.px' ?_ | refine WD.s' (E := env) (t := .ea _ _) ?_ | refine WD.s' (E := env) (t := .lp _ _) ?_ | refine WD.s' (E := env) (t := .og _ _) ?_ | refine WD.s' (E := env) (t := .agg _) ?_ | refine WD.s' (E := env) (t := .tup _) ?_ | refine WD.s' (E := env) (t := .clo _ _) ?_ | refine WD.ixm' (E := env) ?_ | refine WD.ixo' (E := env) ?_ | refine WD.legm' (E := env) ?_ | refine WD.slS' (E := env) ?_ | refine WD.slD' (E := env) ?_ | refine WG.c (E := env) rfl rfl (h1) rfl rfl ?_ | refine WD.c (E := env) rfl rfl (h1) rfl rfl ?_ | refine WG.co (E := env) rfl rfl (h1) rfl rfl rfl rfl ?_ | refine WG.cx (E := env) rfl (h1) rfl ?_ | ((first | refine WG.sp' (fun h => ?_) fun h => ?_ | refine W.cond' (fun h => ?_) fun h => ?_ | refine WD.sp' (fun h => ?_) fun h => ?_) <;> (try simp only [decide_eq_true_eq, decide_eq_false_iff_not, Bool.not_eq_true', Bool.not_eq_false', Bool.and_eq_true, Bool.or_eq_true, Bool.and_eq_false_iff, Bool.or_eq_false_iff, Bool.not_eq_true, Bool.not_eq_false, Int.not_lt, Int.not_le, List.length_map, beq_self_eq_true, Bool.true_eq_false, Bool.false_eq_true] at h) <;> (try (exfalso; first | contradiction | omega))))
    refine WG.pub 1 rfl ?_
    repeat' (first | refine W.seq ?_ | refine W.rg ?_ | refine W.dra' ?_ | refine W.block ?_ | refine W.skip ?_ | refine W.exit ?_ | refine W.cond_true' ?_ | refine W.cond_false' ?_ | refine WG.nil ?_ | refine WG.run' (E := env) ?_ | refine WG.gt' ?_ | refine WG.gf' ?_ | refine WG.ixm' (E := env) ?_ | refine WG.ixo' (E := env) ?_ | refine WG.legm' (E := env) ?_ | refine WG.slS' (E := env) ?_ | refine WG.slD' (E := env) ?_ | refine WG.ap' (E := env) ?_ | refine WD.nil ?_ | refine WD.bs' (E := env) ?_ | refine WD.s' (E := env) (t := .d _) ?_ | refine WD.p' ?_ | refine WD.px' ?_ | refine WD.s' (E := env) (t := .ea _ _) ?_ | refine WD.s' (E := env) (t := .lp _ _) ?_ | refine WD.s' (E := env) (t := .og _ _) ?_ | refine WD.s' (E := env) (t := .agg _) ?_ | refine WD.s' (E := env) (t := .tup _) ?_ | refine WD.s' (E := env) (t := .clo _ _) ?_ | refine WD.ixm' (E := env) ?_ | refine WD.ixo' (E := env) ?_ | refine WD.legm' (E := env) ?_ | refine WD.slS' (E := env) ?_ | refine WD.slD' (E := env) ?_ | refine WG.c (E := env) rfl rfl (h4) rfl rfl ?_ | refine WD.c (E := env) rfl rfl (h4) rfl rfl ?_ | refine WG.co (E := env) rfl rfl (h4) rfl rfl rfl rfl ?_ | refine WG.cx (E := env) rfl (h4) rfl ?_ | ((first | refine WG.sp' (fun h => ?_) fun h => ?_ | refine W.cond' (fun h => ?_) fun h => ?_ | refine WD.sp' (fun h => ?_) fun h => ?_) <;> (try simp only [decide_eq_true_eq, decide_eq_false_iff_not, Bool.not_eq_true', Bool.not_eq_false', Bool.and_eq_true, Bool.or_eq_true, Bool.and_eq_false_iff, Bool.or_eq_false_iff, Bool.not_eq_true, Bool.not_eq_false, Int.not_lt, Int.not_le, List.length_map, beq_self_eq_true, Bool.true_eq_false, Bool.false_eq_true] at h) <;> (try (exfalso; first | contradiction | omega))))
    (refine W.ret ?_; (first | refine RetQ.b' ?_ | refine RetQ.i' ?_ | refine RetQ.d' ?_ | refine RetQ.t2' ?_ ?_ | refine RetQ.t3' ?_ ?_ ?_))
    rfl

theorem l1Number_fn (n : Int) : Fun env.P 234 [dI n] (.og 0 0) [.gr 5 91 (([⟨3, n, noS, noS, 0⟩] : List Cell).map Cell.row) 0 false] := by
  refine Fun.intro Try.func234 rfl (by kernel_rfl) rfl ?_
  repeat' (first | refine W.seq ?_ | refine W.rg ?_ | refine W.dra' ?_ | refine W.block ?_ | refine W.skip ?_ | refine W.exit ?_ | refine W.cond_true' ?_ | refine W.cond_false' ?_ | refine WG.nil ?_ | refine WG.run' (E := env) ?_ | refine WG.gt' ?_ | refine WG.gf' ?_ | refine WG.ixm' (E := env) ?_ | refine WG.ixo' (E := env) ?_ | refine WG.legm' (E := env) ?_ | refine WG.slS' (E := env) ?_ | refine WG.slD' (E := env) ?_ | refine WG.ap' (E := env) ?_ | refine WD.nil ?_ | refine WD.bs' (E := env) ?_ | refine WD.s' (E := env) (t := .d _) ?_ | refine WD.p' ?_ | refine WD.px' ?_ | refine WD.s' (E := env) (t := .ea _ _) ?_ | refine WD.s' (E := env) (t := .lp _ _) ?_ | refine WD.s' (E := env) (t := .og _ _) ?_ | refine WD.s' (E := env) (t := .agg _) ?_ | refine WD.s' (E := env) (t := .tup _) ?_ | refine WD.s' (E := env) (t := .clo _ _) ?_ | refine WD.ixm' (E := env) ?_ | refine WD.ixo' (E := env) ?_ | refine WD.legm' (E := env) ?_ | refine WD.slS' (E := env) ?_ | refine WD.slD' (E := env) ?_ | ((first | refine WG.sp' (fun h => ?_) fun h => ?_ | refine W.cond' (fun h => ?_) fun h => ?_ | refine WD.sp' (fun h => ?_) fun h => ?_) <;> (try simp only [decide_eq_true_eq, decide_eq_false_iff_not, Bool.not_eq_true', Bool.not_eq_false', Bool.and_eq_true, Bool.or_eq_true, Bool.and_eq_false_iff, Bool.or_eq_false_iff, Bool.not_eq_true, Bool.not_eq_false, Int.not_lt, Int.not_le, List.length_map, beq_self_eq_true, Bool.true_eq_false, Bool.false_eq_true] at h) <;> (try (exfalso; first | contradiction | omega))))
  refine W.ret ?_
  exact RetQ.own (tt := .og 0 0) 0 0 (.inl rfl) rfl (by first | trivial | exact resOK_of (E := env) rfl) rfl rfl rfl rfl rfl

end Go.Proofs.Ytlegadpbjccelaa
