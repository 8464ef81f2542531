/-
  A tree lowered: what the law says of the results. Conditions: texts of at most 2^20 bytes.
-/
import Derived.Test.YtmmjbpgdkokjgaaGreatQLowerTreeLwP
set_option linter.unusedVariables false
set_option linter.unusedSimpArgs false
set_option maxRecDepth 100000
namespace Go.Proofs.YtmmjbpgdkokjgaaGreat
open Go.RowKit

mutual
def Pt.fines : Pt → Prop
  | .mk n kids => n.fine ∧ Pt.finess kids
def Pt.finess : List Pt → Prop
  | [] => True
  | p :: r => p.fines ∧ Pt.finess r
end
mutual
theorem Pt.fines_flat : ∀ (p : Pt) (b : Nat), p.fines → ∀ n ∈ p.flat b, n.fine
  | .mk n kids, b, h, x, hx => by
    simp only [Pt.flat, List.mem_append, List.mem_singleton] at hx
    rcases hx with hx | rfl
    · exact Pt.finess_flat kids b h.2 x hx
    · exact h.1
theorem Pt.finess_flat : ∀ (l : List Pt) (b : Nat), Pt.finess l → ∀ n ∈ Pt.flats l b, n.fine
  | [], b, h, x, hx => by cases hx
  | p :: r, b, h, x, hx => by
    simp only [Pt.flats, List.mem_append] at hx
    rcases hx with hx | hx
    · exact Pt.fines_flat p b h.1 x hx
    · exact Pt.finess_flat r _ h.2 x hx
end
theorem Pt.finess_take : ∀ (l : List Pt) (k : Nat), Pt.finess l → Pt.finess (l.take k)
  | [], k, _ => by simp [Pt.finess]
  | p :: r, 0, _ => trivial
  | p :: r, k + 1, h => ⟨h.1, Pt.finess_take r k h.2⟩

theorem fine_nil (op a b c num : Int) : (⟨op, a, b, c, num, []⟩ : Co).fine := ⟨(fun c hc => by cases hc), Nat.zero_le _⟩
theorem fine_one (op a b c num : Int) (x : Cell) (h1 : x.text.size ≤ 1048576) (h2 : x.key.size ≤ 1048576) : (⟨op, a, b, c, num, [x]⟩ : Co).fine :=
  ⟨fun c hc => by rw [List.mem_singleton.1 hc]; exact ⟨h1, h2⟩, Nat.le_of_ble_eq_true rfl⟩
theorem noS_fine : noS.size ≤ 1048576 := Nat.le_of_ble_eq_true rfl
theorem tru_fines (b : Bool) : (truP b).fines := ⟨fine_one _ _ _ _ _ _ noS_fine noS_fine, trivial⟩
theorem lf_fines (op num : Int) : (Pt.lf op num).fines := ⟨fine_nil _ _ _ _ _, trivial⟩
theorem n1_fines (op : Int) {A : Pt} (hA : A.fines) : (Pt.n1 op A).fines := ⟨fine_nil _ _ _ _ _, hA, trivial⟩
theorem n2_fines (op num : Int) {A B : Pt} (hA : A.fines) (hB : B.fines) : (Pt.n2 op num [] A B).fines := ⟨fine_nil _ _ _ _ _, hA, hB, trivial⟩
theorem n3_fines (op num : Int) {A B C : Pt} (hA : A.fines) (hB : B.fines) (hC : C.fines) : (Pt.n3 op num A B C).fines := ⟨fine_nil _ _ _ _ _, hA, hB, hC, trivial⟩
theorem callP_fines (t : ByteArray) : (callP t).fines := by
  unfold callP
  split
  · exact n3_fines _ _ (lf_fines _ _) (tru_fines _) (tru_fines _)
  split <;> exact lf_fines _ _
theorem oneP_fines (t : ByteArray) {A : Pt} (hA : A.fines) : (oneP t A).fines := by
  unfold oneP
  split
  · exact n3_fines _ _ hA (lf_fines _ _) (lf_fines _ _)
  split
  · exact n1_fines _ (n2_fines _ _ (n1_fines _ (lf_fines _ _)) hA)
  · exact n2_fines _ _ hA (n1_fines _ (lf_fines _ _))

theorem lowB_fines (n : Nd) (names : List ByteArray) {A B C : Pt} (ht : n.text.size ≤ 1048576) (hA : A.fines) (hB : B.fines) (hC : C.fines) : (lowB n names A B C).fines := by
  unfold lowB
  split
  · refine ⟨?_, Pt.finess_take _ _ ⟨hA, hB, hC, trivial⟩⟩
    unfold plainN
    by_cases h : n.op = 17
    · rw [if_pos h]; exact fine_one _ _ _ _ _ _ ht noS_fine
    · rw [if_neg h]; exact fine_nil _ _ _ _ _
  split
  · exact ⟨fine_one _ _ _ _ _ _ noS_fine noS_fine, trivial⟩
  split
  · exact ⟨fine_one _ _ _ _ _ _ ht noS_fine, trivial⟩
  split
  · exact ⟨fine_one _ _ _ _ _ _ noS_fine noS_fine, trivial⟩
  split
  · exact ⟨fine_one _ _ _ _ _ _ noS_fine noS_fine, trivial⟩
  split
  · exact ⟨fine_one _ _ _ _ _ _ noS_fine noS_fine, trivial⟩
  split
  · exact n1_fines _ (lf_fines _ _)
  split
  · exact n3_fines _ _ hA (tru_fines _) (n3_fines _ _ hB (tru_fines _) (tru_fines _))
  split
  · exact n3_fines _ _ hA (n3_fines _ _ hB (tru_fines _) (tru_fines _)) (tru_fines _)
  split
  · exact oneP_fines _ hA
  · exact callP_fines _

theorem lowP_fines {ns : List Nd} (hf : ∀ n ∈ ns, n.text.size ≤ 1048576) : ∀ (f k : Nat) (names : List ByteArray), (lowP ns f k names).fines
  | 0, k, names => ⟨fine_nil _ _ _ _ _, trivial⟩
  | f + 1, k, names => by
    have ht : (ns.getD k default).text.size ≤ 1048576 := by
      by_cases hk : k < ns.length
      · exact hf _ (getD_mem' hk)
      · rw [List.getD_eq_getElem?_getD, List.getElem?_eq_none (by omega)]
        exact Nat.zero_le _
    exact lowB_fines _ _ ht (lowP_fines hf f _ _) (lowP_fines hf f _ _) (lowP_fines hf f _ _)

theorem sumV_leQ (xs : List Co) (h : ∀ n ∈ xs, n.fine) : sumV xs ≤ 1048576 * xs.length := by
  induction xs with
  | nil => simp [sumV]
  | cons a r ih =>
    have h1 := (h a (List.mem_cons_self ..)).2
    have h2 := ih fun n hn => h n (List.mem_cons_of_mem _ hn)
    simp only [sumV, List.length_cons]
    omega

theorem lowR_fine (ns : List Nd) (hf : fitsT ns) : (lowR ns).length ≤ 900 ∧ (∀ n ∈ lowR ns, n.fine) ∧ sumV (lowR ns) ≤ 943718400 := by
  unfold lowR
  split
  · rename_i h
    have h1 := Pt.flat_length (lowT ns) 0
    have h2 := Pt.fines_flat (lowT ns) 0 (lowP_fines hf.1 _ _ _)
    have h3 := sumV_leQ _ h2
    exact ⟨by omega, h2, by omega⟩
  · exact ⟨Nat.zero_le _, fun n hn => (by cases hn), by simp [sumV]⟩

theorem LowerTree_both (ns : List Nd) (hf : fitsT ns) : ∃ (code did : Int) (rs : List Co), rs.length ≤ 1048576 ∧ (∀ n ∈ rs, n.fine) ∧ sumV rs ≤ 943718400 ∧
    Fun env.P 7 [nodesD ns] (.agg [vI .i64 code, vI .i64 did, .og 0 0]) [.x (neC (rs.map coN) (some (rs.map Co.row))) 0] ∧ Fun env.P 5 [nodesD ns] (.d (.agg [dI code, dI did, coresD rs])) [] := by
  obtain ⟨h1, h2, h3⟩ := lowR_fine ns hf
  exact ⟨lowC ns, lowV ns, lowR ns, by omega, h2, h3, LowerTree_fn ns hf, LowerTreeS_fn ns hf⟩

theorem neC_flat (rs : List Co) (dd : Option (List (List D))) (n : Nat) : (Ob.x (neC (rs.map coN) dd) n).flat := by
  refine nestX_flat n (fun r hr => ?_) fun r hr q hq p hp => ?_
  · obtain ⟨x, _, rfl⟩ := List.mem_map.1 hr
    rfl
  · obtain ⟨x, _, rfl⟩ := List.mem_map.1 hr
    cases hq
    obtain ⟨c, _, rfl⟩ := List.mem_map.1 hp
    rfl

section
variable {E : Env} {N : Nm} {Q : Exit → St → Prop} {tm : Nat → T} {ob : List Ob} {ops l : List Oper} {ty : TypeId} {pos : String} {after : Array Edge} {gd : Option (Nat × Bool)} {d : Nat} {G : List Nat}
theorem WG.ixeQ2 {α : Type} [Inhabited α] {f : α → List D} {r : List D} {xs : List α} {t e : TypeId} {x ix : Operand} {z : Nat} {k : IntKind} {i : Int} (hw : St.want ⟨tm, ob⟩ ops ⟨some d, .indexAddr t x ix, ty, pos, after, gd⟩ = some true) (hd : Nat.blt d N.n = true)
    (ht : (E.ty t).kind = .slice e) (he : (E.ty e).known = true) (hz : (E.ty e).size = z) (hx : norm ob (St.ev ⟨tm, ob⟩ x) = .d (.sl z (xs.map f))) (hi : St.ev ⟨tm, ob⟩ ix = .d (.v (.int k i)))
    (hf : f (xs.getD i.toNat default) = r) (hb : 0 ≤ i ∧ i < xs.length)
    (kk : WG G E.P N ops l Q ⟨upd tm d (.ea r 0), ob⟩) : WG G E.P N ops (⟨some d, .indexAddr t x ix, ty, pos, after, gd⟩ :: l) Q ⟨tm, ob⟩ := by
  subst hf
  exact WG.ixm hw hd ht he hz hx hi (fun _ => rfl) hb kk
end

theorem eqCoreResult_fn (c1 c2 d1 d2 : Int) (xs ys : List Co) (hm : xs.length ≤ 1048576) (hx : ∀ x ∈ xs, x.fine) :
    Fun env.P 8 [crD c1 d1 xs, crD c2 d2 ys] (.d (dB (decide (c1 = c2 ∧ d1 = d2 ∧ xs = ys)))) [] := by
  refine Fun.intro Tryz.func8 rfl (by kernel_rfl) rfl ?_
  have cc := eqCoreS_fn xs ys hm hx
  repeat' (first | refine W.seq ?_ | refine W.rg ?_ | refine W.skip ?_ | refine WG.nil ?_ | refine WG.run' (E := env) ?_ | refine WG.c (E := env) rfl rfl (cc) rfl rfl ?_ | ((refine W.cond' (fun h => ?_) fun h => ?_) <;> (try simp only [atS, List.length_map, beq_self_eq_true] at h) <;> (try (exfalso; first | contradiction | omega))))
  all_goals (refine W.ret ?_; (first | refine RetQ.b' ?_))
  all_goals simp [*]

set_option maxHeartbeats 4000000 in
theorem heldCoreS_fn (ls : List Nat) (k : Nat) (hk : endK k ls ≤ 1099511000000) (hl : ls.length ≤ 1048576) :
    Fun env.P 24 [coresD (marksK k ls), dI k] (.d (dI ((endK k ls : Nat) : Int))) [] := by
  have hml := marksK_length k ls
  refine Fun.intro Tryz.func24 rfl (by kernel_rfl) rfl ?_
  repeat' (first | refine W.seq ?_ | refine W.rg ?_ | refine W.block ?_ | refine W.skip ?_ | refine W.exit ?_ | refine W.cond_false' ?_ | refine WG.nil ?_ | refine WG.run' (E := env) ?_ | ((refine W.cond' (fun h => ?_) fun h => ?_) <;> (try simp only [atS, List.length_map, beq_self_eq_true] at h) <;> (try (exfalso; first | contradiction | omega))))
  refine W.loop (fun m S => ∃ (i : Nat) (q : Int), m = ls.length - i ∧ (i ≤ ls.length ∧ q = (endK k (ls.take i) : Nat)) ∧ S = ⟨ofL [(0, .d (coresD (marksK k ls))), (1, vI .i64 q), (5, vI .i64 i)], []⟩) _ _ ⟨0, k, rfl, ⟨by omega, by simp [endK]⟩, rfl⟩ (by (refine le_ofL rfl ?_ ?_ <;> (repeat (first | exact trivial | refine ⟨⟨rfl, rfl⟩, ?_⟩ | refine ⟨rfl, .inl rfl, ?_⟩ | refine ⟨rfl, .inr rfl, ?_⟩)))) ?_
  rintro m S ⟨i, q, rfl, ⟨hi, hq⟩, rfl⟩
  by_cases hlt : i < ls.length
  · have hmo := endK_mono k ls i
    have hmo2 := endK_mono k ls (i + 1)
    have het := endK_take k ls i hlt
    have hma := marksK_at k ls i hlt
    generalize endK k (ls.take i) = p at *
    subst hq
    have hmk := heldCellS_fn (ls.getD i default) (p + 5) (by omega)
    rw [show (i : Nat) = Int.toNat (i : Int) from rfl] at hma
    have f1 := congrArg Co.op hma
    have f2 := congrArg Co.a hma
    have f3 := congrArg Co.b hma
    have f4 := congrArg Co.c hma
    have f5 := congrArg Co.num hma
    have f6 := congrArg Co.val hma
    simp only at f1 f2 f3 f4 f5 f6
    rw [show ls.getD i default = ls.getD (Int.toNat (i : Int)) default from rfl] at hmk het
    rw [← f6, show ((p + 5 : Nat) : Int) = (p : Int) + 1 + 1 + 1 + 1 + 1 by omega, show ((p + 5 + 5 * ls.getD (Int.toNat (i : Int)) default : Nat) : Int) = ((endK k (ls.take (i + 1)) : Nat) : Int) by rw [het]] at hmk
    clear f6 hma
    obtain ⟨x, hx⟩ : ∃ x, (marksK k ls).getD (Int.toNat (i : Int)) default = x := ⟨_, rfl⟩
    rw [hx] at f1 f2 f3 f4 f5 hmk
    have hxw : Co.row ((marksK k ls).getD (Int.toNat (i : Int)) default) = x.row := by rw [hx]
    repeat' (first | refine WG.ixeQ2 (E := env) (r := x.row) rfl rfl rfl rfl rfl rfl rfl hxw (by (first | exact trivial | (simp only [inRange, List.length_map]; omega) | omega | assumption)) ?_ | refine W.seq ?_ | refine W.rg ?_ | refine W.block ?_ | refine W.skip ?_ | refine W.exit ?_ | refine W.cond_false' ?_ | refine WG.nil ?_ | refine WG.run' (E := env) ?_ | refine WG.c (E := env) rfl rfl (hmk) rfl rfl ?_ | ((refine W.cond' (fun h => ?_) fun h => ?_) <;> (try simp only [atS, List.length_map, beq_self_eq_true] at h) <;> (try (exfalso; first | contradiction | omega))))
    all_goals first
      | (exfalso; omega)
      | exact ⟨_, _, by omega, ⟨i + 1, _, rfl, ⟨by omega, rfl⟩, rfl⟩, (by (refine le_ofL rfl ?_ ?_ <;> (repeat (first | exact trivial | refine ⟨⟨rfl, rfl⟩, ?_⟩ | refine ⟨rfl, .inl rfl, ?_⟩ | refine ⟨rfl, .inr rfl, ?_⟩))))⟩
  · obtain rfl : i = ls.length := by omega
    rw [List.take_length] at hq
    subst hq
    repeat' (first | refine W.seq ?_ | refine W.rg ?_ | refine W.block ?_ | refine W.skip ?_ | refine W.exit ?_ | refine W.cond_false' ?_ | refine WG.nil ?_ | refine WG.run' (E := env) ?_ | ((refine W.cond' (fun h => ?_) fun h => ?_) <;> (try simp only [atS, List.length_map, beq_self_eq_true] at h) <;> (try (exfalso; first | contradiction | omega))))
    (refine W.ret ?_; (first | refine RetQ.i' ?_))
    rfl

theorem heldCoreResult_fn (code did : Int) (ls : List Nat) (k : Nat) (hk : endK k ls ≤ 1099511000000) (hl : ls.length ≤ 1048576) :
    Fun env.P 12 [crD code did (marksK k ls), dI k] (.d (dI ((endK k ls : Nat) : Int))) [] := by
  refine Fun.intro Tryz.func12 rfl (by kernel_rfl) rfl ?_
  have c1 := heldCoreS_fn ls k hk hl
  repeat' (first | refine W.seq ?_ | refine W.rg ?_ | refine W.skip ?_ | refine W.cond_false' ?_ | refine WG.nil ?_ | refine WG.run' (E := env) ?_ | refine WG.c (E := env) rfl rfl (c1) rfl rfl ?_)
  all_goals first | (exfalso; omega) | skip
  all_goals (refine W.ret ?_; (first | refine RetQ.i' ?_))
  all_goals rfl

set_option maxHeartbeats 2000000 in
theorem markCoreResult_fn (code did : Int) (xs : List Co) (dd : Option (List (List D))) (k : Nat) (hk : k + 5 * xs.length + 5 * sumV xs ≤ 1099511000000) :
    FunQ env.P 11 [.agg [vI .i64 code, vI .i64 did, .og 0 0], vI .i64 k] [.x (neC (xs.map coN) dd) 0]
      (just (vI .i64 ((k + 5 * xs.length + 5 * sumV xs : Nat) : Int)) [.x (neC ((marksK k (xs.map fun n => n.val.length)).map coN) (some ((marksK k (xs.map fun n => n.val.length)).map Co.row))) 0]) := by
  refine FunQ.intro Tryz.func11 rfl (by kernel_rfl) rfl ?_
  have c1 := markCoreS_fn xs dd k hk
  repeat' (first | refine W.seq ?_ | refine W.rg ?_ | refine WG.nil ?_ | refine WG.run' (E := env) ?_ | refine WG.cq (E := env) [0] [0] false rfl rfl (c1) rfl rfl rfl rfl rfl rfl rfl (by first | exact trivial | exact ⟨rfl, trivial⟩ | exact ⟨rfl, rfl, trivial⟩) (.inl rfl) rfl (fun h => nomatch h) rfl rfl ?_)
  refine W.ret ?_
  exact RetR.own (ob' := [.x (neC ((marksK k (xs.map fun n => n.val.length)).map coN) (some ((marksK k (xs.map fun n => n.val.length)).map Co.row))) 0]) ⟨[0], [0], 2⟩ (.inl rfl) rfl (by first | trivial | exact resOK_of (E := env) rfl) rfl rfl rfl rfl rfl rfl ⟨rfl, trivial⟩ rfl ⟨rfl, rfl⟩

end Go.Proofs.YtmmjbpgdkokjgaaGreat
