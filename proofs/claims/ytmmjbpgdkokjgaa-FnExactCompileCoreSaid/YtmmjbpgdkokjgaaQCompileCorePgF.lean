/-
  The small logic, texts V7 P1 P2 Cm1 Cl1 Mk1 G1 G3 Th1 Mk2 D1 G7 G8 Cm2 Cm3 G9 G6 G11 Ar1 in one. Conditions: none.
-/
import Derived.Test.YtmmjbpgdkokjgaaQCompileCoreV6
import Derived.Test.YtmmjbpgdkokjgaaQCompileCoreOr1
import Derived.Test.YtmmjbpgdkokjgaaQCompileCorePgE
import Derived.Test.YtmmjbpgdkokjgaaQCompileCorePgD
import Derived.Test.YtmmjbpgdkokjgaaQCompileCoreC1
import Derived.Test.YtmmjbpgdkokjgaaQCompileCoreVal
import Derived.Test.YtmmjbpgdkokjgaaQCompileCoreC2
import Derived.Lib.Bytealg
import Derived.Lib.Walk
/- Truthy: the program's and the reference's; the law. Conditions: none beyond the law's own. -/
section
set_option linter.unusedVariables false
set_option linter.unusedSimpArgs false
set_option maxRecDepth 100000
namespace Go.Proofs.Ytmmjbpgdkokjgaa
open Go.RowKit

/-- The kind of a right value is the kind of its first cell. -/
theorem valOfM_kind {cs : List Cell} (h : (valOfM cs).2 = 0) : (valOfM cs).1.kind = (cs.getD 0 default).kind ∧ 1 ≤ cs.length ∧ cs.length ≤ 200 ∧ cellsCode cs = 0 := by
  unfold valOfM at h ⊢
  split at h
  · simp at h
  · rename_i hl
    rw [if_neg hl]
    split at h
    · rename_i hc; exact absurd h hc
    · rename_i hc
      rw [if_neg hc]
      cases hv : valAtM cs (cs.length + 1) 0 with
      | none => rw [hv] at h; simp at h
      | some p =>
        obtain ⟨v, b⟩ := p
        rw [hv] at h
        simp only at h ⊢
        split at h
        · simp at h
        · rename_i hb
          rw [if_neg hb]
          split at h
          · simp at h
          · rename_i hd
            rw [if_neg hd]
            simp only [valAtM] at hv
            rw [if_pos (by omega)] at hv
            split at hv
            · cases hv
            · simp only [Option.some.injEq, Prod.mk.injEq] at hv
              obtain ⟨rfl, _⟩ := hv
              exact ⟨rfl, by omega, by omega, by omega⟩

end Go.Proofs.Ytmmjbpgdkokjgaa
end

/- Cells and values, in plain words: what is read at a place; a right value's cells; no program in sight. Conditions: none. -/
section
set_option linter.unusedVariables false
set_option linter.unusedSimpArgs false
set_option maxRecDepth 100000
namespace Go.Proofs.Ytmmjbpgdkokjgaa
open Go.RowKit

/-! ### what is read, without fuel -/

/-! ### the cells of a value -/

mutual
def V.cellsK (key : ByteArray) : V → List Cell
  | .mk k n t ks kids => ⟨k, n, t, key, (kids.length : Int)⟩ :: V.kidsC kids ks
def V.kidsC : List V → List ByteArray → List Cell
  | [], _ => []
  | v :: r, ks => V.cellsK (ks.headD noS) v ++ V.kidsC r ks.tail
end

def V.cells (v : V) : List Cell := v.cellsK noS

mutual
def V.good : V → Prop
  | .mk k n t ks kids => (0 ≤ k ∧ k ≤ 6) ∧ (n ≠ 0 → k = 3) ∧ (t ≠ noS → k = 4) ∧ (kids ≠ [] → k = 5 ∨ k = 6) ∧ (-1000000000000000 ≤ n ∧ n ≤ 1000000000000000) ∧ okText t = true ∧
      (k = 6 → ks.length = kids.length) ∧ (k ≠ 6 → ks = []) ∧ (∀ key ∈ ks, okText key = true) ∧ incr ks ∧ V.goods kids
def V.goods : List V → Prop
  | [] => True
  | v :: r => v.good ∧ V.goods r
end

theorem V.goods_mem : ∀ {l : List V}, V.goods l → ∀ v ∈ l, v.good
  | [], _, v, h => by cases h
  | x :: r, h, v, hv => by
    rcases List.mem_cons.1 hv with rfl | hv
    · exact h.1
    · exact V.goods_mem h.2 v hv

mutual
theorem V.cellsK_length : ∀ (v : V) (key : ByteArray), (v.cellsK key).length = v.count
  | .mk k n t ks kids, key => by simp only [V.cellsK, List.length_cons, V.count, V.kidsC_length kids ks]
theorem V.kidsC_length : ∀ (l : List V) (ks : List ByteArray), (V.kidsC l ks).length = V.counts l
  | [], _ => rfl
  | v :: r, ks => by simp only [V.kidsC, List.length_append, V.counts, V.cellsK_length v, V.kidsC_length r]
end

/-! ### a value's cells are read as it -/

end Go.Proofs.Ytmmjbpgdkokjgaa
end

/- The parts of a right value in its cells, in plain words: where they begin and end, their keys, their cells; no program in sight. Conditions: none. -/
section
set_option linter.unusedVariables false
set_option linter.unusedSimpArgs false
namespace Go.Proofs.Ytmmjbpgdkokjgaa
open Go.RowKit

/-- Where part j of a value at k begins. -/
def V.at (v : V) (k j : Nat) : Nat := k + 1 + V.counts (v.kids.take j)

/-- The cells from one place up to another. -/
def cut (cs : List Cell) (a b : Nat) : List Cell := (cs.drop a).take (b - a)

end Go.Proofs.Ytmmjbpgdkokjgaa
end

/- The order of values, in plain words, and that it is one: no program in sight. Conditions: none. -/
section
set_option linter.unusedVariables false
set_option linter.unusedSimpArgs false
set_option maxRecDepth 100000
namespace Go.Proofs.Ytmmjbpgdkokjgaa
open Go.RowKit

/-! ### bytes -/

/-! ### an order's laws, for three results -/

end Go.Proofs.Ytmmjbpgdkokjgaa
end

/- A call to which all slices of the call's own are lent to be read. Conditions: none. -/
section
set_option linter.unusedVariables false
set_option linter.unusedSimpArgs false
namespace Go.Proofs.Ytmmjbpgdkokjgaa
open Go.RowKit

section
variable {E : Env} {N : Nm} {Q : Exit → St → Prop} {ops l : List Oper} {ty : TypeId} {pos : String} {after : Array Edge} {gd : Option (Nat × Bool)} {d : Nat} {tm : Nat → T} {ob : List Ob} {G : List Nat}

theorem WG.cL {f : FuncId} {xs : List Operand} {tys : List TypeId} {args : List D} {t : T} (hw : St.want ⟨tm, ob⟩ ops ⟨some d, .call ⟨.value (.func f), xs.toArray, tys.toArray⟩, ty, pos, after, gd⟩ = some true) (hd : Nat.blt d N.n = true)
    (hc : Fun E.P f args t []) (ha : argsT E ⟨tm, ob⟩ true xs tys ++ [] = T.renL ⟨[], [], ob.length⟩ (args.map T.d)) (hlp : T.lpOKL ⟨[], [], ob.length⟩ (args.map T.d) = true) (hfl : t.flat = true) (hu : t.under 0 = true)
    (k : WG G E.P N ops l Q ⟨upd tm d t, ob⟩) : WG G E.P N ops (⟨some d, .call ⟨.value (.func f), xs.toArray, tys.toArray⟩, ty, pos, after, gd⟩ :: l) Q ⟨tm, ob⟩ :=
  WG.cq (E := E) [] [] true hw hd hc rfl rfl ha hlp rfl rfl rfl trivial (.inr rfl) rfl (fun _ => ⟨hfl, by intro o ho; cases ho⟩) (T.ren_under t hu) (by simp [mergeO, renFrom]) k
end
end Go.Proofs.Ytmmjbpgdkokjgaa
end

/- What the laws' marks and holds do to slices of cells and of integers. Conditions: none. -/
section
set_option linter.unusedVariables false
set_option linter.unusedSimpArgs false
set_option maxRecDepth 100000
namespace Go.Proofs.Ytmmjbpgdkokjgaa
open Go.RowKit

/-- The digits of a number ahead of a text. -/
def digsM : Nat → Nat → ByteArray → ByteArray
  | 0, _, out => out
  | f + 1, k, out => if k = 0 then out else digsM f (k / 10) (strB [48 + (k % 10 : Nat)] ++ out)

def markS (k : Nat) : ByteArray := if k = 0 then ⟨#[109, 48]⟩ else ⟨#[109]⟩ ++ digsM k k ⟨#[]⟩

set_option maxHeartbeats 1000000 in
theorem markText_fn (k : Nat) (hk : k ≤ 1099511627776) : Fun env.P 60 [dI k] (.d (dS (markS k))) [] := by
  refine Fun.intro Try.func60 rfl (by kernel_rfl) rfl ?_
  repeat' (first | refine W.seq ?_ | refine W.rg ?_ | refine W.dra' ?_ | refine W.block ?_ | refine W.skip ?_ | refine W.exit ?_ | refine W.cond_true' ?_ | refine W.cond_false' ?_ | refine WG.nil ?_ | refine WG.run' (E := env) ?_ | refine WG.gt' ?_ | refine WG.gf' ?_ | refine WG.ixm' (E := env) ?_ | refine WG.ixo' (E := env) ?_ | refine WG.legm' (E := env) ?_ | refine WG.slS' (E := env) ?_ | refine WG.slD' (E := env) ?_ | refine WG.ap' (E := env) ?_ | refine WD.nil ?_ | refine WD.bs' (E := env) ?_ | refine WD.s' (E := env) (t := .d _) ?_ | refine WD.p' ?_ | refine WD.px' ?_ | refine WD.s' (E := env) (t := .ea _ _) ?_ | refine WD.s' (E := env) (t := .lp _ _) ?_ | refine WD.s' (E := env) (t := .og _ _) ?_ | refine WD.s' (E := env) (t := .agg _) ?_ | refine WD.s' (E := env) (t := .tup _) ?_ | refine WD.s' (E := env) (t := .clo _ _) ?_ | refine WD.ixm' (E := env) ?_ | refine WD.ixo' (E := env) ?_ | refine WD.legm' (E := env) ?_ | refine WD.slS' (E := env) ?_ | refine WD.slD' (E := env) ?_ | ((first | refine WG.sp' (fun h => ?_) fun h => ?_ | refine W.cond' (fun h => ?_) fun h => ?_ | refine WD.sp' (fun h => ?_) fun h => ?_) <;> (try simp only [atS, List.length_map, beq_self_eq_true] at h) <;> (try (exfalso; first | contradiction | omega))))
  · (refine W.ret ?_; (first | refine RetQ.b' ?_ | refine RetQ.i' ?_ | refine RetQ.d' ?_ | refine RetQ.t2' ?_ ?_ | refine RetQ.t3' ?_ ?_ ?_))
    rw [markS, if_pos (by omega)]
    rfl
  have h1 : ((⟨#[109]⟩ : ByteArray)).size = 1 := rfl
  refine W.loop (fun m S => ∃ (f : Nat) (out : ByteArray), (m ≤ f ∧ m ≤ k ∧ out.size + f ≤ k ∧ digsM k k ⟨#[]⟩ = digsM f m out) ∧ S = ⟨ofL [(0, vI .i64 m), (3, vS out)], []⟩) _ _ ⟨k, _, ⟨Nat.le_refl _, Nat.le_refl _, by show 0 + k ≤ k; omega, rfl⟩, rfl⟩ (by (refine le_ofL rfl ?_ ?_ <;> (repeat (first | exact trivial | refine ⟨⟨rfl, rfl⟩, ?_⟩ | refine ⟨rfl, .inl rfl, ?_⟩ | refine ⟨rfl, .inr rfl, ?_⟩)))) ?_
  rintro m S ⟨f, out, ⟨hj, hjk, hsz, he⟩, rfl⟩
  have hmod : ((m : Int).tmod 10) = ((m % 10 : Nat) : Int) := by rw [Int.tmod_eq_emod_of_nonneg (by omega)]; rfl
  have hmod2 : 0 ≤ ((m : Int).tmod 10) ∧ ((m : Int).tmod 10) ≤ 9 := by rw [hmod]; omega
  have h10 : ((m : Int).tdiv 10) = ((m / 10 : Nat) : Int) := by rw [Int.tdiv_eq_ediv_of_nonneg (by omega)]; rfl
  have h102 : 0 ≤ ((m : Int).tdiv 10) ∧ ((m : Int).tdiv 10) ≤ m := by rw [h10]; omega
  have hb : ∀ n : Int, (strB [n]).size = 1 := fun n => rfl
  have hb2 := hb (48 + ((m : Int).tmod 10))
  repeat' (first | refine W.seq ?_ | refine W.rg ?_ | refine W.dra' ?_ | refine W.block ?_ | refine W.skip ?_ | refine W.exit ?_ | refine W.cond_true' ?_ | refine W.cond_false' ?_ | refine WG.nil ?_ | refine WG.run' (E := env) ?_ | refine WG.gt' ?_ | refine WG.gf' ?_ | refine WG.ixm' (E := env) ?_ | refine WG.ixo' (E := env) ?_ | refine WG.legm' (E := env) ?_ | refine WG.slS' (E := env) ?_ | refine WG.slD' (E := env) ?_ | refine WG.ap' (E := env) ?_ | refine WD.nil ?_ | refine WD.bs' (E := env) ?_ | refine WD.s' (E := env) (t := .d _) ?_ | refine WD.p' ?_ | refine WD.px' ?_ | refine WD.s' (E := env) (t := .ea _ _) ?_ | refine WD.s' (E := env) (t := .lp _ _) ?_ | refine WD.s' (E := env) (t := .og _ _) ?_ | refine WD.s' (E := env) (t := .agg _) ?_ | refine WD.s' (E := env) (t := .tup _) ?_ | refine WD.s' (E := env) (t := .clo _ _) ?_ | refine WD.ixm' (E := env) ?_ | refine WD.ixo' (E := env) ?_ | refine WD.legm' (E := env) ?_ | refine WD.slS' (E := env) ?_ | refine WD.slD' (E := env) ?_ | ((first | refine WG.sp' (fun h => ?_) fun h => ?_ | refine W.cond' (fun h => ?_) fun h => ?_ | refine WD.sp' (fun h => ?_) fun h => ?_) <;> (try simp only [atS, List.length_map, beq_self_eq_true] at h) <;> (try (exfalso; first | contradiction | omega))))
  · refine WG.b2s (E := env) (ns := [48 + ((m : Int).tmod 10)]) rfl rfl rfl rfl rfl rfl ?_
    repeat' (first | refine W.seq ?_ | refine W.rg ?_ | refine W.dra' ?_ | refine W.block ?_ | refine W.skip ?_ | refine W.exit ?_ | refine W.cond_true' ?_ | refine W.cond_false' ?_ | refine WG.nil ?_ | refine WG.run' (E := env) ?_ | refine WG.gt' ?_ | refine WG.gf' ?_ | refine WG.ixm' (E := env) ?_ | refine WG.ixo' (E := env) ?_ | refine WG.legm' (E := env) ?_ | refine WG.slS' (E := env) ?_ | refine WG.slD' (E := env) ?_ | refine WG.ap' (E := env) ?_ | refine WD.nil ?_ | refine WD.bs' (E := env) ?_ | refine WD.s' (E := env) (t := .d _) ?_ | refine WD.p' ?_ | refine WD.px' ?_ | refine WD.s' (E := env) (t := .ea _ _) ?_ | refine WD.s' (E := env) (t := .lp _ _) ?_ | refine WD.s' (E := env) (t := .og _ _) ?_ | refine WD.s' (E := env) (t := .agg _) ?_ | refine WD.s' (E := env) (t := .tup _) ?_ | refine WD.s' (E := env) (t := .clo _ _) ?_ | refine WD.ixm' (E := env) ?_ | refine WD.ixo' (E := env) ?_ | refine WD.legm' (E := env) ?_ | refine WD.slS' (E := env) ?_ | refine WD.slD' (E := env) ?_ | ((first | refine WG.sp' (fun h => ?_) fun h => ?_ | refine W.cond' (fun h => ?_) fun h => ?_ | refine WD.sp' (fun h => ?_) fun h => ?_) <;> (try simp only [atS, List.length_map, beq_self_eq_true] at h) <;> (try (exfalso; first | contradiction | omega))))
    refine ⟨m / 10, _, ?_, ⟨f - 1, strB [48 + ((m % 10 : Nat) : Int)] ++ out, ⟨?_, ?_, ?_, ?_⟩, rfl⟩, ?_⟩
    · omega
    · omega
    · omega
    · rw [ByteArray.size_append, hb]; omega
    · rw [he]
      obtain ⟨f', rfl⟩ : ∃ f', f = f' + 1 := ⟨f - 1, by omega⟩
      rw [digsM, if_neg (by omega)]
      rfl
    · rw [← hmod, ← h10]
      exact (by (refine le_ofL rfl ?_ ?_ <;> (repeat (first | exact trivial | refine ⟨⟨rfl, rfl⟩, ?_⟩ | refine ⟨rfl, .inl rfl, ?_⟩ | refine ⟨rfl, .inr rfl, ?_⟩))))
  · have : m = 0 := by omega
    subst this
    (refine W.ret ?_; (first | refine RetQ.b' ?_ | refine RetQ.i' ?_ | refine RetQ.d' ?_ | refine RetQ.t2' ?_ ?_ | refine RetQ.t3' ?_ ?_ ?_))
    rw [markS, if_neg (by omega), he]
    cases f <;> rfl

/-- The cell of a mark. -/
def markC (q : Nat) : Cell := ⟨(q : Int), (q : Int) + 1, markS (q + 2), markS (q + 3), (q : Int) + 1 + 1 + 1 + 1⟩
def marksL (k n : Nat) : List Cell := (List.range n).map fun i => markC (k + 5 * i)

theorem marksL_length (k n : Nat) : (marksL k n).length = n := by simp [marksL]
theorem marksL_succ (k n : Nat) : marksL k (n + 1) = marksL k n ++ [markC (k + 5 * n)] := by simp [marksL, List.range_succ]
theorem marksL_at (k n i : Nat) (h : i < n) : (marksL k n).getD i default = markC (k + 5 * i) := by simp [marksL, h]

theorem markText_at (q : Nat) {n : Int} (k : Nat) (hn : n = (k : Int)) (hk : k ≤ 1099511627776) : Fun env.P 60 [dI n] (.d (dS (markS k))) [] :=
  (markText_fn k hk).cast (by rw [hn]) rfl rfl

set_option maxHeartbeats 2000000 in
theorem markCellS_fn (cs : List Cell) (k : Nat) (hk : k + 5 * cs.length ≤ 1099511627000) :
    FunQ env.P 24 [.og 0 0, vI .i64 k] [.gr 5 81 (cs.map Cell.row) 0 false] (just (vI .i64 ((k + 5 * cs.length : Nat) : Int)) [.gr 5 81 ((marksL k cs.length).map Cell.row) 0 false]) := by
  refine FunQ.intro Try.func24 rfl (by kernel_rfl) rfl ?_
  repeat' (first | refine W.seq ?_ | refine W.rg ?_ | refine W.dra' ?_ | refine W.block ?_ | refine W.skip ?_ | refine W.exit ?_ | refine W.cond_true' ?_ | refine W.cond_false' ?_ | refine WG.nil ?_ | refine WG.run' (E := env) ?_ | refine WG.gt' ?_ | refine WG.gf' ?_ | refine WG.ixm' (E := env) ?_ | refine WG.ixo' (E := env) ?_ | refine WG.legm' (E := env) ?_ | refine WG.slS' (E := env) ?_ | refine WG.slD' (E := env) ?_ | refine WG.ap' (E := env) ?_ | refine WD.nil ?_ | refine WD.bs' (E := env) ?_ | refine WD.s' (E := env) (t := .d _) ?_ | refine WD.p' ?_ | refine WD.px' ?_ | refine WD.s' (E := env) (t := .ea _ _) ?_ | refine WD.s' (E := env) (t := .lp _ _) ?_ | refine WD.s' (E := env) (t := .og _ _) ?_ | refine WD.s' (E := env) (t := .agg _) ?_ | refine WD.s' (E := env) (t := .tup _) ?_ | refine WD.s' (E := env) (t := .clo _ _) ?_ | refine WD.ixm' (E := env) ?_ | refine WD.ixo' (E := env) ?_ | refine WD.legm' (E := env) ?_ | refine WD.slS' (E := env) ?_ | refine WD.slD' (E := env) ?_ | ((first | refine WG.sp' (fun h => ?_) fun h => ?_ | refine W.cond' (fun h => ?_) fun h => ?_ | refine WD.sp' (fun h => ?_) fun h => ?_) <;> (try simp only [atS, List.length_map, beq_self_eq_true] at h) <;> (try (exfalso; first | contradiction | omega))))
  refine W.loop (fun m S => ∃ (i : Nat), m = cs.length - i ∧ i ≤ cs.length ∧ S = ⟨ofL [(0, .og 0 0), (1, vI .i64 ((k + 5 * i : Nat) : Int)), (5, vI .i64 i)], [.gr 5 81 ((marksL k i).map Cell.row ++ (cs.drop i).map Cell.row) 0 false]⟩) _ _ ⟨0, rfl, by omega, rfl⟩ (by (refine le_ofL rfl ?_ ?_ <;> (repeat (first | exact trivial | refine ⟨⟨rfl, rfl⟩, ?_⟩ | refine ⟨rfl, .inl rfl, ?_⟩ | refine ⟨rfl, .inr rfl, ?_⟩)))) ?_
  rintro m S ⟨i, rfl, hi, rfl⟩
  by_cases hlt : i < cs.length
  · have hlen : ((marksL k i).map Cell.row ++ (cs.drop i).map Cell.row).length = cs.length := by simp [marksL_length]; omega
    rw [drop_step hlt, List.map_cons] at hlen ⊢
    generalize hq : k + 5 * i = q
    generalize cs.getD i default = c at hlen ⊢
    obtain ⟨c1, c2, c3, c4, c5⟩ := c
    have h2 := markText_at q (n := (q : Int) + 1 + 1) (q + 2) (by omega) (by omega)
    have h3 := markText_at q (n := (q : Int) + 1 + 1 + 1) (q + 3) (by omega) (by omega)
    have hA : (i : Int) = (((marksL k i).map Cell.row).length : Int) := by simp [marksL_length]
    repeat' (first | refine WG.ixA (E := env) rfl rfl rfl rfl rfl rfl rfl rfl hA ?_ | refine WG.stA (E := env) rfl rfl rfl rfl (by simp) rfl rfl rfl rfl ?_ | refine W.seq ?_ | refine W.rg ?_ | refine W.dra' ?_ | refine W.block ?_ | refine W.skip ?_ | refine W.exit ?_ | refine W.cond_true' ?_ | refine W.cond_false' ?_ | refine WG.nil ?_ | refine WG.run' (E := env) ?_ | refine WG.gt' ?_ | refine WG.gf' ?_ | refine WG.ixm' (E := env) ?_ | refine WG.ixo' (E := env) ?_ | refine WG.legm' (E := env) ?_ | refine WG.slS' (E := env) ?_ | refine WG.slD' (E := env) ?_ | refine WG.ap' (E := env) ?_ | refine WD.nil ?_ | refine WD.bs' (E := env) ?_ | refine WD.s' (E := env) (t := .d _) ?_ | refine WD.p' ?_ | refine WD.px' ?_ | refine WD.s' (E := env) (t := .ea _ _) ?_ | refine WD.s' (E := env) (t := .lp _ _) ?_ | refine WD.s' (E := env) (t := .og _ _) ?_ | refine WD.s' (E := env) (t := .agg _) ?_ | refine WD.s' (E := env) (t := .tup _) ?_ | refine WD.s' (E := env) (t := .clo _ _) ?_ | refine WD.ixm' (E := env) ?_ | refine WD.ixo' (E := env) ?_ | refine WD.legm' (E := env) ?_ | refine WD.slS' (E := env) ?_ | refine WD.slD' (E := env) ?_ | refine WG.c (E := env) rfl rfl (h2) rfl rfl ?_ | refine WD.c (E := env) rfl rfl (h2) rfl rfl ?_ | refine WG.co (E := env) rfl rfl (h2) rfl rfl rfl rfl ?_ | refine WG.cx (E := env) rfl (h2) rfl ?_ | refine WG.c (E := env) rfl rfl (h3) rfl rfl ?_ | refine WD.c (E := env) rfl rfl (h3) rfl rfl ?_ | refine WG.co (E := env) rfl rfl (h3) rfl rfl rfl rfl ?_ | refine WG.cx (E := env) rfl (h3) rfl ?_ | ((first | refine WG.sp' (fun h => ?_) fun h => ?_ | refine W.cond' (fun h => ?_) fun h => ?_ | refine WD.sp' (fun h => ?_) fun h => ?_) <;> (try simp only [atS, List.length_map, beq_self_eq_true] at h) <;> (try (exfalso; first | contradiction | omega))))
    · refine ⟨_, _, by omega, ⟨i + 1, rfl, by omega, rfl⟩, leOb (ob' := [.gr 5 81 ((marksL k (i + 1)).map Cell.row ++ (cs.drop (i + 1)).map Cell.row) 0 false]) ?_ ?_⟩
      · rw [marksL_succ, List.map_append, List.append_assoc, hq]
        rfl
      · have e1 : ((k + 5 * (i + 1) : Nat) : Int) = (q : Int) + 1 + 1 + 1 + 1 + 1 := by omega
        rw [e1]
        exact (by (refine le_ofL rfl ?_ ?_ <;> (repeat (first | exact trivial | refine ⟨⟨rfl, rfl⟩, ?_⟩ | refine ⟨rfl, .inl rfl, ?_⟩ | refine ⟨rfl, .inr rfl, ?_⟩))))
    all_goals (exfalso; omega)
  · obtain rfl : i = cs.length := by omega
    rw [List.drop_length, List.map_nil, List.append_nil]
    repeat' (first | refine W.seq ?_ | refine W.rg ?_ | refine W.dra' ?_ | refine W.block ?_ | refine W.skip ?_ | refine W.exit ?_ | refine W.cond_true' ?_ | refine W.cond_false' ?_ | refine WG.nil ?_ | refine WG.run' (E := env) ?_ | refine WG.gt' ?_ | refine WG.gf' ?_ | refine WG.ixm' (E := env) ?_ | refine WG.ixo' (E := env) ?_ | refine WG.legm' (E := env) ?_ | refine WG.slS' (E := env) ?_ | refine WG.slD' (E := env) ?_ | refine WG.ap' (E := env) ?_ | refine WD.nil ?_ | refine WD.bs' (E := env) ?_ | refine WD.s' (E := env) (t := .d _) ?_ | refine WD.p' ?_ | refine WD.px' ?_ | refine WD.s' (E := env) (t := .ea _ _) ?_ | refine WD.s' (E := env) (t := .lp _ _) ?_ | refine WD.s' (E := env) (t := .og _ _) ?_ | refine WD.s' (E := env) (t := .agg _) ?_ | refine WD.s' (E := env) (t := .tup _) ?_ | refine WD.s' (E := env) (t := .clo _ _) ?_ | refine WD.ixm' (E := env) ?_ | refine WD.ixo' (E := env) ?_ | refine WD.legm' (E := env) ?_ | refine WD.slS' (E := env) ?_ | refine WD.slD' (E := env) ?_ | ((first | refine WG.sp' (fun h => ?_) fun h => ?_ | refine W.cond' (fun h => ?_) fun h => ?_ | refine WD.sp' (fun h => ?_) fun h => ?_) <;> (try simp only [atS, List.length_map, beq_self_eq_true] at h) <;> (try (exfalso; first | contradiction | omega))))
    · rw [marksL_length] at h; exfalso; omega
    · refine W.ret ?_
      exact RetR.own (ob' := [.gr 5 81 ((marksL k cs.length).map Cell.row) 0 false]) ⟨[0], [0], 1⟩ (.inl rfl) rfl (by first | trivial | exact resOK_of (E := env) rfl) rfl rfl rfl rfl rfl rfl ⟨rfl, trivial⟩ rfl ⟨rfl, rfl⟩

set_option maxHeartbeats 2000000 in
theorem heldCellS_fn (n k : Nat) (hk : k + 5 * n ≤ 1099511627000) :
    Fun env.P 61 [cellsD (marksL k n), dI k] (.d (dI ((k + 5 * n : Nat) : Int))) [] := by
  refine Fun.intro Try.func61 rfl (by kernel_rfl) rfl ?_
  repeat' (first | refine W.seq ?_ | refine W.rg ?_ | refine W.dra' ?_ | refine W.block ?_ | refine W.skip ?_ | refine W.exit ?_ | refine W.cond_true' ?_ | refine W.cond_false' ?_ | refine WG.nil ?_ | refine WG.run' (E := env) ?_ | refine WG.gt' ?_ | refine WG.gf' ?_ | refine WG.ixm' (E := env) ?_ | refine WG.ixo' (E := env) ?_ | refine WG.legm' (E := env) ?_ | refine WG.slS' (E := env) ?_ | refine WG.slD' (E := env) ?_ | refine WG.ap' (E := env) ?_ | refine WD.nil ?_ | refine WD.bs' (E := env) ?_ | refine WD.s' (E := env) (t := .d _) ?_ | refine WD.p' ?_ | refine WD.px' ?_ | refine WD.s' (E := env) (t := .ea _ _) ?_ | refine WD.s' (E := env) (t := .lp _ _) ?_ | refine WD.s' (E := env) (t := .og _ _) ?_ | refine WD.s' (E := env) (t := .agg _) ?_ | refine WD.s' (E := env) (t := .tup _) ?_ | refine WD.s' (E := env) (t := .clo _ _) ?_ | refine WD.ixm' (E := env) ?_ | refine WD.ixo' (E := env) ?_ | refine WD.legm' (E := env) ?_ | refine WD.slS' (E := env) ?_ | refine WD.slD' (E := env) ?_ | ((first | refine WG.sp' (fun h => ?_) fun h => ?_ | refine W.cond' (fun h => ?_) fun h => ?_ | refine WD.sp' (fun h => ?_) fun h => ?_) <;> (try simp only [atS, List.length_map, beq_self_eq_true] at h) <;> (try (exfalso; first | contradiction | omega))))
  refine W.loop (fun m S => ∃ (i : Nat), m = n - i ∧ i ≤ n ∧ S = ⟨ofL [(0, .d (cellsD (marksL k n))), (1, vI .i64 ((k + 5 * i : Nat) : Int)), (5, vI .i64 i)], []⟩) _ _ ⟨0, rfl, by omega, rfl⟩ (by (refine le_ofL rfl ?_ ?_ <;> (repeat (first | exact trivial | refine ⟨⟨rfl, rfl⟩, ?_⟩ | refine ⟨rfl, .inl rfl, ?_⟩ | refine ⟨rfl, .inr rfl, ?_⟩)))) ?_
  rintro m S ⟨i, rfl, hi, rfl⟩
  have hlen := marksL_length k n
  by_cases hlt : i < n
  · have hat := marksL_at k n i hlt
    generalize hq : k + 5 * i = q at hat ⊢
    have h2 := markText_at q (n := (q : Int) + 1 + 1) (q + 2) (by omega) (by omega)
    have h3 := markText_at q (n := (q : Int) + 1 + 1 + 1) (q + 3) (by omega) (by omega)
    repeat' (first | refine W.seq ?_ | refine W.rg ?_ | refine W.dra' ?_ | refine W.block ?_ | refine W.skip ?_ | refine W.exit ?_ | refine W.cond_true' ?_ | refine W.cond_false' ?_ | refine WG.nil ?_ | refine WG.run' (E := env) ?_ | refine WG.gt' ?_ | refine WG.gf' ?_ | refine WG.ixm' (E := env) ?_ | refine WG.ixo' (E := env) ?_ | refine WG.legm' (E := env) ?_ | refine WG.slS' (E := env) ?_ | refine WG.slD' (E := env) ?_ | refine WG.ap' (E := env) ?_ | refine WD.nil ?_ | refine WD.bs' (E := env) ?_ | refine WD.s' (E := env) (t := .d _) ?_ | refine WD.p' ?_ | refine WD.px' ?_ | refine WD.s' (E := env) (t := .ea _ _) ?_ | refine WD.s' (E := env) (t := .lp _ _) ?_ | refine WD.s' (E := env) (t := .og _ _) ?_ | refine WD.s' (E := env) (t := .agg _) ?_ | refine WD.s' (E := env) (t := .tup _) ?_ | refine WD.s' (E := env) (t := .clo _ _) ?_ | refine WD.ixm' (E := env) ?_ | refine WD.ixo' (E := env) ?_ | refine WD.legm' (E := env) ?_ | refine WD.slS' (E := env) ?_ | refine WD.slD' (E := env) ?_ | refine WG.c (E := env) rfl rfl (h2) rfl rfl ?_ | refine WD.c (E := env) rfl rfl (h2) rfl rfl ?_ | refine WG.co (E := env) rfl rfl (h2) rfl rfl rfl rfl ?_ | refine WG.cx (E := env) rfl (h2) rfl ?_ | refine WG.c (E := env) rfl rfl (h3) rfl rfl ?_ | refine WD.c (E := env) rfl rfl (h3) rfl rfl ?_ | refine WG.co (E := env) rfl rfl (h3) rfl rfl rfl rfl ?_ | refine WG.cx (E := env) rfl (h3) rfl ?_ | ((first | refine WG.sp' (fun h => ?_) fun h => ?_ | refine W.cond' (fun h => ?_) fun h => ?_ | refine WD.sp' (fun h => ?_) fun h => ?_) <;> (try simp only [atS, List.length_map, beq_self_eq_true] at h) <;> (try (exfalso; first | contradiction | omega))))
    all_goals first
      | (exfalso; apply h; rw [Int.toNat_natCast, hat]; rfl)
      | (have e1 : ((k + 5 * (i + 1) : Nat) : Int) = (q : Int) + 1 + 1 + 1 + 1 + 1 := by omega
         refine ⟨_, _, by omega, ⟨i + 1, rfl, by omega, rfl⟩, ?_⟩
         rw [e1]
         exact (by (refine le_ofL rfl ?_ ?_ <;> (repeat (first | exact trivial | refine ⟨⟨rfl, rfl⟩, ?_⟩ | refine ⟨rfl, .inl rfl, ?_⟩ | refine ⟨rfl, .inr rfl, ?_⟩)))))
      | (exfalso; omega)
  · obtain rfl : i = n := by omega
    repeat' (first | refine W.seq ?_ | refine W.rg ?_ | refine W.dra' ?_ | refine W.block ?_ | refine W.skip ?_ | refine W.exit ?_ | refine W.cond_true' ?_ | refine W.cond_false' ?_ | refine WG.nil ?_ | refine WG.run' (E := env) ?_ | refine WG.gt' ?_ | refine WG.gf' ?_ | refine WG.ixm' (E := env) ?_ | refine WG.ixo' (E := env) ?_ | refine WG.legm' (E := env) ?_ | refine WG.slS' (E := env) ?_ | refine WG.slD' (E := env) ?_ | refine WG.ap' (E := env) ?_ | refine WD.nil ?_ | refine WD.bs' (E := env) ?_ | refine WD.s' (E := env) (t := .d _) ?_ | refine WD.p' ?_ | refine WD.px' ?_ | refine WD.s' (E := env) (t := .ea _ _) ?_ | refine WD.s' (E := env) (t := .lp _ _) ?_ | refine WD.s' (E := env) (t := .og _ _) ?_ | refine WD.s' (E := env) (t := .agg _) ?_ | refine WD.s' (E := env) (t := .tup _) ?_ | refine WD.s' (E := env) (t := .clo _ _) ?_ | refine WD.ixm' (E := env) ?_ | refine WD.ixo' (E := env) ?_ | refine WD.legm' (E := env) ?_ | refine WD.slS' (E := env) ?_ | refine WD.slD' (E := env) ?_ | ((first | refine WG.sp' (fun h => ?_) fun h => ?_ | refine W.cond' (fun h => ?_) fun h => ?_ | refine WD.sp' (fun h => ?_) fun h => ?_) <;> (try simp only [atS, List.length_map, beq_self_eq_true] at h) <;> (try (exfalso; first | contradiction | omega))))
    (refine W.ret ?_; (first | refine RetQ.b' ?_ | refine RetQ.i' ?_ | refine RetQ.d' ?_ | refine RetQ.t2' ?_ ?_ | refine RetQ.t3' ?_ ?_ ?_))
    rfl

/-- The program's copy of a slice of cells, still the call's own. -/
theorem toCellSown_fn (xs : List Cell) (hm : xs.length ≤ 1048576) : Fun env.P 43 [cellsD xs] (.og 0 0) [.gr 5 81 (xs.map Cell.row) 0 false] := by
  refine Fun.intro Try.func43 rfl (by kernel_rfl) rfl ?_
  repeat' (first | refine W.seq ?_ | refine W.rg ?_ | refine W.dra' ?_ | refine W.block ?_ | refine W.skip ?_ | refine W.exit ?_ | refine W.cond_true' ?_ | refine W.cond_false' ?_ | refine WG.nil ?_ | refine WG.run' (E := env) ?_ | refine WG.gt' ?_ | refine WG.gf' ?_ | refine WG.ixm' (E := env) ?_ | refine WG.ixo' (E := env) ?_ | refine WG.legm' (E := env) ?_ | refine WG.slS' (E := env) ?_ | refine WG.slD' (E := env) ?_ | refine WG.ap' (E := env) ?_ | refine WD.nil ?_ | refine WD.bs' (E := env) ?_ | refine WD.s' (E := env) (t := .d _) ?_ | refine WD.p' ?_ | refine WD.px' ?_ | refine WD.s' (E := env) (t := .ea _ _) ?_ | refine WD.s' (E := env) (t := .lp _ _) ?_ | refine WD.s' (E := env) (t := .og _ _) ?_ | refine WD.s' (E := env) (t := .agg _) ?_ | refine WD.s' (E := env) (t := .tup _) ?_ | refine WD.s' (E := env) (t := .clo _ _) ?_ | refine WD.ixm' (E := env) ?_ | refine WD.ixo' (E := env) ?_ | refine WD.legm' (E := env) ?_ | refine WD.slS' (E := env) ?_ | refine WD.slD' (E := env) ?_ | ((first | refine WG.sp' (fun h => ?_) fun h => ?_ | refine W.cond' (fun h => ?_) fun h => ?_ | refine WD.sp' (fun h => ?_) fun h => ?_) <;> (try simp only [atS, List.length_map, beq_self_eq_true] at h) <;> (try (exfalso; first | contradiction | omega))))
  refine WG.mk (E := env) (z := 5) (zs := zeroCell) rfl rfl rfl rfl rfl rfl rfl rfl rfl rfl rfl ?_ ?_
  · refine ⟨by simp, by simp, ?_⟩
    show ((56 : Nat) : Int) * _ ≤ _
    simp; omega
  rw [show List.replicate (((xs.map Cell.row).length : Int)).toNat zeroCell = rowsK Cell.row zeroCell xs 0 by rw [rowsK_zero]; simp]
  repeat' (first | refine W.seq ?_ | refine W.rg ?_ | refine W.dra' ?_ | refine W.block ?_ | refine W.skip ?_ | refine W.exit ?_ | refine W.cond_true' ?_ | refine W.cond_false' ?_ | refine WG.nil ?_ | refine WG.run' (E := env) ?_ | refine WG.gt' ?_ | refine WG.gf' ?_ | refine WG.ixm' (E := env) ?_ | refine WG.ixo' (E := env) ?_ | refine WG.legm' (E := env) ?_ | refine WG.slS' (E := env) ?_ | refine WG.slD' (E := env) ?_ | refine WG.ap' (E := env) ?_ | refine WD.nil ?_ | refine WD.bs' (E := env) ?_ | refine WD.s' (E := env) (t := .d _) ?_ | refine WD.p' ?_ | refine WD.px' ?_ | refine WD.s' (E := env) (t := .ea _ _) ?_ | refine WD.s' (E := env) (t := .lp _ _) ?_ | refine WD.s' (E := env) (t := .og _ _) ?_ | refine WD.s' (E := env) (t := .agg _) ?_ | refine WD.s' (E := env) (t := .tup _) ?_ | refine WD.s' (E := env) (t := .clo _ _) ?_ | refine WD.ixm' (E := env) ?_ | refine WD.ixo' (E := env) ?_ | refine WD.legm' (E := env) ?_ | refine WD.slS' (E := env) ?_ | refine WD.slD' (E := env) ?_ | ((first | refine WG.sp' (fun h => ?_) fun h => ?_ | refine W.cond' (fun h => ?_) fun h => ?_ | refine WD.sp' (fun h => ?_) fun h => ?_) <;> (try simp only [atS, List.length_map, beq_self_eq_true] at h) <;> (try (exfalso; first | contradiction | omega))))
  refine W.loop (fun m S => ∃ (k : Nat), m = xs.length - k ∧ k ≤ xs.length ∧ S = ⟨ofL [(0, .d (cellsD xs)), (3, .og 0 0), (4, vI .i64 k)], [.gr 5 81 (rowsK Cell.row zeroCell xs k) 0 false]⟩) _ _ ⟨0, rfl, by omega, rfl⟩ (by (refine le_ofL rfl ?_ ?_ <;> (repeat (first | exact trivial | refine ⟨⟨rfl, rfl⟩, ?_⟩ | refine ⟨rfl, .inl rfl, ?_⟩ | refine ⟨rfl, .inr rfl, ?_⟩)))) ?_
  rintro m S ⟨k, rfl, hk, rfl⟩
  repeat' (first | refine W.seq ?_ | refine W.rg ?_ | refine W.dra' ?_ | refine W.block ?_ | refine W.skip ?_ | refine W.exit ?_ | refine W.cond_true' ?_ | refine W.cond_false' ?_ | refine WG.nil ?_ | refine WG.run' (E := env) ?_ | refine WG.gt' ?_ | refine WG.gf' ?_ | refine WG.ixm' (E := env) ?_ | refine WG.ixo' (E := env) ?_ | refine WG.legm' (E := env) ?_ | refine WG.slS' (E := env) ?_ | refine WG.slD' (E := env) ?_ | refine WG.ap' (E := env) ?_ | refine WD.nil ?_ | refine WD.bs' (E := env) ?_ | refine WD.s' (E := env) (t := .d _) ?_ | refine WD.p' ?_ | refine WD.px' ?_ | refine WD.s' (E := env) (t := .ea _ _) ?_ | refine WD.s' (E := env) (t := .lp _ _) ?_ | refine WD.s' (E := env) (t := .og _ _) ?_ | refine WD.s' (E := env) (t := .agg _) ?_ | refine WD.s' (E := env) (t := .tup _) ?_ | refine WD.s' (E := env) (t := .clo _ _) ?_ | refine WD.ixm' (E := env) ?_ | refine WD.ixo' (E := env) ?_ | refine WD.legm' (E := env) ?_ | refine WD.slS' (E := env) ?_ | refine WD.slD' (E := env) ?_ | refine WG.c (E := env) rfl rfl (toCell_fn _) rfl rfl ?_ | refine WD.c (E := env) rfl rfl (toCell_fn _) rfl rfl ?_ | refine WG.co (E := env) rfl rfl (toCell_fn _) rfl rfl rfl rfl ?_ | refine WG.cx (E := env) rfl (toCell_fn _) rfl ?_ | ((first | refine WG.sp' (fun h => ?_) fun h => ?_ | refine W.cond' (fun h => ?_) fun h => ?_ | refine WD.sp' (fun h => ?_) fun h => ?_) <;> (try simp only [atS, List.length_map, beq_self_eq_true] at h) <;> (try (exfalso; first | contradiction | omega))))
  · refine WG.ixo (E := env) rfl rfl rfl rfl rfl rfl rfl rfl (by rw [rowsK_length _ _ _ (by omega)]; omega) ?_
    refine WG.stE (E := env) rfl rfl rfl rfl (rowsK_at _ _ _ (by omega)) rfl rfl rfl rfl ?_
    refine WG.obEq (ob' := [.gr 5 81 (rowsK Cell.row zeroCell xs (k + 1)) 0 false]) (congrArg (fun r => [Ob.gr 5 81 r 0 false]) (rowsK_set Cell.row zeroCell xs (by omega))) ?_
    repeat' (first | refine W.seq ?_ | refine W.rg ?_ | refine W.dra' ?_ | refine W.block ?_ | refine W.skip ?_ | refine W.exit ?_ | refine W.cond_true' ?_ | refine W.cond_false' ?_ | refine WG.nil ?_ | refine WG.run' (E := env) ?_ | refine WG.gt' ?_ | refine WG.gf' ?_ | refine WG.ixm' (E := env) ?_ | refine WG.ixo' (E := env) ?_ | refine WG.legm' (E := env) ?_ | refine WG.slS' (E := env) ?_ | refine WG.slD' (E := env) ?_ | refine WG.ap' (E := env) ?_ | refine WD.nil ?_ | refine WD.bs' (E := env) ?_ | refine WD.s' (E := env) (t := .d _) ?_ | refine WD.p' ?_ | refine WD.px' ?_ | refine WD.s' (E := env) (t := .ea _ _) ?_ | refine WD.s' (E := env) (t := .lp _ _) ?_ | refine WD.s' (E := env) (t := .og _ _) ?_ | refine WD.s' (E := env) (t := .agg _) ?_ | refine WD.s' (E := env) (t := .tup _) ?_ | refine WD.s' (E := env) (t := .clo _ _) ?_ | refine WD.ixm' (E := env) ?_ | refine WD.ixo' (E := env) ?_ | refine WD.legm' (E := env) ?_ | refine WD.slS' (E := env) ?_ | refine WD.slD' (E := env) ?_ | ((first | refine WG.sp' (fun h => ?_) fun h => ?_ | refine W.cond' (fun h => ?_) fun h => ?_ | refine WD.sp' (fun h => ?_) fun h => ?_) <;> (try simp only [atS, List.length_map, beq_self_eq_true] at h) <;> (try (exfalso; first | contradiction | omega))))
    exact ⟨_, _, by omega, ⟨k + 1, rfl, by omega, rfl⟩, (by (refine le_ofL rfl ?_ ?_ <;> (repeat (first | exact trivial | refine ⟨⟨rfl, rfl⟩, ?_⟩ | refine ⟨rfl, .inl rfl, ?_⟩ | refine ⟨rfl, .inr rfl, ?_⟩))))⟩
  · obtain rfl : k = xs.length := by omega
    rw [rowsK_all]
    refine W.ret ?_
    exact RetQ.own (tt := .og 0 0) 0 0 (.inl rfl) rfl (by first | trivial | exact resOK_of (E := env) rfl) rfl rfl rfl rfl rfl

end Go.Proofs.Ytmmjbpgdkokjgaa
end

/- The program's way from values to cells: counts, cells, faults, results. Conditions: none. -/
section
set_option linter.unusedVariables false
set_option linter.unusedSimpArgs false
set_option maxRecDepth 100000
namespace Go.Proofs.Ytmmjbpgdkokjgaa
open Go.RowKit

theorem V.counts_take (l : List V) (j : Nat) : V.counts (l.take j) ≤ V.counts l := by
  induction l generalizing j with
  | nil => simp
  | cons x r ih => cases j <;> simp [V.counts, List.take]; have := ih ‹_›; omega

theorem V.kidsC_take : ∀ (l : List V) (ks : List ByteArray) (i : Nat), i < l.length → V.kidsC (l.take (i + 1)) ks = V.kidsC (l.take i) ks ++ (l.getD i default).cellsK (ks.getD i noS)
  | [], _, i, h => by simp at h
  | x :: r, ks, 0, h => by cases ks <;> simp [V.kidsC]
  | x :: r, ks, i + 1, h => by
    have := V.kidsC_take r ks.tail i (by simpa using h)
    simp only [List.take_succ_cons, V.kidsC, this, List.append_assoc, List.getD_cons_succ]
    cases ks <;> simp

section
variable {E : Env} {N : Nm} {Q : Exit → St → Prop} {S : St} {ops l : List Oper} {ty : TypeId} {pos : String} {after : Array Edge} {gd : Option (Nat × Bool)} {d : Nat} {tm : Nat → T} {ob : List Ob} {G : List Nat}
theorem WG.ixe {α : Type} [Inhabited α] {f : α → List D} {r : List D} {xs : List α} {t e : TypeId} {x ix : Operand} {z : Nat} {k : IntKind} {i : Int} (hw : St.want ⟨tm, ob⟩ ops ⟨some d, .indexAddr t x ix, ty, pos, after, gd⟩ = some true) (hd : Nat.blt d N.n = true)
    (ht : (E.ty t).kind = .slice e) (he : (E.ty e).known = true) (hz : (E.ty e).size = z) (hx : norm ob (St.ev ⟨tm, ob⟩ x) = .d (.sl z (xs.map f))) (hi : St.ev ⟨tm, ob⟩ ix = .d (.v (.int k i)))
    (hf : f (xs.getD i.toNat default) = r) (hb : 0 ≤ i ∧ i < xs.length)
    (kk : WG G E.P N ops l Q ⟨upd tm d (.ea r 0), ob⟩) : WG G E.P N ops (⟨some d, .indexAddr t x ix, ty, pos, after, gd⟩ :: l) Q ⟨tm, ob⟩ := by
  subst hf
  exact WG.ixm hw hd ht he hz hx hi (fun _ => rfl) hb kk

theorem WG.pub (k : Nat) {z : Nat} {e : TypeId} {rows : List (List D)} {n : Nat} (hk : ob[k]? = some (.gr z e rows n false)) (h : WG G E.P N ops l Q ⟨tm, ob.set k (.gr z e rows n true)⟩) : WG G E.P N ops l Q ⟨tm, ob⟩ := WL.pub (S := ⟨tm, ob⟩) k hk h
end

theorem sizeV_fn (kids : List V) : Fun env.P 98 [.sl 5 (kids.map V.row)] (.d (dI (kids.map V.row).length)) [] := by
  refine Fun.intro Try.func98 rfl (by kernel_rfl) rfl ?_
  repeat' (first | refine W.seq ?_ | refine W.rg ?_ | refine W.dra' ?_ | refine W.block ?_ | refine W.skip ?_ | refine W.exit ?_ | refine W.cond_true' ?_ | refine W.cond_false' ?_ | refine WG.nil ?_ | refine WG.run' (E := env) ?_ | refine WG.gt' ?_ | refine WG.gf' ?_ | refine WG.ixm' (E := env) ?_ | refine WG.ixo' (E := env) ?_ | refine WG.legm' (E := env) ?_ | refine WG.slS' (E := env) ?_ | refine WG.slD' (E := env) ?_ | refine WG.ap' (E := env) ?_ | refine WD.nil ?_ | refine WD.bs' (E := env) ?_ | refine WD.s' (E := env) (t := .d _) ?_ | refine WD.p' ?_ | refine WD.px' ?_ | refine WD.s' (E := env) (t := .ea _ _) ?_ | refine WD.s' (E := env) (t := .lp _ _) ?_ | refine WD.s' (E := env) (t := .og _ _) ?_ | refine WD.s' (E := env) (t := .agg _) ?_ | refine WD.s' (E := env) (t := .tup _) ?_ | refine WD.s' (E := env) (t := .clo _ _) ?_ | refine WD.ixm' (E := env) ?_ | refine WD.ixo' (E := env) ?_ | refine WD.legm' (E := env) ?_ | refine WD.slS' (E := env) ?_ | refine WD.slD' (E := env) ?_ | ((first | refine WG.sp' (fun h => ?_) fun h => ?_ | refine W.cond' (fun h => ?_) fun h => ?_ | refine WD.sp' (fun h => ?_) fun h => ?_) <;> (try simp only [atS, List.length_map, beq_self_eq_true] at h) <;> (try (exfalso; first | contradiction | omega))))
  (refine W.ret ?_; (first | refine RetQ.b' ?_ | refine RetQ.i' ?_ | refine RetQ.d' ?_ | refine RetQ.t2' ?_ ?_ | refine RetQ.t3' ?_ ?_ ?_))
  rfl

set_option maxHeartbeats 2000000 in
theorem cellsP_fn : ∀ (n : Nat) (v : V), v.count ≤ n → n ≤ 1048576 → v.good → Fun env.P 94 [.agg v.rowP] (.og 0 0) [.gr 5 81 (v.cells.map Cell.row) 0 false]
  | 0, v, h, _, _ => by
    have := V.depth_le v
    omega
  | n + 1, v, h, hn, hg => by
    have ih := cellsP_fn n
    obtain ⟨k, nm, t, ks, kids⟩ := v
    simp only [V.count] at h
    have hlc := V.length_counts kids
    have hdep : ∀ j, j < kids.length → (kids.getD j default).count ≤ n := fun j hj => by
      have := V.counts_ge (kids.getD j default) (getD_mem' hj)
      omega
    have hmax := V.counts_take kids
    obtain ⟨g1, g2, g3, g4, g5, g6, g7, g8, g9, g10, g11⟩ := hg
    have hgk : ∀ j, j < kids.length → (kids.getD j default).good := fun j hj => V.goods_mem g11 _ (getD_mem' hj)
    have hsz := sizeV_fn kids
    refine Fun.intro Try.func94 rfl (by kernel_rfl) rfl ?_
    have hkn : ¬ (k = 5 ∨ k = 6) → kids = [] := fun hk => Decidable.byContradiction fun hne => hk (g4 hne)
    have hky : (V.mk k nm t ks kids).keys.length = ks.length := rfl
    have hkk : (V.mk k nm t ks kids).kind = k := rfl
    repeat' (first | refine W.seq ?_ | refine W.rg ?_ | refine W.dra' ?_ | refine W.block ?_ | refine W.skip ?_ | refine W.exit ?_ | refine W.cond_true' ?_ | refine W.cond_false' ?_ | refine WG.nil ?_ | refine WG.run' (E := env) ?_ | refine WG.gt' ?_ | refine WG.gf' ?_ | refine WG.ixm' (E := env) ?_ | refine WG.ixo' (E := env) ?_ | refine WG.legm' (E := env) ?_ | refine WG.slS' (E := env) ?_ | refine WG.slD' (E := env) ?_ | refine WG.ap' (E := env) ?_ | refine WD.nil ?_ | refine WD.bs' (E := env) ?_ | refine WD.s' (E := env) (t := .d _) ?_ | refine WD.p' ?_ | refine WD.px' ?_ | refine WD.s' (E := env) (t := .ea _ _) ?_ | refine WD.s' (E := env) (t := .lp _ _) ?_ | refine WD.s' (E := env) (t := .og _ _) ?_ | refine WD.s' (E := env) (t := .agg _) ?_ | refine WD.s' (E := env) (t := .tup _) ?_ | refine WD.s' (E := env) (t := .clo _ _) ?_ | refine WD.ixm' (E := env) ?_ | refine WD.ixo' (E := env) ?_ | refine WD.legm' (E := env) ?_ | refine WD.slS' (E := env) ?_ | refine WD.slD' (E := env) ?_ | refine WG.c (E := env) rfl rfl (hsz) rfl rfl ?_ | refine WD.c (E := env) rfl rfl (hsz) rfl rfl ?_ | refine WG.co (E := env) rfl rfl (hsz) rfl rfl rfl rfl ?_ | refine WG.cx (E := env) rfl (hsz) rfl ?_ | ((first | refine WG.sp' (fun h => ?_) fun h => ?_ | refine W.cond' (fun h => ?_) fun h => ?_ | refine WD.sp' (fun h => ?_) fun h => ?_) <;> (try simp only [atS, List.length_map, beq_self_eq_true] at h) <;> (try (exfalso; first | contradiction | omega))))
    · refine W.loopI (fun m S => ∃ (i : Nat) (rv : List (List D)), m = kids.length - i ∧ (i ≤ kids.length ∧ rv = (V.kidsC (kids.take i) ks).map Cell.row) ∧
        S = ⟨ofL [(1, .lp 0 0), (4, .og 1 0), (29, .d (.sl 5 (kids.map V.row))), (30, vI .i64 (kids.map V.row).length), (31, vI .i64 i)],
          [.pv ((V.mk k nm t ks kids).rowP.map .d), .gr 5 81 (Cell.row ⟨k, nm, t, noS, ((kids.map V.row).length : Int)⟩ :: rv) 0 false]⟩) _ _ ⟨0, [], rfl, ⟨by omega, rfl⟩, rfl⟩ (St.imp.of_le (by (refine le_ofL rfl ?_ ?_ <;> (repeat (first | exact trivial | refine ⟨⟨rfl, rfl⟩, ?_⟩ | refine ⟨rfl, .inl rfl, ?_⟩ | refine ⟨rfl, .inr rfl, ?_⟩))))) ?_
      rintro m S ⟨i, rv, rfl, ⟨hi, hrv⟩, rfl⟩
      by_cases hlt : i < kids.length
      · have hrl : rv.length = V.counts (kids.take i) := by rw [hrv, List.length_map, V.kidsC_length]
        have hm1 := hmax i
        have hc1 := hdep i hlt
        have ih' := ih (kids.getD i default) hc1 (by omega) (hgk i hlt)
        have htk := V.kidsC_take kids ks i hlt
        generalize hkid : kids.getD i default = kid at ih' htk hc1
        obtain ⟨vk, vn, vt, vks, vkids⟩ := kid
        have hl2 : ((V.kidsC vkids vks).map Cell.row).length = V.counts vkids := by rw [List.length_map, V.kidsC_length]
        simp only [V.count] at hc1
        have ih2 : Fun env.P 94 [.agg (V.mk vk vn vt vks vkids).rowP] (.og 0 0) [.gr 5 81 (Cell.row ⟨vk, vn, vt, noS, vkids.length⟩ :: (V.kidsC vkids vks).map Cell.row) 0 false] := ih'
        have hix : ∀ j : Nat, j = i → (kids.getD j default).row = (V.mk vk vn vt vks vkids).rowP := fun j hj => by rw [hj, hkid, V.row_eq]
        clear ih ih' hkid
        repeat' (first | refine WG.ixe (E := env) (r := (V.mk vk vn vt vks vkids).rowP) rfl rfl rfl rfl rfl rfl rfl (hix _ (by omega)) (by (first | exact trivial | (simp only [inRange, List.length_map]; omega) | omega | assumption)) ?_ | refine WG.co (E := env) (K := 3) (t' := .og 3 0) rfl rfl ih2 rfl rfl rfl rfl ?_ | refine WG.ap (E := env) rfl rfl rfl rfl rfl rfl rfl rfl rfl rfl rfl (by show (List.length (_ :: _) + List.length (_ :: _)) * 56 ≤ _; simp only [List.length_cons, hrl, hl2]; omega) ?_ | refine WG.ixA (E := env) (A := []) rfl rfl rfl rfl rfl rfl rfl rfl rfl ?_ | refine WG.stA (E := env) (A := []) rfl rfl rfl rfl rfl rfl rfl rfl rfl ?_ | refine W.seq ?_ | refine W.rg ?_ | refine W.dra' ?_ | refine W.block ?_ | refine W.skip ?_ | refine W.exit ?_ | refine W.cond_true' ?_ | refine W.cond_false' ?_ | refine WG.nil ?_ | refine WG.run' (E := env) ?_ | refine WG.gt' ?_ | refine WG.gf' ?_ | refine WG.ixm' (E := env) ?_ | refine WG.ixo' (E := env) ?_ | refine WG.legm' (E := env) ?_ | refine WG.slS' (E := env) ?_ | refine WG.slD' (E := env) ?_ | refine WG.ap' (E := env) ?_ | refine WD.nil ?_ | refine WD.bs' (E := env) ?_ | refine WD.s' (E := env) (t := .d _) ?_ | refine WD.p' ?_ | refine WD.px' ?_ | refine WD.s' (E := env) (t := .ea _ _) ?_ | refine WD.s' (E := env) (t := .lp _ _) ?_ | refine WD.s' (E := env) (t := .og _ _) ?_ | refine WD.s' (E := env) (t := .agg _) ?_ | refine WD.s' (E := env) (t := .tup _) ?_ | refine WD.s' (E := env) (t := .clo _ _) ?_ | refine WD.ixm' (E := env) ?_ | refine WD.ixo' (E := env) ?_ | refine WD.legm' (E := env) ?_ | refine WD.slS' (E := env) ?_ | refine WD.slD' (E := env) ?_ | fail | ((first | refine WG.sp' (fun h => ?_) fun h => ?_ | refine W.cond' (fun h => ?_) fun h => ?_ | refine WD.sp' (fun h => ?_) fun h => ?_) <;> (try simp only [atS, List.length_map, beq_self_eq_true] at h) <;> (try (exfalso; first | contradiction | omega))))
        refine ⟨_, _, by omega, ⟨i + 1, _, rfl, ⟨by omega, ?_⟩, rfl⟩, (St.imp.rev 1 1 rfl).trans (St.imp.of_le (by (refine le_ofL rfl ?_ ?_ <;> (repeat (first | exact trivial | refine ⟨⟨rfl, rfl⟩, ?_⟩ | refine ⟨rfl, .inl rfl, ?_⟩ | refine ⟨rfl, .inr rfl, ?_⟩)))))⟩
        rw [htk, List.map_append, ← hrv, show ks.getD i noS = noS by rw [g8 (by omega)]; rfl]
        rfl
      · obtain rfl : i = kids.length := by omega
        repeat' (first | refine W.seq ?_ | refine W.rg ?_ | refine W.dra' ?_ | refine W.block ?_ | refine W.skip ?_ | refine W.exit ?_ | refine W.cond_true' ?_ | refine W.cond_false' ?_ | refine WG.nil ?_ | refine WG.run' (E := env) ?_ | refine WG.gt' ?_ | refine WG.gf' ?_ | refine WG.ixm' (E := env) ?_ | refine WG.ixo' (E := env) ?_ | refine WG.legm' (E := env) ?_ | refine WG.slS' (E := env) ?_ | refine WG.slD' (E := env) ?_ | refine WG.ap' (E := env) ?_ | refine WD.nil ?_ | refine WD.bs' (E := env) ?_ | refine WD.s' (E := env) (t := .d _) ?_ | refine WD.p' ?_ | refine WD.px' ?_ | refine WD.s' (E := env) (t := .ea _ _) ?_ | refine WD.s' (E := env) (t := .lp _ _) ?_ | refine WD.s' (E := env) (t := .og _ _) ?_ | refine WD.s' (E := env) (t := .agg _) ?_ | refine WD.s' (E := env) (t := .tup _) ?_ | refine WD.s' (E := env) (t := .clo _ _) ?_ | refine WD.ixm' (E := env) ?_ | refine WD.ixo' (E := env) ?_ | refine WD.legm' (E := env) ?_ | refine WD.slS' (E := env) ?_ | refine WD.slD' (E := env) ?_ | ((first | refine WG.sp' (fun h => ?_) fun h => ?_ | refine W.cond' (fun h => ?_) fun h => ?_ | refine WD.sp' (fun h => ?_) fun h => ?_) <;> (try simp only [atS, List.length_map, beq_self_eq_true] at h) <;> (try (exfalso; first | contradiction | omega))))
        refine W.ret ?_
        exact RetQ.own (tt := .og 1 0) 1 0 (.inl rfl) rfl (by first | trivial | exact resOK_of (E := env) rfl) rfl rfl rfl rfl (by rw [hrv, List.take_length, List.length_map]; rfl)
    · refine W.loopI (fun m S => ∃ (i : Nat) (rv : List (List D)), m = kids.length - i ∧ (i ≤ kids.length ∧ rv = (V.kidsC (kids.take i) ks).map Cell.row) ∧
        S = ⟨ofL [(1, .lp 0 0), (4, .og 1 0), (29, .d (.sl 5 (kids.map V.row))), (30, vI .i64 (kids.map V.row).length), (31, vI .i64 i)],
          [.pv ((V.mk k nm t ks kids).rowP.map .d), .gr 5 81 (Cell.row ⟨k, nm, t, noS, ((kids.map V.row).length : Int)⟩ :: rv) 0 false]⟩) _ _ ⟨0, [], rfl, ⟨by omega, rfl⟩, rfl⟩ (St.imp.of_le (by (refine le_ofL rfl ?_ ?_ <;> (repeat (first | exact trivial | refine ⟨⟨rfl, rfl⟩, ?_⟩ | refine ⟨rfl, .inl rfl, ?_⟩ | refine ⟨rfl, .inr rfl, ?_⟩))))) ?_
      rintro m S ⟨i, rv, rfl, ⟨hi, hrv⟩, rfl⟩
      by_cases hlt : i < kids.length
      · have hrl : rv.length = V.counts (kids.take i) := by rw [hrv, List.length_map, V.kidsC_length]
        have hm1 := hmax i
        have hc1 := hdep i hlt
        have ih' := ih (kids.getD i default) hc1 (by omega) (hgk i hlt)
        have htk := V.kidsC_take kids ks i hlt
        generalize hkid : kids.getD i default = kid at ih' htk hc1
        obtain ⟨vk, vn, vt, vks, vkids⟩ := kid
        have hl2 : ((V.kidsC vkids vks).map Cell.row).length = V.counts vkids := by rw [List.length_map, V.kidsC_length]
        simp only [V.count] at hc1
        have ih2 : Fun env.P 94 [.agg (V.mk vk vn vt vks vkids).rowP] (.og 0 0) [.gr 5 81 (Cell.row ⟨vk, vn, vt, noS, vkids.length⟩ :: (V.kidsC vkids vks).map Cell.row) 0 false] := ih'
        have hix : ∀ j : Nat, j = i → (kids.getD j default).row = (V.mk vk vn vt vks vkids).rowP := fun j hj => by rw [hj, hkid, V.row_eq]
        clear ih ih' hkid
        repeat' (first | refine WG.ixe (E := env) (r := (V.mk vk vn vt vks vkids).rowP) rfl rfl rfl rfl rfl rfl rfl (hix _ (by omega)) (by (first | exact trivial | (simp only [inRange, List.length_map]; omega) | omega | assumption)) ?_ | refine WG.co (E := env) (K := 3) (t' := .og 3 0) rfl rfl ih2 rfl rfl rfl rfl ?_ | refine WG.ap (E := env) rfl rfl rfl rfl rfl rfl rfl rfl rfl rfl rfl (by show (List.length (_ :: _) + List.length (_ :: _)) * 56 ≤ _; simp only [List.length_cons, hrl, hl2]; omega) ?_ | refine WG.ixA (E := env) (A := []) rfl rfl rfl rfl rfl rfl rfl rfl rfl ?_ | refine WG.stA (E := env) (A := []) rfl rfl rfl rfl rfl rfl rfl rfl rfl ?_ | refine W.seq ?_ | refine W.rg ?_ | refine W.dra' ?_ | refine W.block ?_ | refine W.skip ?_ | refine W.exit ?_ | refine W.cond_true' ?_ | refine W.cond_false' ?_ | refine WG.nil ?_ | refine WG.run' (E := env) ?_ | refine WG.gt' ?_ | refine WG.gf' ?_ | refine WG.ixm' (E := env) ?_ | refine WG.ixo' (E := env) ?_ | refine WG.legm' (E := env) ?_ | refine WG.slS' (E := env) ?_ | refine WG.slD' (E := env) ?_ | refine WG.ap' (E := env) ?_ | refine WD.nil ?_ | refine WD.bs' (E := env) ?_ | refine WD.s' (E := env) (t := .d _) ?_ | refine WD.p' ?_ | refine WD.px' ?_ | refine WD.s' (E := env) (t := .ea _ _) ?_ | refine WD.s' (E := env) (t := .lp _ _) ?_ | refine WD.s' (E := env) (t := .og _ _) ?_ | refine WD.s' (E := env) (t := .agg _) ?_ | refine WD.s' (E := env) (t := .tup _) ?_ | refine WD.s' (E := env) (t := .clo _ _) ?_ | refine WD.ixm' (E := env) ?_ | refine WD.ixo' (E := env) ?_ | refine WD.legm' (E := env) ?_ | refine WD.slS' (E := env) ?_ | refine WD.slD' (E := env) ?_ | fail | ((first | refine WG.sp' (fun h => ?_) fun h => ?_ | refine W.cond' (fun h => ?_) fun h => ?_ | refine WD.sp' (fun h => ?_) fun h => ?_) <;> (try simp only [atS, List.length_map, beq_self_eq_true] at h) <;> (try (exfalso; first | contradiction | omega))))
        refine ⟨_, _, by omega, ⟨i + 1, _, rfl, ⟨by omega, ?_⟩, rfl⟩, (St.imp.rev 1 1 rfl).trans (St.imp.of_le (by (refine le_ofL rfl ?_ ?_ <;> (repeat (first | exact trivial | refine ⟨⟨rfl, rfl⟩, ?_⟩ | refine ⟨rfl, .inl rfl, ?_⟩ | refine ⟨rfl, .inr rfl, ?_⟩)))))⟩
        rw [htk, List.map_append, ← hrv, show ks.getD i noS = ks.getD (Int.toNat (i : Int)) default from rfl]
        rfl
      · obtain rfl : i = kids.length := by omega
        repeat' (first | refine W.seq ?_ | refine W.rg ?_ | refine W.dra' ?_ | refine W.block ?_ | refine W.skip ?_ | refine W.exit ?_ | refine W.cond_true' ?_ | refine W.cond_false' ?_ | refine WG.nil ?_ | refine WG.run' (E := env) ?_ | refine WG.gt' ?_ | refine WG.gf' ?_ | refine WG.ixm' (E := env) ?_ | refine WG.ixo' (E := env) ?_ | refine WG.legm' (E := env) ?_ | refine WG.slS' (E := env) ?_ | refine WG.slD' (E := env) ?_ | refine WG.ap' (E := env) ?_ | refine WD.nil ?_ | refine WD.bs' (E := env) ?_ | refine WD.s' (E := env) (t := .d _) ?_ | refine WD.p' ?_ | refine WD.px' ?_ | refine WD.s' (E := env) (t := .ea _ _) ?_ | refine WD.s' (E := env) (t := .lp _ _) ?_ | refine WD.s' (E := env) (t := .og _ _) ?_ | refine WD.s' (E := env) (t := .agg _) ?_ | refine WD.s' (E := env) (t := .tup _) ?_ | refine WD.s' (E := env) (t := .clo _ _) ?_ | refine WD.ixm' (E := env) ?_ | refine WD.ixo' (E := env) ?_ | refine WD.legm' (E := env) ?_ | refine WD.slS' (E := env) ?_ | refine WD.slD' (E := env) ?_ | ((first | refine WG.sp' (fun h => ?_) fun h => ?_ | refine W.cond' (fun h => ?_) fun h => ?_ | refine WD.sp' (fun h => ?_) fun h => ?_) <;> (try simp only [atS, List.length_map, beq_self_eq_true] at h) <;> (try (exfalso; first | contradiction | omega))))
        refine W.ret ?_
        exact RetQ.own (tt := .og 1 0) 1 0 (.inl rfl) rfl (by first | trivial | exact resOK_of (E := env) rfl) rfl rfl rfl rfl (by rw [hrv, List.take_length, List.length_map]; rfl)
    · obtain rfl : kids = [] := hkn (by omega)
      refine W.loopI (fun m S => S = ⟨ofL [(4, .og 1 0), (30, vI .i64 0), (31, vI .i64 0)], [.pv ((V.mk k nm t ks []).rowP.map .d), .gr 5 81 [Cell.row ⟨k, nm, t, noS, 0⟩] 0 false]⟩) 0 _ rfl (St.imp.of_le (by (refine le_ofL rfl ?_ ?_ <;> (repeat (first | exact trivial | refine ⟨⟨rfl, rfl⟩, ?_⟩ | refine ⟨rfl, .inl rfl, ?_⟩ | refine ⟨rfl, .inr rfl, ?_⟩))))) ?_
      rintro m S rfl
      repeat' (first | refine W.seq ?_ | refine W.rg ?_ | refine W.dra' ?_ | refine W.block ?_ | refine W.skip ?_ | refine W.exit ?_ | refine W.cond_true' ?_ | refine W.cond_false' ?_ | refine WG.nil ?_ | refine WG.run' (E := env) ?_ | refine WG.gt' ?_ | refine WG.gf' ?_ | refine WG.ixm' (E := env) ?_ | refine WG.ixo' (E := env) ?_ | refine WG.legm' (E := env) ?_ | refine WG.slS' (E := env) ?_ | refine WG.slD' (E := env) ?_ | refine WG.ap' (E := env) ?_ | refine WD.nil ?_ | refine WD.bs' (E := env) ?_ | refine WD.s' (E := env) (t := .d _) ?_ | refine WD.p' ?_ | refine WD.px' ?_ | refine WD.s' (E := env) (t := .ea _ _) ?_ | refine WD.s' (E := env) (t := .lp _ _) ?_ | refine WD.s' (E := env) (t := .og _ _) ?_ | refine WD.s' (E := env) (t := .agg _) ?_ | refine WD.s' (E := env) (t := .tup _) ?_ | refine WD.s' (E := env) (t := .clo _ _) ?_ | refine WD.ixm' (E := env) ?_ | refine WD.ixo' (E := env) ?_ | refine WD.legm' (E := env) ?_ | refine WD.slS' (E := env) ?_ | refine WD.slD' (E := env) ?_ | ((first | refine WG.sp' (fun h => ?_) fun h => ?_ | refine W.cond' (fun h => ?_) fun h => ?_ | refine WD.sp' (fun h => ?_) fun h => ?_) <;> (try simp only [atS, List.length_map, beq_self_eq_true] at h) <;> (try (exfalso; first | contradiction | omega))))
      refine W.ret ?_
      exact RetQ.own (tt := .og 1 0) 1 0 (.inl rfl) rfl (by first | trivial | exact resOK_of (E := env) rfl) rfl rfl rfl rfl rfl

/-! ### the cells of a right value are right -/

end Go.Proofs.Ytmmjbpgdkokjgaa
end

/- The program's way of an operation of one value: outcomes and their results; the plain operations' ways to a result. Conditions: none. -/
section
set_option linter.unusedVariables false
set_option linter.unusedSimpArgs false
set_option maxRecDepth 100000
namespace Go.Proofs.Ytmmjbpgdkokjgaa
open Go.RowKit

end Go.Proofs.Ytmmjbpgdkokjgaa
end

/- Nodes that name nodes ahead of them: the order in which they stand, how deep they are; no program in sight. Conditions: none. -/
section
set_option linter.unusedVariables false
set_option linter.unusedSimpArgs false
set_option maxRecDepth 100000
namespace Go.Proofs.Ytmmjbpgdkokjgaa
open Go.RowKit

abbrev intRow (n : Int) : List D := [dI n]

/-- The nodes that the one at a place names (those ahead of it), by what each node names. -/
def kidsOf (nm : Nat → List Int) (k : Nat) : List Nat := ((nm k).map Int.toNat).filter (· < k)

theorem kidsOf_lt {nm : Nat → List Int} {k j : Nat} (h : j ∈ kidsOf nm k) : j < k := by
  simp only [kidsOf, List.mem_filter, decide_eq_true_eq] at h
  exact h.2

def intsN (l : List Nat) : List Int := l.map fun (j : Nat) => (j : Int)

theorem kidsOf_eq {nm : Nat → List Int} {k : Nat} (h : ∀ m ∈ nm k, 0 ≤ m ∧ m < k) : nm k = intsN (kidsOf nm k) := by
  unfold kidsOf intsN
  generalize nm k = l at h
  induction l with
  | nil => rfl
  | cons m r ih =>
    have h1 := h m (List.mem_cons_self ..)
    rw [List.map_cons, List.filter_cons, if_pos (by simp; omega), List.map_cons, ← ih fun x hx => h x (List.mem_cons_of_mem _ hx)]
    congr 1
    omega

theorem kidsOf_length {nm : Nat → List Int} {k : Nat} (h : ∀ m ∈ nm k, 0 ≤ m ∧ m < k) : (kidsOf nm k).length = (nm k).length := by
  have := congrArg List.length (kidsOf_eq h)
  simpa [intsN] using this.symm

/-- The nodes of the tree of one, in their order. -/
def full (nm : Nat → List Int) (k : Nat) : List Nat := (kidsOf nm k).attach.flatMap (fun j => full nm j.1) ++ [k]
termination_by k
decreasing_by exact kidsOf_lt j.2

theorem full_eq (nm : Nat → List Int) (k : Nat) : full nm k = (kidsOf nm k).flatMap (full nm) ++ [k] := by
  rw [full]
  congr 1
  rw [List.flatMap_def, List.flatMap_def]
  exact congrArg List.flatten (List.attach_map_val (f := full nm))

theorem full_ne (nm : Nat → List Int) (k : Nat) : full nm k ≠ [] := by rw [full_eq]; simp

/-! ### numbers that go on by one -/

def cg : List Nat → Prop
  | a :: b :: r => b = a + 1 ∧ cg (b :: r)
  | _ => True

theorem cg_left : ∀ {l1 l2 : List Nat}, cg (l1 ++ l2) → cg l1
  | [], _, _ => trivial
  | [a], _, _ => trivial
  | a :: b :: r, l2, h => ⟨h.1, cg_left (l1 := b :: r) h.2⟩

theorem cg_right : ∀ {l1 l2 : List Nat}, cg (l1 ++ l2) → cg l2
  | [], _, h => h
  | [a], [], _ => trivial
  | [a], b :: r, h => h.2
  | a :: b :: r, l2, h => cg_right (l1 := b :: r) h.2

theorem cg_mid : ∀ {l1 : List Nat} {a b : Nat} {l2 : List Nat}, cg ((l1 ++ [a]) ++ (b :: l2)) → b = a + 1
  | [], a, b, l2, h => h.1
  | [x], a, b, l2, h => h.2.1
  | x :: y :: r, a, b, l2, h => cg_mid (l1 := y :: r) h.2

theorem cg_join : ∀ {l1 : List Nat} {a : Nat} {l2 : List Nat}, cg (l1 ++ [a]) → cg ((a + 1) :: l2) → cg ((l1 ++ [a]) ++ ((a + 1) :: l2))
  | [], a, l2, _, h => ⟨rfl, h⟩
  | [x], a, l2, h1, h => ⟨h1.1, rfl, h⟩
  | x :: y :: r, a, l2, h1, h => ⟨h1.1, cg_join (l1 := y :: r) h1.2 h⟩

theorem cg_range : ∀ {a : Nat} {l : List Nat}, cg (a :: l) → a :: l = List.range' a (l.length + 1)
  | a, [], _ => by simp
  | a, b :: r, h => by
    obtain ⟨rfl, h2⟩ := h
    have := cg_range h2
    rw [List.length_cons, List.range'_succ, ← this]

theorem range_cg : ∀ (n a : Nat), cg (List.range' a n)
  | 0, a => trivial
  | 1, a => trivial
  | n + 2, a => by
    rw [List.range'_succ, List.range'_succ]
    exact ⟨rfl, by rw [← List.range'_succ]; exact range_cg (n + 1) (a + 1)⟩

open Classical in
/-- Where the tree of one begins; -1: its nodes do not stand in order. -/
noncomputable def begM (nm : Nat → List Int) (k : Nat) : Int := if cg (full nm k) then (((full nm k).headD 0 : Nat) : Int) else -1

theorem begM_neg {nm : Nat → List Int} {k : Nat} (h : ¬ cg (full nm k)) : begM nm k = -1 := by rw [begM, if_neg h]
theorem begM_pos {nm : Nat → List Int} {k b : Nat} {r : List Nat} (h : cg (full nm k)) (hb : full nm k = b :: r) : begM nm k = b := by rw [begM, if_pos h, hb]; rfl

theorem full_le (nm : Nat → List Int) : ∀ k, ∀ j ∈ full nm k, j ≤ k := fun k => by
  induction k using Nat.strongRecOn with
  | _ k ih =>
    intro i hi
    rw [full_eq, List.mem_append, List.mem_flatMap, List.mem_singleton] at hi
    rcases hi with ⟨j, hj, hi⟩ | rfl
    · have h1 := ih j (kidsOf_lt hj) i hi
      have := kidsOf_lt hj
      omega
    · exact Nat.le_refl _

theorem begM_le (nm : Nat → List Int) (k : Nat) : -1 ≤ begM nm k ∧ begM nm k ≤ k := by
  by_cases hc : cg (full nm k)
  · cases hf : full nm k with
    | nil => exact absurd hf (full_ne _ _)
    | cons c r =>
      have h1 := full_le nm k c (by rw [hf]; exact List.mem_cons_self ..)
      rw [begM_pos hc hf]
      omega
  · rw [begM_neg hc]; omega

/-- Backward over the nodes that one names: what is left, what has been seen. -/
def Seen (nm : Nat → List Int) (k : Nat) (us : List Nat) (b : Nat) : Prop := ∃ r, full nm k = us.flatMap (full nm) ++ (b :: r) ∧ cg (b :: r)

theorem Seen.start (nm : Nat → List Int) (k : Nat) : Seen nm k (kidsOf nm k) k := ⟨[], full_eq nm k, trivial⟩

theorem full_last (nm : Nat → List Int) (k : Nat) : ∃ l, full nm k = l ++ [k] := ⟨_, full_eq nm k⟩

theorem Seen.bad {nm : Nat → List Int} {k own b : Nat} {us : List Nat} (h : Seen nm k (us ++ [own]) b) (hn : own + 1 ≠ b) : begM nm k = -1 := by
  obtain ⟨r, h1, h2⟩ := h
  refine begM_neg fun hc => hn ?_
  obtain ⟨l, hl⟩ := full_last nm own
  rw [h1, List.flatMap_append, List.flatMap_singleton, hl, List.append_assoc] at hc
  exact (cg_mid (cg_right hc)).symm

theorem Seen.below {nm : Nat → List Int} {k own b : Nat} {us : List Nat} (h : Seen nm k (us ++ [own]) b) (hn : begM nm own < 0) : begM nm k = -1 := by
  obtain ⟨r, h1, h2⟩ := h
  refine begM_neg fun hc => ?_
  rw [h1, List.flatMap_append, List.flatMap_singleton, List.append_assoc] at hc
  have := cg_left (cg_right hc)
  rw [begM, if_pos this] at hn
  omega

theorem Seen.next {nm : Nat → List Int} {k own b : Nat} {us : List Nat} (h : Seen nm k (us ++ [own]) b) (hb : own + 1 = b) (hn : 0 ≤ begM nm own) : ∃ c : Nat, begM nm own = c ∧ Seen nm k us c := by
  obtain ⟨r, h1, h2⟩ := h
  by_cases hc : cg (full nm own)
  · cases hf : full nm own with
    | nil => exact absurd hf (full_ne _ _)
    | cons c r' =>
      refine ⟨c, begM_pos hc hf, r' ++ (b :: r), ?_, ?_⟩
      · rw [h1, List.flatMap_append, List.flatMap_singleton, hf, List.append_assoc]; rfl
      · obtain ⟨l, hl⟩ := full_last nm own
        subst hb
        have := cg_join (hl ▸ hc) h2
        rw [← hl, hf] at this
        exact this
  · rw [begM_neg hc] at hn; omega

theorem Seen.done {nm : Nat → List Int} {k b : Nat} (h : Seen nm k [] b) : begM nm k = b := by
  obtain ⟨r, h1, h2⟩ := h
  exact begM_pos (by rw [h1]; exact h2) h1

theorem begM_zero {nm : Nat → List Int} {k : Nat} : begM nm k = 0 ↔ full nm k = List.range (k + 1) := by
  constructor
  · intro h
    by_cases hc : cg (full nm k)
    · obtain ⟨l, hl⟩ := full_last nm k
      cases hf : full nm k with
      | nil => exact absurd hf (full_ne _ _)
      | cons c r =>
        rw [begM_pos hc hf] at h
        have hc0 : c = 0 := by omega
        subst hc0
        have hr := cg_range (hf ▸ hc)
        have hlast : (full nm k).getLast (full_ne _ _) = k := by simp [hl]
        have : (0 :: r).getLast (by simp) = k := by
          rw [← hlast]; congr 1; exact hf.symm
        simp only [hr] at this
        rw [List.getLast_range'] at this
        have hlen : r.length = k := by simpa using this
        rw [hr, hlen, List.range_eq_range']
    · rw [begM_neg hc] at h; omega
  · intro h
    rw [begM, if_pos (by rw [h, List.range_eq_range']; exact range_cg _ _), h, List.range_eq_range', List.range'_succ]
    rfl

theorem foldl_attach {α β : Type} (f : β → α → β) : ∀ (l : List α) (b : β), l.attach.foldl (fun o j => f o j.1) b = l.foldl f b := fun l b => by
  have := List.foldl_map (f := fun (j : {x // x ∈ l}) => j.1) (g := f) (l := l.attach) (init := b)
  rw [← this, List.attach_map_subtype_val]

theorem snoc_range {pre : List Nat} {x m : Nat} (h : pre ++ [x] = List.range m) : ∃ q, m = q + 1 ∧ pre = List.range q ∧ x = q := by
  cases m with
  | zero => simp at h
  | succ q =>
    rw [List.range_succ] at h
    have := List.append_inj' h rfl
    exact ⟨q, rfl, this.1, by simpa using this.2⟩

/-! ### the order with a bound -/

def ordM (nm : Nat → List Int) (n : Nat) (k : Nat) (out : List Nat) : List Nat := (kidsOf nm k).attach.foldl (fun o j => if o.length ≤ n then ordM nm n j.1 o else o) out ++ [k]
termination_by k
decreasing_by exact kidsOf_lt j.2

def ordL (nm : Nat → List Int) (n : Nat) (l : List Nat) (out : List Nat) : List Nat := l.foldl (fun o j => if o.length ≤ n then ordM nm n j o else o) out

theorem ordM_eq (nm : Nat → List Int) (n k : Nat) (out : List Nat) : ordM nm n k out = ordL nm n (kidsOf nm k) out ++ [k] := by
  rw [ordM, ordL]
  exact congrArg (· ++ [k]) (foldl_attach (fun o j => if o.length ≤ n then ordM nm n j o else o) (kidsOf nm k) out)

theorem ordL_over {nm : Nat → List Int} {n : Nat} : ∀ {l : List Nat} {out : List Nat}, n < out.length → ordL nm n l out = out
  | [], out, h => rfl
  | j :: l, out, h => by
    have := ordL_over (nm := nm) (l := l) h
    unfold ordL at this ⊢
    rw [List.foldl_cons, if_neg (by omega)]
    exact this

theorem ordL_cons {nm : Nat → List Int} {n j : Nat} {l out : List Nat} (h : out.length ≤ n) : ordL nm n (j :: l) out = ordL nm n l (ordM nm n j out) := by
  unfold ordL; rw [List.foldl_cons, if_pos h]

def OrdP (nm : Nat → List Int) (n k : Nat) : Prop := ∀ out : List Nat, (out.length + (full nm k).length ≤ n + 1 → ordM nm n k out = out ++ full nm k) ∧ (ordM nm n k out = out ++ full nm k ∨ n < (ordM nm n k out).length) ∧
  out.length < (ordM nm n k out).length ∧ (ordM nm n k out).length ≤ max out.length n + k + 1

theorem ordL_p {nm : Nat → List Int} {n k : Nat} : ∀ (l : List Nat), (∀ j ∈ l, j < k ∧ OrdP nm n j) → ∀ out : List Nat, (out.length + (l.flatMap (full nm)).length ≤ n → ordL nm n l out = out ++ l.flatMap (full nm)) ∧
    (ordL nm n l out = out ++ l.flatMap (full nm) ∨ n < (ordL nm n l out).length) ∧ out.length ≤ (ordL nm n l out).length ∧ (ordL nm n l out).length ≤ max out.length (n + k)
  | [], _, out => by
    have e : ordL nm n [] out = out := rfl
    rw [e]
    simp
    omega
  | j :: l, hl, out => by
    have ih := ordL_p l (fun i hi => hl i (List.mem_cons_of_mem _ hi))
    obtain ⟨hjk, hj⟩ := hl j (List.mem_cons_self ..)
    by_cases ho : out.length ≤ n
    · rw [ordL_cons ho]
      obtain ⟨a1, a2, a3, a4⟩ := hj out
      obtain ⟨b1, b2, b3, b4⟩ := ih (ordM nm n j out)
      rw [List.flatMap_cons, ← List.append_assoc]
      refine ⟨fun h => ?_, ?_, by omega, by omega⟩
      · simp only [List.length_append] at h
        have e := a1 (by omega)
        rw [e] at b1 ⊢
        exact b1 (by simp only [List.length_append]; omega)
      · rcases a2 with e | h
        · rw [e] at b2 ⊢
          exact b2
        · exact .inr (by omega)
    · rw [ordL_over (by omega)]
      refine ⟨fun h => by omega, .inr (by omega), by omega, by omega⟩

theorem ordM_p (nm : Nat → List Int) (n : Nat) : ∀ k, OrdP nm n k := fun k => by
  induction k using Nat.strongRecOn with
  | _ k ih =>
    intro out
    obtain ⟨b1, b2, b3, b4⟩ := ordL_p (n := n) (k := k) (kidsOf nm k) (fun j hj => ⟨kidsOf_lt hj, ih j (kidsOf_lt hj)⟩) out
    rw [ordM_eq, full_eq, ← List.append_assoc]
    simp only [List.length_append, List.length_singleton]
    refine ⟨fun h => by rw [b1 (by omega)], ?_, by omega, by omega⟩
    rcases b2 with e | h
    · exact .inl (by rw [e])
    · exact .inr (by omega)

theorem ordM_range {nm : Nat → List Int} {k : Nat} : ordM nm (k + 1) k [] = List.range (k + 1) ↔ full nm k = List.range (k + 1) := by
  obtain ⟨a1, a2, _, _⟩ := ordM_p nm (k + 1) k []
  constructor
  · intro h
    rcases a2 with e | hl
    · rw [← h, e]; rfl
    · rw [h] at hl; simp at hl
  · intro h
    rw [a1 (by rw [h]; simp), h]; rfl

/-! ### how deep -/

def nestM (nm : Nat → List Int) (k : Nat) : Nat := (kidsOf nm k).attach.foldl (fun m j => max m (nestM nm j.1)) 0 + 1
termination_by k
decreasing_by exact kidsOf_lt j.2

def maxL (f : Nat → Nat) (l : List Nat) : Nat := l.foldl (fun m j => max m (f j)) 0

theorem nestM_eq (nm : Nat → List Int) (k : Nat) : nestM nm k = maxL (nestM nm) (kidsOf nm k) + 1 := by
  rw [nestM, maxL]
  exact congrArg (· + 1) (foldl_attach (fun m j => max m (nestM nm j)) (kidsOf nm k) 0)

theorem maxL_snoc (f : Nat → Nat) (l : List Nat) (j : Nat) : maxL f (l ++ [j]) = max (maxL f l) (f j) := by simp [maxL]

theorem maxL_from (f : Nat → Nat) : ∀ (l : List Nat) (m : Nat), m ≤ l.foldl (fun m j => max m (f j)) m ∧ ∀ j ∈ l, f j ≤ l.foldl (fun m j => max m (f j)) m
  | [], m => ⟨Nat.le_refl _, fun j h => by cases h⟩
  | x :: l, m => by
    obtain ⟨h1, h2⟩ := maxL_from f l (max m (f x))
    rw [List.foldl_cons]
    refine ⟨by omega, fun j hj => ?_⟩
    rcases List.mem_cons.1 hj with rfl | hj
    · omega
    · exact h2 j hj

theorem maxL_mem {f : Nat → Nat} {l : List Nat} {j : Nat} (h : j ∈ l) : f j ≤ maxL f l := (maxL_from f l 0).2 j h

theorem maxL_le {f : Nat → Nat} {b : Nat} : ∀ {l : List Nat} {m : Nat}, m ≤ b → (∀ j ∈ l, f j ≤ b) → l.foldl (fun m j => max m (f j)) m ≤ b
  | [], m, hm, _ => hm
  | x :: l, m, hm, h => by
    rw [List.foldl_cons]
    exact maxL_le (by have := h x (List.mem_cons_self ..); omega) fun j hj => h j (List.mem_cons_of_mem _ hj)

theorem nestM_full (nm : Nat → List Int) : ∀ k, ∀ i ∈ full nm k, nestM nm i ≤ nestM nm k := fun k => by
  induction k using Nat.strongRecOn with
  | _ k ih =>
    intro i hi
    rw [full_eq, List.mem_append, List.mem_flatMap, List.mem_singleton] at hi
    rcases hi with ⟨j, hj, hi⟩ | rfl
    · have h1 := ih j (kidsOf_lt hj) i hi
      have h2 := maxL_mem (f := nestM nm) hj
      rw [nestM_eq nm k]
      omega
    · exact Nat.le_refl _

theorem nestM_le (nm : Nat → List Int) : ∀ k, nestM nm k ≤ k + 1 := fun k => by
  induction k using Nat.strongRecOn with
  | _ k ih =>
    rw [nestM_eq]
    have : maxL (nestM nm) (kidsOf nm k) ≤ k := maxL_le (by omega) fun j hj => by have := ih j (kidsOf_lt hj); have := kidsOf_lt hj; omega
    omega

theorem nest_most {nm : Nat → List Int} {k : Nat} (h : full nm k = List.range (k + 1)) : maxL (nestM nm) (List.range (k + 1)) = nestM nm k := by
  apply Nat.le_antisymm
  · refine maxL_le (by omega) fun j hj => nestM_full nm k j (by rw [h]; exact hj)
  · exact maxL_mem (by simp)

end Go.Proofs.Ytmmjbpgdkokjgaa
end

/- What the laws' marks and holds do to slices of integers and to their results; two arguments' sizes. Conditions: none. -/
section
set_option linter.unusedVariables false
set_option linter.unusedSimpArgs false
set_option maxRecDepth 100000
namespace Go.Proofs.Ytmmjbpgdkokjgaa
open Go.RowKit

end Go.Proofs.Ytmmjbpgdkokjgaa
end

/- DepthOf and EndAt: the program's and the reference's; the laws. Conditions: none beyond the laws' own. -/
section
set_option linter.unusedVariables false
set_option linter.unusedSimpArgs false
set_option maxRecDepth 100000
namespace Go.Proofs.Ytmmjbpgdkokjgaa
open Go.RowKit

/-! ### EndAt -/

end Go.Proofs.Ytmmjbpgdkokjgaa
end

/- The law of PartAt. Conditions: none. -/
section
set_option linter.unusedVariables false
set_option linter.unusedSimpArgs false
set_option maxRecDepth 100000
namespace Go.Proofs.Ytmmjbpgdkokjgaa
open Go.RowKit

section
variable {E : Env} {N : Nm} {Q : Exit → St → Prop} {S : St} {ops l : List Oper} {ty : TypeId} {pos : String} {after : Array Edge} {gd : Option (Nat × Bool)} {d : Nat}

variable {tm : Nat → T} {ob : List Ob} {G : List Nat}
end

end Go.Proofs.Ytmmjbpgdkokjgaa
end

/- The parts of a value and their keys: the program's ChildrenAt, the reference's children, parts and keys. Conditions: none. -/
section
set_option linter.unusedVariables false
set_option linter.unusedSimpArgs false
set_option maxRecDepth 100000
namespace Go.Proofs.Ytmmjbpgdkokjgaa
open Go.RowKit

end Go.Proofs.Ytmmjbpgdkokjgaa
end

/- The program's way of comparing values. Conditions: values of at most 2^20 cells. -/
section
set_option linter.unusedVariables false
set_option linter.unusedSimpArgs false
set_option maxRecDepth 100000
namespace Go.Proofs.Ytmmjbpgdkokjgaa
open Go.RowKit

end Go.Proofs.Ytmmjbpgdkokjgaa
end

/- The reference's way of comparing values: parts, keys, comparison; what both ways give. Conditions: none. -/
section
set_option linter.unusedVariables false
set_option linter.unusedSimpArgs false
set_option maxRecDepth 100000
namespace Go.Proofs.Ytmmjbpgdkokjgaa
open Go.RowKit

/-- A value that cells may be. -/
def V.fine (v : V) : Prop := v.good ∧ v.count ≤ 200 ∧ v.depth ≤ 20

end Go.Proofs.Ytmmjbpgdkokjgaa
end

/- Operations of one value that have captured something; a part of a value by its number. Conditions: none. -/
section
set_option linter.unusedVariables false
set_option linter.unusedSimpArgs false
set_option maxRecDepth 100000
namespace Go.Proofs.Ytmmjbpgdkokjgaa
open Go.RowKit

theorem nullP_fn : Fun env.P 81 [] (.d (.agg V.zero.rowP)) [] := by
  refine Fun.intro Try.func81 rfl (by kernel_rfl) rfl ?_
  repeat' (first | refine W.seq ?_ | refine W.rg ?_ | refine W.dra' ?_ | refine W.block ?_ | refine W.skip ?_ | refine W.exit ?_ | refine W.cond_true' ?_ | refine W.cond_false' ?_ | refine WG.nil ?_ | refine WG.run' (E := env) ?_ | refine WG.gt' ?_ | refine WG.gf' ?_ | refine WG.ixm' (E := env) ?_ | refine WG.ixo' (E := env) ?_ | refine WG.legm' (E := env) ?_ | refine WG.slS' (E := env) ?_ | refine WG.slD' (E := env) ?_ | refine WG.ap' (E := env) ?_ | refine WD.nil ?_ | refine WD.bs' (E := env) ?_ | refine WD.s' (E := env) (t := .d _) ?_ | refine WD.p' ?_ | refine WD.px' ?_ | refine WD.s' (E := env) (t := .ea _ _) ?_ | refine WD.s' (E := env) (t := .lp _ _) ?_ | refine WD.s' (E := env) (t := .og _ _) ?_ | refine WD.s' (E := env) (t := .agg _) ?_ | refine WD.s' (E := env) (t := .tup _) ?_ | refine WD.s' (E := env) (t := .clo _ _) ?_ | refine WD.ixm' (E := env) ?_ | refine WD.ixo' (E := env) ?_ | refine WD.legm' (E := env) ?_ | refine WD.slS' (E := env) ?_ | refine WD.slD' (E := env) ?_ | ((first | refine WG.sp' (fun h => ?_) fun h => ?_ | refine W.cond' (fun h => ?_) fun h => ?_ | refine WD.sp' (fun h => ?_) fun h => ?_) <;> (try simp only [atS, List.length_map, beq_self_eq_true] at h) <;> (try (exfalso; first | contradiction | omega))))
  (refine W.ret ?_; (first | refine RetQ.b' ?_ | refine RetQ.i' ?_ | refine RetQ.d' ?_ | refine RetQ.t2' ?_ ?_ | refine RetQ.t3' ?_ ?_ ?_))
  rfl

theorem l3Null_fn : Fun env.P 67 [] (.d (cellsD V.zero.cells)) [] := by
  refine Fun.intro Try.func67 rfl (by kernel_rfl) rfl ?_
  repeat' (first | refine W.seq ?_ | refine W.rg ?_ | refine W.dra' ?_ | refine W.block ?_ | refine W.skip ?_ | refine W.exit ?_ | refine W.cond_true' ?_ | refine W.cond_false' ?_ | refine WG.nil ?_ | refine WG.run' (E := env) ?_ | refine WG.gt' ?_ | refine WG.gf' ?_ | refine WG.ixm' (E := env) ?_ | refine WG.ixo' (E := env) ?_ | refine WG.legm' (E := env) ?_ | refine WG.slS' (E := env) ?_ | refine WG.slD' (E := env) ?_ | refine WG.ap' (E := env) ?_ | refine WD.nil ?_ | refine WD.bs' (E := env) ?_ | refine WD.s' (E := env) (t := .d _) ?_ | refine WD.p' ?_ | refine WD.px' ?_ | refine WD.s' (E := env) (t := .ea _ _) ?_ | refine WD.s' (E := env) (t := .lp _ _) ?_ | refine WD.s' (E := env) (t := .og _ _) ?_ | refine WD.s' (E := env) (t := .agg _) ?_ | refine WD.s' (E := env) (t := .tup _) ?_ | refine WD.s' (E := env) (t := .clo _ _) ?_ | refine WD.ixm' (E := env) ?_ | refine WD.ixo' (E := env) ?_ | refine WD.legm' (E := env) ?_ | refine WD.slS' (E := env) ?_ | refine WD.slD' (E := env) ?_ | ((first | refine WG.sp' (fun h => ?_) fun h => ?_ | refine W.cond' (fun h => ?_) fun h => ?_ | refine WD.sp' (fun h => ?_) fun h => ?_) <;> (try simp only [atS, List.length_map, beq_self_eq_true] at h) <;> (try (exfalso; first | contradiction | omega))))
  (refine W.ret ?_; first | refine RetR.agp' ?_ ?_ | refine RetR.gp' ?_ | (first | refine RetQ.b' ?_ | refine RetQ.i' ?_ | refine RetQ.d' ?_ | refine RetQ.t2' ?_ ?_ | refine RetQ.t3' ?_ ?_ ?_))
  rfl

end Go.Proofs.Ytmmjbpgdkokjgaa
end

/- The law of RangeOf. Conditions: none. -/
section
set_option linter.unusedVariables false
set_option linter.unusedSimpArgs false
set_option maxRecDepth 100000
namespace Go.Proofs.Ytmmjbpgdkokjgaa
open Go.RowKit

theorem arrayP_fn (kids : List V) : Fun env.P 80 [.sl 5 (kids.map V.row)] (.d (.agg (V.mk 5 0 noS [] kids).rowP)) [] := by
  refine Fun.intro Try.func80 rfl (by kernel_rfl) rfl ?_
  repeat' (first | refine W.seq ?_ | refine W.rg ?_ | refine W.dra' ?_ | refine W.block ?_ | refine W.skip ?_ | refine W.exit ?_ | refine W.cond_true' ?_ | refine W.cond_false' ?_ | refine WG.nil ?_ | refine WG.run' (E := env) ?_ | refine WG.gt' ?_ | refine WG.gf' ?_ | refine WG.ixm' (E := env) ?_ | refine WG.ixo' (E := env) ?_ | refine WG.legm' (E := env) ?_ | refine WG.slS' (E := env) ?_ | refine WG.slD' (E := env) ?_ | refine WG.ap' (E := env) ?_ | refine WD.nil ?_ | refine WD.bs' (E := env) ?_ | refine WD.s' (E := env) (t := .d _) ?_ | refine WD.p' ?_ | refine WD.px' ?_ | refine WD.s' (E := env) (t := .ea _ _) ?_ | refine WD.s' (E := env) (t := .lp _ _) ?_ | refine WD.s' (E := env) (t := .og _ _) ?_ | refine WD.s' (E := env) (t := .agg _) ?_ | refine WD.s' (E := env) (t := .tup _) ?_ | refine WD.s' (E := env) (t := .clo _ _) ?_ | refine WD.ixm' (E := env) ?_ | refine WD.ixo' (E := env) ?_ | refine WD.legm' (E := env) ?_ | refine WD.slS' (E := env) ?_ | refine WD.slD' (E := env) ?_ | ((first | refine WG.sp' (fun h => ?_) fun h => ?_ | refine W.cond' (fun h => ?_) fun h => ?_ | refine WD.sp' (fun h => ?_) fun h => ?_) <;> (try simp only [atS, List.length_map, beq_self_eq_true] at h) <;> (try (exfalso; first | contradiction | omega))))
  (refine W.ret ?_; (first | refine RetQ.b' ?_ | refine RetQ.i' ?_ | refine RetQ.d' ?_ | refine RetQ.t2' ?_ ?_ | refine RetQ.t3' ?_ ?_ ?_))
  rfl

end Go.Proofs.Ytmmjbpgdkokjgaa
end

/- Arrays that are made of values; values told with their fault; all values in a value; keys as values. Conditions: none. -/
section
set_option linter.unusedVariables false
set_option linter.unusedSimpArgs false
set_option maxRecDepth 100000
namespace Go.Proofs.Ytmmjbpgdkokjgaa
open Go.RowKit

end Go.Proofs.Ytmmjbpgdkokjgaa
end

/- An array out of values, by the program and by the reference. Conditions: cells of at most 2^20 bytes. -/
section
set_option linter.unusedVariables false
set_option linter.unusedSimpArgs false
set_option maxRecDepth 100000
namespace Go.Proofs.Ytmmjbpgdkokjgaa
open Go.RowKit

end Go.Proofs.Ytmmjbpgdkokjgaa
end
