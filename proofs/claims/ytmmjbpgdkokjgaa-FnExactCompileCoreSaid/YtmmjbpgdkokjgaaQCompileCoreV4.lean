/-
  What the program's functions on whole values return: depth, fault. Conditions: at most 2^20 cells, texts of at most 2^20 bytes.
-/
import Derived.Test.YtmmjbpgdkokjgaaQCompileCoreV3
set_option linter.unusedVariables false
set_option linter.unusedSimpArgs false
set_option maxRecDepth 100000
namespace Go.Proofs.Ytmmjbpgdkokjgaa
open Go.RowKit

mutual
def V.depth : V → Int
  | .mk _ _ _ _ kids => V.depths kids + 1
def V.depths : List V → Int
  | [] => 0
  | v :: r => max (V.depth v) (V.depths r)
end

mutual
def V.count : V → Nat
  | .mk _ _ _ _ kids => V.counts kids + 1
def V.counts : List V → Nat
  | [] => 0
  | v :: r => V.count v + V.counts r
end

mutual
theorem V.depth_le : ∀ v : V, 1 ≤ v.depth ∧ v.depth ≤ v.count
  | .mk _ _ _ _ kids => by
    have := V.depths_le kids
    simp only [V.depth, V.count]
    omega
theorem V.depths_le : ∀ l : List V, 0 ≤ V.depths l ∧ V.depths l ≤ V.counts l
  | [] => by simp [V.depths, V.counts]
  | v :: r => by
    have := V.depth_le v
    have := V.depths_le r
    simp only [V.depths, V.counts]
    omega
end

theorem V.depths_app (v : V) : ∀ l : List V, V.depths (l ++ [v]) = max (V.depths l) v.depth
  | [] => by have := V.depth_le v; simp [V.depths]; omega
  | x :: r => by
    rw [List.cons_append]
    simp only [V.depths]
    rw [V.depths_app v r]
    omega

theorem V.counts_ge {l : List V} : ∀ v ∈ l, v.count ≤ V.counts l := by
  induction l with
  | nil => intro v h; cases h
  | cons x r ih =>
    intro v h
    simp only [V.counts]
    rcases List.mem_cons.1 h with rfl | h
    · omega
    · have := ih v h; omega

theorem V.rows_map : ∀ l : List V, V.rows l = l.map V.row
  | [] => rfl
  | x :: r => by simp [V.rows, V.rows_map r]

theorem V.length_counts : ∀ l : List V, l.length ≤ V.counts l
  | [] => Nat.le_refl _
  | x :: r => by
    have := V.length_counts r
    have := V.depth_le x
    simp only [V.counts, List.length_cons]
    omega

def V.kind : V → Int | .mk k _ _ _ _ => k
def V.num : V → Int | .mk _ n _ _ _ => n
def V.text : V → ByteArray | .mk _ _ t _ _ => t
def V.keys : V → List ByteArray | .mk _ _ _ ks _ => ks
def V.kids : V → List V | .mk _ _ _ _ kids => kids

/-- The row of a value by its parts. -/
def V.rowP (v : V) : List D := [dI v.kind, dI v.num, dS v.text, .sl 1 (v.keys.map keyRow), .sl 5 (v.kids.map V.row)]

theorem V.row_eq : ∀ v : V, v.row = v.rowP
  | .mk k n t ks kids => by simp only [V.row, V.rows_map]; rfl

set_option maxHeartbeats 1000000 in
theorem depthP_fn : ∀ (n : Nat) (v : V), v.count ≤ n → n ≤ 1048576 → Fun env.P 91 [.agg v.rowP] (.d (dI v.depth)) []
  | 0, v, h, _ => by
    have := V.depth_le v
    omega
  | n + 1, v, h, hn => by
    have ih := depthP_fn n
    obtain ⟨k, nm, t, ks, kids⟩ := v
    simp only [V.count] at h
    have hlc := V.length_counts kids
    have hdep : ∀ j, j < kids.length → (kids.getD j default).count ≤ n := fun j hj => by
      have := V.counts_ge (kids.getD j default) (getD_mem' hj)
      omega
    have hmax : ∀ j, V.depths (kids.take j) ≤ V.counts kids := fun j => by
      have h1 := V.depths_le (kids.take j)
      have h2 : V.counts (kids.take j) ≤ V.counts kids := by
        have : ∀ (l : List V) (j : Nat), V.counts (l.take j) ≤ V.counts l := by
          intro l
          induction l with
          | nil => intro j; simp
          | cons x r ih => intro j; cases j <;> simp [V.counts, List.take]; have := ih ‹_›; omega
        exact this kids j
      omega
    refine Fun.intro Try.func91 rfl (by kernel_rfl) rfl ?_
    repeat' (first | refine W.seq ?_ | refine W.rg ?_ | refine W.dra' ?_ | refine W.block ?_ | refine W.skip ?_ | refine W.exit ?_ | refine W.cond_true' ?_ | refine W.cond_false' ?_ | refine WG.nil ?_ | refine WG.run' (E := env) ?_ | refine WG.gt' ?_ | refine WG.gf' ?_ | refine WG.ixm' (E := env) ?_ | refine WG.ixo' (E := env) ?_ | refine WG.legm' (E := env) ?_ | refine WG.slS' (E := env) ?_ | refine WG.slD' (E := env) ?_ | refine WG.ap' (E := env) ?_ | refine WD.nil ?_ | refine WD.bs' (E := env) ?_ | refine WD.s' (E := env) (t := .d _) ?_ | refine WD.p' ?_ | refine WD.px' ?_ | refine WD.s' (E := env) (t := .ea _ _) ?_ | refine WD.s' (E := env) (t := .lp _ _) ?_ | refine WD.s' (E := env) (t := .og _ _) ?_ | refine WD.s' (E := env) (t := .agg _) ?_ | refine WD.s' (E := env) (t := .tup _) ?_ | refine WD.s' (E := env) (t := .clo _ _) ?_ | refine WD.ixm' (E := env) ?_ | refine WD.ixo' (E := env) ?_ | refine WD.legm' (E := env) ?_ | refine WD.slS' (E := env) ?_ | refine WD.slD' (E := env) ?_ | ((first | refine WG.sp' (fun h => ?_) fun h => ?_ | refine W.cond' (fun h => ?_) fun h => ?_ | refine WD.sp' (fun h => ?_) fun h => ?_) <;> (try simp only [atS, List.length_map, beq_self_eq_true] at h) <;> (try (exfalso; first | contradiction | omega))))
    refine W.loop (fun m S => ∃ (i : Nat), m = kids.length - i ∧ i ≤ kids.length ∧ S = ⟨ofL [(3, vI .i64 (V.depths (kids.take i))), (7, .d (.sl 5 (kids.map V.row))), (8, vI .i64 (kids.map V.row).length), (9, vI .i64 i)], []⟩) _ _ ⟨0, rfl, by omega, rfl⟩ (by (refine le_ofL rfl ?_ ?_ <;> (repeat (first | exact trivial | refine ⟨⟨rfl, rfl⟩, ?_⟩ | refine ⟨rfl, .inl rfl, ?_⟩ | refine ⟨rfl, .inr rfl, ?_⟩)))) ?_
    rintro m S ⟨i, rfl, hi, rfl⟩
    have hm1 := hmax i
    have hm2 := (V.depths_le (kids.take i)).1
    repeat' (first | refine WG.ixm (E := env) (f' := V.rowP) rfl rfl rfl rfl rfl rfl rfl (fun x => V.row_eq x) (by (first | exact trivial | (simp only [inRange, List.length_map]; omega) | omega | assumption)) ?_ | refine W.seq ?_ | refine W.rg ?_ | refine W.dra' ?_ | refine W.block ?_ | refine W.skip ?_ | refine W.exit ?_ | refine W.cond_true' ?_ | refine W.cond_false' ?_ | refine WG.nil ?_ | refine WG.run' (E := env) ?_ | refine WG.gt' ?_ | refine WG.gf' ?_ | refine WG.ixm' (E := env) ?_ | refine WG.ixo' (E := env) ?_ | refine WG.legm' (E := env) ?_ | refine WG.slS' (E := env) ?_ | refine WG.slD' (E := env) ?_ | refine WG.ap' (E := env) ?_ | refine WD.nil ?_ | refine WD.bs' (E := env) ?_ | refine WD.s' (E := env) (t := .d _) ?_ | refine WD.p' ?_ | refine WD.px' ?_ | refine WD.s' (E := env) (t := .ea _ _) ?_ | refine WD.s' (E := env) (t := .lp _ _) ?_ | refine WD.s' (E := env) (t := .og _ _) ?_ | refine WD.s' (E := env) (t := .agg _) ?_ | refine WD.s' (E := env) (t := .tup _) ?_ | refine WD.s' (E := env) (t := .clo _ _) ?_ | refine WD.ixm' (E := env) ?_ | refine WD.ixo' (E := env) ?_ | refine WD.legm' (E := env) ?_ | refine WD.slS' (E := env) ?_ | refine WD.slD' (E := env) ?_ | refine WG.c (E := env) rfl rfl (ih _ (hdep _ (by omega)) (by omega)) rfl rfl ?_ | refine WD.c (E := env) rfl rfl (ih _ (hdep _ (by omega)) (by omega)) rfl rfl ?_ | refine WG.co (E := env) rfl rfl (ih _ (hdep _ (by omega)) (by omega)) rfl rfl rfl rfl ?_ | refine WG.cx (E := env) rfl (ih _ (hdep _ (by omega)) (by omega)) rfl ?_ | ((first | refine WG.sp' (fun h => ?_) fun h => ?_ | refine W.cond' (fun h => ?_) fun h => ?_ | refine WD.sp' (fun h => ?_) fun h => ?_) <;> (try simp only [atS, List.length_map, beq_self_eq_true] at h) <;> (try (exfalso; first | contradiction | omega))))
    · (try simp only [Int.toNat_natCast, Int.toNat_zero, toNat_cc, toNat_c1, toNat_cm1, toNat_cm] at *)
      exact ⟨_, _, by omega, ⟨i + 1, rfl, by omega, by rw [take_step (by omega), V.depths_app]⟩, (by (refine le_ofL rfl ?_ ?_ <;> (repeat (first | exact trivial | refine ⟨⟨rfl, rfl⟩, ?_⟩ | refine ⟨rfl, .inl rfl, ?_⟩ | refine ⟨rfl, .inr rfl, ?_⟩))))⟩
    · (refine W.ret ?_; (first | refine RetQ.b' ?_ | refine RetQ.i' ?_ | refine RetQ.d' ?_ | refine RetQ.t2' ?_ ?_ | refine RetQ.t3' ?_ ?_ ?_))
      rw [show i = kids.length by omega, List.take_length]
      rfl

theorem size_fn (cs : List Cell) : Fun env.P 88 [cellsD cs] (.d (dI (cs.map Cell.row).length)) [] := by
  refine Fun.intro Try.func88 rfl (by kernel_rfl) rfl ?_
  repeat' (first | refine W.seq ?_ | refine W.rg ?_ | refine W.dra' ?_ | refine W.block ?_ | refine W.skip ?_ | refine W.exit ?_ | refine W.cond_true' ?_ | refine W.cond_false' ?_ | refine WG.nil ?_ | refine WG.run' (E := env) ?_ | refine WG.gt' ?_ | refine WG.gf' ?_ | refine WG.ixm' (E := env) ?_ | refine WG.ixo' (E := env) ?_ | refine WG.legm' (E := env) ?_ | refine WG.slS' (E := env) ?_ | refine WG.slD' (E := env) ?_ | refine WG.ap' (E := env) ?_ | refine WD.nil ?_ | refine WD.bs' (E := env) ?_ | refine WD.s' (E := env) (t := .d _) ?_ | refine WD.p' ?_ | refine WD.px' ?_ | refine WD.s' (E := env) (t := .ea _ _) ?_ | refine WD.s' (E := env) (t := .lp _ _) ?_ | refine WD.s' (E := env) (t := .og _ _) ?_ | refine WD.s' (E := env) (t := .agg _) ?_ | refine WD.s' (E := env) (t := .tup _) ?_ | refine WD.s' (E := env) (t := .clo _ _) ?_ | refine WD.ixm' (E := env) ?_ | refine WD.ixo' (E := env) ?_ | refine WD.legm' (E := env) ?_ | refine WD.slS' (E := env) ?_ | refine WD.slD' (E := env) ?_ | ((first | refine WG.sp' (fun h => ?_) fun h => ?_ | refine W.cond' (fun h => ?_) fun h => ?_ | refine WD.sp' (fun h => ?_) fun h => ?_) <;> (try simp only [atS, List.length_map, beq_self_eq_true] at h) <;> (try (exfalso; first | contradiction | omega))))
  (refine W.ret ?_; (first | refine RetQ.b' ?_ | refine RetQ.i' ?_ | refine RetQ.d' ?_ | refine RetQ.t2' ?_ ?_ | refine RetQ.t3' ?_ ?_ ?_))
  rfl

/-- The first code of a cell that is not 0. -/
def cellsCode : List Cell → Int
  | [] => 0
  | c :: r => if cellCode c ≠ 0 then cellCode c else cellsCode r

/-- A value's code, and the value. -/
def valOfM (cs : List Cell) : V × Int :=
  if ¬ (1 ≤ cs.length ∧ cs.length ≤ 200) then (V.zero, 2)
  else if cellsCode cs ≠ 0 then (V.zero, cellsCode cs)
  else match valAtM cs (cs.length + 1) 0 with
    | none => (V.zero, 1)
    | some (v, b) => if b ≠ cs.length ∨ (cs.getD 0 default).key ≠ noS then (V.zero, 1) else if 20 < v.depth then (V.zero, 7) else (v, 0)

theorem kids_count {rec : Nat → Option (V × Nat)} {cs : List Cell} {c : Cell} (hr : ∀ k v b, rec k = some (v, b) → k + v.count ≤ b) : ∀ (r i : Nat) (keys : List ByteArray) (kids : List V) (next : Nat) (x : List ByteArray × List V × Nat),
    kidsM rec cs c r i keys kids next = some x → V.counts x.2.1 + next ≤ V.counts kids + x.2.2
  | 0, i, keys, kids, next, x, h => by
    simp only [kidsM, Option.some.injEq] at h
    subst h; simp
  | r + 1, i, keys, kids, next, x, h => by
    simp only [kidsM] at h
    split at h
    · cases h
    · rename_i kid b hk
      split at h
      · cases h
      · have h1 := hr next kid b hk
        have := kids_count hr r _ _ _ b x h
        have happ : ∀ (l : List V) (v : V), V.counts (l ++ [v]) = V.counts l + v.count := by
          intro l v
          induction l with
          | nil => simp [V.counts]
          | cons y r ih => rw [List.cons_append]; simp only [V.counts]; rw [ih]; omega
        rw [happ] at this
        omega

theorem valAtM_count {cs : List Cell} : ∀ (f k : Nat) (v : V) (b : Nat), valAtM cs f k = some (v, b) → k + v.count ≤ b
  | 0, k, v, b, h => by simp [valAtM] at h
  | f + 1, k, v, b, h => by
    simp only [valAtM] at h
    split at h
    · split at h
      · cases h
      · rename_i keys kids next hx
        simp only [Option.some.injEq, Prod.mk.injEq] at h
        obtain ⟨rfl, rfl⟩ := h
        have := kids_count (valAtM_count f) _ _ _ _ _ _ hx
        simp only [V.counts, V.count] at this ⊢
        omega
    · cases h

set_option maxHeartbeats 1000000 in
theorem valOf_fn (cs : List Cell) (ht : ∀ c ∈ cs, c.text.size ≤ 1048576 ∧ c.key.size ≤ 1048576) (hl : cs.length ≤ 1048576) : Fun env.P 72 [cellsD cs] (.tup [.d (.agg (valOfM cs).1.row), .d (dI (valOfM cs).2)]) [] := by
  refine Fun.intro Try.func72 rfl (by kernel_rfl) rfl ?_
  have hat : ∀ i : Nat, i < cs.length → (cs.getD i default).text.size ≤ 1048576 ∧ (cs.getD i default).key.size ≤ 1048576 := fun i hi => ht _ (getD_mem' hi)
  repeat' (first | refine W.seq ?_ | refine W.rg ?_ | refine W.dra' ?_ | refine W.block ?_ | refine W.skip ?_ | refine W.exit ?_ | refine W.cond_true' ?_ | refine W.cond_false' ?_ | refine WG.nil ?_ | refine WG.run' (E := env) ?_ | refine WG.gt' ?_ | refine WG.gf' ?_ | refine WG.ixm' (E := env) ?_ | refine WG.ixo' (E := env) ?_ | refine WG.legm' (E := env) ?_ | refine WG.slS' (E := env) ?_ | refine WG.slD' (E := env) ?_ | refine WG.ap' (E := env) ?_ | refine WD.nil ?_ | refine WD.bs' (E := env) ?_ | refine WD.s' (E := env) (t := .d _) ?_ | refine WD.p' ?_ | refine WD.px' ?_ | refine WD.s' (E := env) (t := .ea _ _) ?_ | refine WD.s' (E := env) (t := .lp _ _) ?_ | refine WD.s' (E := env) (t := .og _ _) ?_ | refine WD.s' (E := env) (t := .agg _) ?_ | refine WD.s' (E := env) (t := .tup _) ?_ | refine WD.s' (E := env) (t := .clo _ _) ?_ | refine WD.ixm' (E := env) ?_ | refine WD.ixo' (E := env) ?_ | refine WD.legm' (E := env) ?_ | refine WD.slS' (E := env) ?_ | refine WD.slD' (E := env) ?_ | refine WG.c (E := env) rfl rfl (size_fn cs) rfl rfl ?_ | refine WD.c (E := env) rfl rfl (size_fn cs) rfl rfl ?_ | refine WG.co (E := env) rfl rfl (size_fn cs) rfl rfl rfl rfl ?_ | refine WG.cx (E := env) rfl (size_fn cs) rfl ?_ | refine WG.c (E := env) rfl rfl (within_fn _ _ _) rfl rfl ?_ | refine WD.c (E := env) rfl rfl (within_fn _ _ _) rfl rfl ?_ | refine WG.co (E := env) rfl rfl (within_fn _ _ _) rfl rfl rfl rfl ?_ | refine WG.cx (E := env) rfl (within_fn _ _ _) rfl ?_ | ((first | refine WG.sp' (fun h => ?_) fun h => ?_ | refine W.cond' (fun h => ?_) fun h => ?_ | refine WD.sp' (fun h => ?_) fun h => ?_) <;> (try simp only [atS, List.length_map, beq_self_eq_true] at h) <;> (try (exfalso; first | contradiction | omega))))
  · have e : valOfM cs = (V.zero, 2) := by rw [valOfM, if_pos (by omega)]
    rw [e]
    (refine W.ret ?_; (first | refine RetQ.b' ?_ | refine RetQ.i' ?_ | refine RetQ.d' ?_ | refine RetQ.t2' ?_ ?_ | refine RetQ.t3' ?_ ?_ ?_))
    all_goals rfl
  refine W.loop (fun m S => ∃ (i : Nat), m = cs.length - i ∧ (i ≤ cs.length ∧ cellsCode cs = cellsCode (cs.drop i)) ∧ S = ⟨ofL [(0, .d (cellsD cs)), (2, .lp 0 0), (3, vI .i64 0), (15, .d (cellsD cs)), (16, vI .i64 (cs.map Cell.row).length), (17, vI .i64 i)], [.pv [.d (dI 0), .d (dI 0), .d (dS ByteArray.empty), .d (.nl 1), .d (.nl 5)]]⟩) _ _ ⟨0, rfl, ⟨by omega, rfl⟩, rfl⟩ (by (refine le_ofL rfl ?_ ?_ <;> (repeat (first | exact trivial | refine ⟨⟨rfl, rfl⟩, ?_⟩ | refine ⟨rfl, .inl rfl, ?_⟩ | refine ⟨rfl, .inr rfl, ?_⟩)))) ?_
  rintro m S ⟨i, rfl, ⟨hi, he⟩, rfl⟩
  repeat' (first | refine W.seq ?_ | refine W.rg ?_ | refine W.dra' ?_ | refine W.block ?_ | refine W.skip ?_ | refine W.exit ?_ | refine W.cond_true' ?_ | refine W.cond_false' ?_ | refine WG.nil ?_ | refine WG.run' (E := env) ?_ | refine WG.gt' ?_ | refine WG.gf' ?_ | refine WG.ixm' (E := env) ?_ | refine WG.ixo' (E := env) ?_ | refine WG.legm' (E := env) ?_ | refine WG.slS' (E := env) ?_ | refine WG.slD' (E := env) ?_ | refine WG.ap' (E := env) ?_ | refine WD.nil ?_ | refine WD.bs' (E := env) ?_ | refine WD.s' (E := env) (t := .d _) ?_ | refine WD.p' ?_ | refine WD.px' ?_ | refine WD.s' (E := env) (t := .ea _ _) ?_ | refine WD.s' (E := env) (t := .lp _ _) ?_ | refine WD.s' (E := env) (t := .og _ _) ?_ | refine WD.s' (E := env) (t := .agg _) ?_ | refine WD.s' (E := env) (t := .tup _) ?_ | refine WD.s' (E := env) (t := .clo _ _) ?_ | refine WD.ixm' (E := env) ?_ | refine WD.ixo' (E := env) ?_ | refine WD.legm' (E := env) ?_ | refine WD.slS' (E := env) ?_ | refine WD.slD' (E := env) ?_ | refine WG.c (E := env) rfl rfl (cellFault_fn _ (hat _ (by omega)).1 (hat _ (by omega)).2) rfl rfl ?_ | refine WD.c (E := env) rfl rfl (cellFault_fn _ (hat _ (by omega)).1 (hat _ (by omega)).2) rfl rfl ?_ | refine WG.co (E := env) rfl rfl (cellFault_fn _ (hat _ (by omega)).1 (hat _ (by omega)).2) rfl rfl rfl rfl ?_ | refine WG.cx (E := env) rfl (cellFault_fn _ (hat _ (by omega)).1 (hat _ (by omega)).2) rfl ?_ | ((first | refine WG.sp' (fun h => ?_) fun h => ?_ | refine W.cond' (fun h => ?_) fun h => ?_ | refine WD.sp' (fun h => ?_) fun h => ?_) <;> (try simp only [atS, List.length_map, beq_self_eq_true] at h) <;> (try (exfalso; first | contradiction | omega))))
  · (try simp only [Int.toNat_natCast, Int.toNat_zero, toNat_cc, toNat_c1, toNat_cm1, toNat_cm] at *)
    rw [drop_step (by omega), cellsCode, if_pos (by assumption)] at he
    have e : valOfM cs = (V.zero, cellCode (cs.getD i default)) := by rw [valOfM, if_neg (by omega), if_pos (by rw [he]; assumption), he]
    rw [e]
    (refine W.ret ?_; (first | refine RetQ.b' ?_ | refine RetQ.i' ?_ | refine RetQ.d' ?_ | refine RetQ.t2' ?_ ?_ | refine RetQ.t3' ?_ ?_ ?_))
    all_goals rfl
  · (try simp only [Int.toNat_natCast, Int.toNat_zero, toNat_cc, toNat_c1, toNat_cm1, toNat_cm] at *)
    exact ⟨_, _, by omega, ⟨i + 1, rfl, ⟨by omega, by rw [he, drop_step (by omega), cellsCode, if_neg (by simp only [*]; simp)]⟩, rfl⟩, (by (refine le_ofL rfl ?_ ?_ <;> (repeat (first | exact trivial | refine ⟨⟨rfl, rfl⟩, ?_⟩ | refine ⟨rfl, .inl rfl, ?_⟩ | refine ⟨rfl, .inr rfl, ?_⟩))))⟩
  rw [List.drop_eq_nil_of_le (by omega)] at he
  cases hv : valAtM cs (cs.length + 1) 0 with
  | none =>
    have hc := (valAt_fn cs hl (cs.length + 1) 0 (by omega) (by omega)).cast rfl (congrArg (fun x => T.tup (valRes x)) hv) rfl
    have e : valOfM cs = (V.zero, 1) := by rw [valOfM, if_neg (by omega), if_neg (by rw [he]; simp [cellsCode]), hv]
    rw [e]
    repeat' (first | refine W.seq ?_ | refine W.rg ?_ | refine W.dra' ?_ | refine W.block ?_ | refine W.skip ?_ | refine W.exit ?_ | refine W.cond_true' ?_ | refine W.cond_false' ?_ | refine WG.nil ?_ | refine WG.run' (E := env) ?_ | refine WG.gt' ?_ | refine WG.gf' ?_ | refine WG.ixm' (E := env) ?_ | refine WG.ixo' (E := env) ?_ | refine WG.legm' (E := env) ?_ | refine WG.slS' (E := env) ?_ | refine WG.slD' (E := env) ?_ | refine WG.ap' (E := env) ?_ | refine WD.nil ?_ | refine WD.bs' (E := env) ?_ | refine WD.s' (E := env) (t := .d _) ?_ | refine WD.p' ?_ | refine WD.px' ?_ | refine WD.s' (E := env) (t := .ea _ _) ?_ | refine WD.s' (E := env) (t := .lp _ _) ?_ | refine WD.s' (E := env) (t := .og _ _) ?_ | refine WD.s' (E := env) (t := .agg _) ?_ | refine WD.s' (E := env) (t := .tup _) ?_ | refine WD.s' (E := env) (t := .clo _ _) ?_ | refine WD.ixm' (E := env) ?_ | refine WD.ixo' (E := env) ?_ | refine WD.legm' (E := env) ?_ | refine WD.slS' (E := env) ?_ | refine WD.slD' (E := env) ?_ | refine WG.c (E := env) rfl rfl (hc) rfl rfl ?_ | refine WD.c (E := env) rfl rfl (hc) rfl rfl ?_ | refine WG.co (E := env) rfl rfl (hc) rfl rfl rfl rfl ?_ | refine WG.cx (E := env) rfl (hc) rfl ?_ | ((first | refine WG.sp' (fun h => ?_) fun h => ?_ | refine W.cond' (fun h => ?_) fun h => ?_ | refine WD.sp' (fun h => ?_) fun h => ?_) <;> (try simp only [atS, List.length_map, beq_self_eq_true] at h) <;> (try (exfalso; first | contradiction | omega))))
    (refine W.ret ?_; (first | refine RetQ.b' ?_ | refine RetQ.i' ?_ | refine RetQ.d' ?_ | refine RetQ.t2' ?_ ?_ | refine RetQ.t3' ?_ ?_ ?_))
    all_goals rfl
  | some p =>
    obtain ⟨⟨vk, vn, vt, vks, vkd⟩, b⟩ := p
    have hc := (valAt_fn cs hl (cs.length + 1) 0 (by omega) (by omega)).cast rfl (congrArg (fun x => T.tup (valRes x)) hv) rfl
    have hcount := valAtM_count _ _ _ _ hv
    have hb := valAtM_le _ _ _ _ hv
    have hd := (depthP_fn 1048576 (.mk vk vn vt vks vkd) (by omega) (by omega)).cast (args' := [.agg (V.row (.mk vk vn vt vks vkd))]) (by rw [V.row_eq]) rfl rfl
    have e0 : valOfM cs = if b ≠ cs.length ∨ (cs.getD 0 default).key ≠ noS then (V.zero, 1) else if 20 < (V.mk vk vn vt vks vkd).depth then (V.zero, 7) else (.mk vk vn vt vks vkd, 0) := by
      rw [valOfM, if_neg (by omega), if_neg (by rw [he]; simp [cellsCode]), hv]
    by_cases h1 : b ≠ cs.length ∨ (cs.getD 0 default).key ≠ noS
    · rw [if_pos h1] at e0
      rw [e0]
      repeat' (first | refine W.seq ?_ | refine W.rg ?_ | refine W.dra' ?_ | refine W.block ?_ | refine W.skip ?_ | refine W.exit ?_ | refine W.cond_true' ?_ | refine W.cond_false' ?_ | refine WG.nil ?_ | refine WG.run' (E := env) ?_ | refine WG.gt' ?_ | refine WG.gf' ?_ | refine WG.ixm' (E := env) ?_ | refine WG.ixo' (E := env) ?_ | refine WG.legm' (E := env) ?_ | refine WG.slS' (E := env) ?_ | refine WG.slD' (E := env) ?_ | refine WG.ap' (E := env) ?_ | refine WD.nil ?_ | refine WD.bs' (E := env) ?_ | refine WD.s' (E := env) (t := .d _) ?_ | refine WD.p' ?_ | refine WD.px' ?_ | refine WD.s' (E := env) (t := .ea _ _) ?_ | refine WD.s' (E := env) (t := .lp _ _) ?_ | refine WD.s' (E := env) (t := .og _ _) ?_ | refine WD.s' (E := env) (t := .agg _) ?_ | refine WD.s' (E := env) (t := .tup _) ?_ | refine WD.s' (E := env) (t := .clo _ _) ?_ | refine WD.ixm' (E := env) ?_ | refine WD.ixo' (E := env) ?_ | refine WD.legm' (E := env) ?_ | refine WD.slS' (E := env) ?_ | refine WD.slD' (E := env) ?_ | refine WG.c (E := env) rfl rfl (hc) rfl rfl ?_ | refine WD.c (E := env) rfl rfl (hc) rfl rfl ?_ | refine WG.co (E := env) rfl rfl (hc) rfl rfl rfl rfl ?_ | refine WG.cx (E := env) rfl (hc) rfl ?_ | ((first | refine WG.sp' (fun h => ?_) fun h => ?_ | refine W.cond' (fun h => ?_) fun h => ?_ | refine WD.sp' (fun h => ?_) fun h => ?_) <;> (try simp only [atS, List.length_map, beq_self_eq_true] at h) <;> (try (exfalso; first | contradiction | omega))))
      all_goals first | ((refine W.ret ?_; (first | refine RetQ.b' ?_ | refine RetQ.i' ?_ | refine RetQ.d' ?_ | refine RetQ.t2' ?_ ?_ | refine RetQ.t3' ?_ ?_ ?_)); all_goals rfl; done) | (exfalso; (try simp only [Int.toNat_natCast, Int.toNat_zero, toNat_cc, toNat_c1, toNat_cm1, toNat_cm] at *); rcases h1 with h1 | h1 <;> first | omega | contradiction)
    · rw [if_neg h1] at e0
      by_cases h2 : 20 < (V.mk vk vn vt vks vkd).depth
      · rw [if_pos h2] at e0
        rw [e0]
        repeat' (first | refine W.seq ?_ | refine W.rg ?_ | refine W.dra' ?_ | refine W.block ?_ | refine W.skip ?_ | refine W.exit ?_ | refine W.cond_true' ?_ | refine W.cond_false' ?_ | refine WG.nil ?_ | refine WG.run' (E := env) ?_ | refine WG.gt' ?_ | refine WG.gf' ?_ | refine WG.ixm' (E := env) ?_ | refine WG.ixo' (E := env) ?_ | refine WG.legm' (E := env) ?_ | refine WG.slS' (E := env) ?_ | refine WG.slD' (E := env) ?_ | refine WG.ap' (E := env) ?_ | refine WD.nil ?_ | refine WD.bs' (E := env) ?_ | refine WD.s' (E := env) (t := .d _) ?_ | refine WD.p' ?_ | refine WD.px' ?_ | refine WD.s' (E := env) (t := .ea _ _) ?_ | refine WD.s' (E := env) (t := .lp _ _) ?_ | refine WD.s' (E := env) (t := .og _ _) ?_ | refine WD.s' (E := env) (t := .agg _) ?_ | refine WD.s' (E := env) (t := .tup _) ?_ | refine WD.s' (E := env) (t := .clo _ _) ?_ | refine WD.ixm' (E := env) ?_ | refine WD.ixo' (E := env) ?_ | refine WD.legm' (E := env) ?_ | refine WD.slS' (E := env) ?_ | refine WD.slD' (E := env) ?_ | refine WG.c (E := env) rfl rfl (hc) rfl rfl ?_ | refine WD.c (E := env) rfl rfl (hc) rfl rfl ?_ | refine WG.co (E := env) rfl rfl (hc) rfl rfl rfl rfl ?_ | refine WG.cx (E := env) rfl (hc) rfl ?_ | refine WG.c (E := env) rfl rfl (hd) rfl rfl ?_ | refine WD.c (E := env) rfl rfl (hd) rfl rfl ?_ | refine WG.co (E := env) rfl rfl (hd) rfl rfl rfl rfl ?_ | refine WG.cx (E := env) rfl (hd) rfl ?_ | ((first | refine WG.sp' (fun h => ?_) fun h => ?_ | refine W.cond' (fun h => ?_) fun h => ?_ | refine WD.sp' (fun h => ?_) fun h => ?_) <;> (try simp only [atS, List.length_map, beq_self_eq_true] at h) <;> (try (exfalso; first | contradiction | omega))))
        all_goals first | ((refine W.ret ?_; (first | refine RetQ.b' ?_ | refine RetQ.i' ?_ | refine RetQ.d' ?_ | refine RetQ.t2' ?_ ?_ | refine RetQ.t3' ?_ ?_ ?_)); all_goals rfl; done) | (exfalso; (try simp only [Int.toNat_natCast, Int.toNat_zero, toNat_cc, toNat_c1, toNat_cm1, toNat_cm] at *); exact h1 (.inl (by omega)); done) | (exfalso; (try simp only [Int.toNat_natCast, Int.toNat_zero, toNat_cc, toNat_c1, toNat_cm1, toNat_cm] at *); exact h1 (.inr (by assumption)); done)
      · rw [if_neg h2] at e0
        rw [e0]
        repeat' (first | refine W.seq ?_ | refine W.rg ?_ | refine W.dra' ?_ | refine W.block ?_ | refine W.skip ?_ | refine W.exit ?_ | refine W.cond_true' ?_ | refine W.cond_false' ?_ | refine WG.nil ?_ | refine WG.run' (E := env) ?_ | refine WG.gt' ?_ | refine WG.gf' ?_ | refine WG.ixm' (E := env) ?_ | refine WG.ixo' (E := env) ?_ | refine WG.legm' (E := env) ?_ | refine WG.slS' (E := env) ?_ | refine WG.slD' (E := env) ?_ | refine WG.ap' (E := env) ?_ | refine WD.nil ?_ | refine WD.bs' (E := env) ?_ | refine WD.s' (E := env) (t := .d _) ?_ | refine WD.p' ?_ | refine WD.px' ?_ | refine WD.s' (E := env) (t := .ea _ _) ?_ | refine WD.s' (E := env) (t := .lp _ _) ?_ | refine WD.s' (E := env) (t := .og _ _) ?_ | refine WD.s' (E := env) (t := .agg _) ?_ | refine WD.s' (E := env) (t := .tup _) ?_ | refine WD.s' (E := env) (t := .clo _ _) ?_ | refine WD.ixm' (E := env) ?_ | refine WD.ixo' (E := env) ?_ | refine WD.legm' (E := env) ?_ | refine WD.slS' (E := env) ?_ | refine WD.slD' (E := env) ?_ | refine WG.c (E := env) rfl rfl (hc) rfl rfl ?_ | refine WD.c (E := env) rfl rfl (hc) rfl rfl ?_ | refine WG.co (E := env) rfl rfl (hc) rfl rfl rfl rfl ?_ | refine WG.cx (E := env) rfl (hc) rfl ?_ | refine WG.c (E := env) rfl rfl (hd) rfl rfl ?_ | refine WD.c (E := env) rfl rfl (hd) rfl rfl ?_ | refine WG.co (E := env) rfl rfl (hd) rfl rfl rfl rfl ?_ | refine WG.cx (E := env) rfl (hd) rfl ?_ | ((first | refine WG.sp' (fun h => ?_) fun h => ?_ | refine W.cond' (fun h => ?_) fun h => ?_ | refine WD.sp' (fun h => ?_) fun h => ?_) <;> (try simp only [atS, List.length_map, beq_self_eq_true] at h) <;> (try (exfalso; first | contradiction | omega))))
        all_goals first | ((refine W.ret ?_; (first | refine RetQ.b' ?_ | refine RetQ.i' ?_ | refine RetQ.d' ?_ | refine RetQ.t2' ?_ ?_ | refine RetQ.t3' ?_ ?_ ?_)); all_goals rfl; done) | (exfalso; (try simp only [Int.toNat_natCast, Int.toNat_zero, toNat_cc, toNat_c1, toNat_cm1, toNat_cm] at *); exact h1 (.inl (by omega)); done) | (exfalso; (try simp only [Int.toNat_natCast, Int.toNat_zero, toNat_cc, toNat_c1, toNat_cm1, toNat_cm] at *); exact h1 (.inr (by assumption)); done)

end Go.Proofs.Ytmmjbpgdkokjgaa
