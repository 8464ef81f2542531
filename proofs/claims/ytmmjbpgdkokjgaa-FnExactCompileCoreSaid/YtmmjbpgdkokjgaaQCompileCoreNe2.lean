/-
  Nests of the program: slices of nodes of a core, slices of slices of cells: what the laws' own functions make of them. Conditions: none.
-/
import Derived.Test.YtmmjbpgdkokjgaaQCompileCoreOr1
import Derived.Test.YtmmjbpgdkokjgaaQCompileCoreNe1
import Derived.Test.YtmmjbpgdkokjgaaQCompileCorePgG
import Derived.Test.YtmmjbpgdkokjgaaQCompileCorePgF
set_option linter.unusedVariables false
set_option linter.unusedSimpArgs false
set_option maxRecDepth 100000
namespace Go.Proofs.Ytmmjbpgdkokjgaa
open Go.RowKit

/-! ### lists that are made in order -/

/-! ### slices of nodes of a core -/

abbrev neC (rows : List NR) (dd : Option (List (List D))) : ObX := nestX 48 6 5 81 5 rows none dd
def coN (n : Co) : NR := ⟨[dI n.op, dI n.a, dI n.b, dI n.c, dI n.num, .v undef], some (n.val.map Cell.row)⟩
def zN : NR := ⟨zeroCo, none⟩
theorem coN_dat (xs : List Co) : datN 5 5 (xs.map coN) = some (xs.map Co.row) := datN_map 5 5 _ _ xs

def sumV : List Co → Nat
  | [] => 0
  | n :: r => n.val.length + sumV r

theorem szS_len {cs : List Cell} {l : Int} (h : 0 ≤ szS cs l) : (cs.length : Int) + szS cs l ≤ l := by
  unfold szS at h ⊢
  split at h
  · omega
  · rename_i h1
    have := szL_le cs (l - cs.length) (by omega)
    rw [if_neg h1]
    omega

theorem szK_sum : ∀ {xs : List Co} {l : Int}, 0 ≤ l → 0 ≤ szList szCo xs l → (sumV xs : Int) + szList szCo xs l ≤ l
  | [], l, _, h => by simp [szList, sumV]
  | n :: r, l, h0, h => by
    unfold szList at h ⊢
    split at h
    · omega
    · rename_i h1
      rw [if_neg h1]
      have h2 := szS_len (cs := n.val) (l := l) (by unfold szCo at h1; omega)
      have := szK_sum (xs := r) (l := szCo n l) (by omega) h
      simp only [sumV]
      unfold szCo at *
      omega

theorem szK_sumV {xs : List Co} (h : 0 ≤ szK xs 1048576) : xs.length + sumV xs ≤ 1048576 := by
  unfold szK szSl at h
  split at h
  · omega
  · have := szK_sum (by omega) h
    have h2 := szList_le szCo_ok xs (1048576 - xs.length) (by omega)
    omega

theorem toCoreOwn_fn (n : Co) (h : n.fine) : Fun env.P 17 [.agg n.row] (.agg [vI .i64 n.op, vI .i64 n.a, vI .i64 n.b, vI .i64 n.c, vI .i64 n.num, .og 0 0]) [.gr 5 81 (n.val.map Cell.row) 0 false] := by
  have hq := toCellSown_fn n.val h.2
  refine Fun.intro Try.func17 rfl (by kernel_rfl) rfl ?_
  repeat' (first | refine W.seq ?_ | refine W.rg ?_ | refine W.dra' ?_ | refine W.block ?_ | refine W.skip ?_ | refine W.exit ?_ | refine W.cond_true' ?_ | refine W.cond_false' ?_ | refine WG.nil ?_ | refine WG.run' (E := env) ?_ | refine WG.gt' ?_ | refine WG.gf' ?_ | refine WG.ixm' (E := env) ?_ | refine WG.ixo' (E := env) ?_ | refine WG.legm' (E := env) ?_ | refine WG.slS' (E := env) ?_ | refine WG.slD' (E := env) ?_ | refine WG.ap' (E := env) ?_ | refine WD.nil ?_ | refine WD.bs' (E := env) ?_ | refine WD.s' (E := env) (t := .d _) ?_ | refine WD.p' ?_ | refine WD.px' ?_ | refine WD.s' (E := env) (t := .ea _ _) ?_ | refine WD.s' (E := env) (t := .lp _ _) ?_ | refine WD.s' (E := env) (t := .og _ _) ?_ | refine WD.s' (E := env) (t := .agg _) ?_ | refine WD.s' (E := env) (t := .tup _) ?_ | refine WD.s' (E := env) (t := .clo _ _) ?_ | refine WD.ixm' (E := env) ?_ | refine WD.ixo' (E := env) ?_ | refine WD.legm' (E := env) ?_ | refine WD.slS' (E := env) ?_ | refine WD.slD' (E := env) ?_ | refine WG.coG' (E := env) rfl rfl (hq) rfl ?_ | refine WG.coA' (E := env) rfl rfl (hq) rfl ?_ | refine WG.coA3' (E := env) rfl rfl (hq) rfl ?_ | ((first | refine WG.sp' (fun h => ?_) fun h => ?_ | refine W.cond' (fun h => ?_) fun h => ?_ | refine WD.sp' (fun h => ?_) fun h => ?_) <;> (try simp only [atS, List.length_map, beq_self_eq_true] at h) <;> (try (exfalso; first | contradiction | omega))))
  refine W.ret ?_
  exact RetR.own (ob' := [.gr 5 81 (n.val.map Cell.row) 0 false]) ⟨[3], [0], 4⟩ (.inl rfl) rfl (by first | trivial | exact resOK_of (E := env) rfl) rfl rfl rfl rfl rfl rfl ⟨rfl, trivial⟩ rfl ⟨rfl, rfl⟩

set_option maxHeartbeats 2000000 in
theorem toCoreSown_fn (xs : List Co) (hm : xs.length ≤ 1048576) (hf : ∀ x ∈ xs, x.fine) : Fun env.P 6 [coresD xs] (.og 0 0) [.x (neC (xs.map coN) (some (xs.map Co.row))) 0] := by
  refine Fun.intro Try.func6 rfl (by kernel_rfl) rfl ?_
  repeat' (first | refine W.seq ?_ | refine W.rg ?_ | refine W.dra' ?_ | refine W.block ?_ | refine W.skip ?_ | refine W.exit ?_ | refine W.cond_true' ?_ | refine W.cond_false' ?_ | refine WG.nil ?_ | refine WG.run' (E := env) ?_ | refine WG.gt' ?_ | refine WG.gf' ?_ | refine WG.ixm' (E := env) ?_ | refine WG.ixo' (E := env) ?_ | refine WG.legm' (E := env) ?_ | refine WG.slS' (E := env) ?_ | refine WG.slD' (E := env) ?_ | refine WG.ap' (E := env) ?_ | refine WD.nil ?_ | refine WD.bs' (E := env) ?_ | refine WD.s' (E := env) (t := .d _) ?_ | refine WD.p' ?_ | refine WD.px' ?_ | refine WD.s' (E := env) (t := .ea _ _) ?_ | refine WD.s' (E := env) (t := .lp _ _) ?_ | refine WD.s' (E := env) (t := .og _ _) ?_ | refine WD.s' (E := env) (t := .agg _) ?_ | refine WD.s' (E := env) (t := .tup _) ?_ | refine WD.s' (E := env) (t := .clo _ _) ?_ | refine WD.ixm' (E := env) ?_ | refine WD.ixo' (E := env) ?_ | refine WD.legm' (E := env) ?_ | refine WD.slS' (E := env) ?_ | refine WD.slD' (E := env) ?_ | ((first | refine WG.sp' (fun h => ?_) fun h => ?_ | refine W.cond' (fun h => ?_) fun h => ?_ | refine WD.sp' (fun h => ?_) fun h => ?_) <;> (try simp only [atS, List.length_map, beq_self_eq_true] at h) <;> (try (exfalso; first | contradiction | omega))))
  refine WG.mk (E := env) (z := 6) (zs := zeroCo) rfl rfl rfl rfl rfl rfl rfl rfl rfl rfl rfl ?_ ?_
  · refine ⟨by simp, by simp, ?_⟩
    show ((64 : Nat) : Int) * _ ≤ _
    simp; omega
  repeat' (first | refine W.seq ?_ | refine W.rg ?_ | refine W.dra' ?_ | refine W.block ?_ | refine W.skip ?_ | refine W.exit ?_ | refine W.cond_true' ?_ | refine W.cond_false' ?_ | refine WG.nil ?_ | refine WG.run' (E := env) ?_ | refine WG.gt' ?_ | refine WG.gf' ?_ | refine WG.ixm' (E := env) ?_ | refine WG.ixo' (E := env) ?_ | refine WG.legm' (E := env) ?_ | refine WG.slS' (E := env) ?_ | refine WG.slD' (E := env) ?_ | refine WG.ap' (E := env) ?_ | refine WD.nil ?_ | refine WD.bs' (E := env) ?_ | refine WD.s' (E := env) (t := .d _) ?_ | refine WD.p' ?_ | refine WD.px' ?_ | refine WD.s' (E := env) (t := .ea _ _) ?_ | refine WD.s' (E := env) (t := .lp _ _) ?_ | refine WD.s' (E := env) (t := .og _ _) ?_ | refine WD.s' (E := env) (t := .agg _) ?_ | refine WD.s' (E := env) (t := .tup _) ?_ | refine WD.s' (E := env) (t := .clo _ _) ?_ | refine WD.ixm' (E := env) ?_ | refine WD.ixo' (E := env) ?_ | refine WD.legm' (E := env) ?_ | refine WD.slS' (E := env) ?_ | refine WD.slD' (E := env) ?_ | ((first | refine WG.sp' (fun h => ?_) fun h => ?_ | refine W.cond' (fun h => ?_) fun h => ?_ | refine WD.sp' (fun h => ?_) fun h => ?_) <;> (try simp only [atS, List.length_map, beq_self_eq_true] at h) <;> (try (exfalso; first | contradiction | omega))))
  refine W.loopI (fun m S => ∃ (k : Nat) (R : List NR), m = xs.length - k ∧ (k ≤ xs.length ∧ R = rowsG coN zN xs k) ∧ S = ⟨ofL [(0, .d (coresD xs)), (3, .og 0 0), (4, vI .i64 k)], [.x (neC R none) 0]⟩) _ _
    ⟨0, (List.replicate (((xs.map Co.row).length : Int)).toNat zeroCo).map fun r => ⟨r, none⟩, rfl, ⟨by omega, by rw [rowsG_zero]; simp [zN]⟩, rfl⟩ ((St.imp.nest 0 5 81 5 rfl (by omega)).trans (St.imp.of_le (by (refine le_ofL rfl ?_ ?_ <;> (repeat (first | exact trivial | refine ⟨⟨rfl, rfl⟩, ?_⟩ | refine ⟨rfl, .inl rfl, ?_⟩ | refine ⟨rfl, .inr rfl, ?_⟩)))))) ?_
  rintro m S ⟨k, R, rfl, ⟨hk, hR⟩, rfl⟩
  have hRl : R.length = xs.length := by rw [hR, rowsG_length _ _ _ hk]
  by_cases hlt : k < xs.length
  · have hat : R[Int.toNat (k : Int)]? = some zN := by rw [hR, Int.toNat_natCast]; exact rowsG_at _ _ _ hlt
    have hq := toCoreOwn_fn (xs.getD (Int.toNat (k : Int)) default) (hf _ (getD_mem' (by rw [Int.toNat_natCast]; exact hlt)))
    repeat' (first | refine WG.co (E := env) (K := 1) (t' := .agg [vI .i64 (xs.getD (Int.toNat (k : Int)) default).op, vI .i64 (xs.getD (Int.toNat (k : Int)) default).a, vI .i64 (xs.getD (Int.toNat (k : Int)) default).b, vI .i64 (xs.getD (Int.toNat (k : Int)) default).c, vI .i64 (xs.getD (Int.toNat (k : Int)) default).num, .og 1 0]) (ob2 := [.gr 5 81 ((xs.getD (Int.toNat (k : Int)) default).val.map Cell.row) 0 false]) rfl rfl hq rfl rfl rfl rfl ?_ | refine WG.ixN' (E := env) ?_ | refine WG.stNO (E := env) rfl rfl rfl rfl hat rfl rfl rfl rfl rfl rfl rfl rfl rfl ?_ | refine W.seq ?_ | refine W.rg ?_ | refine W.dra' ?_ | refine W.block ?_ | refine W.skip ?_ | refine W.exit ?_ | refine W.cond_true' ?_ | refine W.cond_false' ?_ | refine WG.nil ?_ | refine WG.run' (E := env) ?_ | refine WG.gt' ?_ | refine WG.gf' ?_ | refine WG.ixm' (E := env) ?_ | refine WG.ixo' (E := env) ?_ | refine WG.legm' (E := env) ?_ | refine WG.slS' (E := env) ?_ | refine WG.slD' (E := env) ?_ | refine WG.ap' (E := env) ?_ | refine WD.nil ?_ | refine WD.bs' (E := env) ?_ | refine WD.s' (E := env) (t := .d _) ?_ | refine WD.p' ?_ | refine WD.px' ?_ | refine WD.s' (E := env) (t := .ea _ _) ?_ | refine WD.s' (E := env) (t := .lp _ _) ?_ | refine WD.s' (E := env) (t := .og _ _) ?_ | refine WD.s' (E := env) (t := .agg _) ?_ | refine WD.s' (E := env) (t := .tup _) ?_ | refine WD.s' (E := env) (t := .clo _ _) ?_ | refine WD.ixm' (E := env) ?_ | refine WD.ixo' (E := env) ?_ | refine WD.legm' (E := env) ?_ | refine WD.slS' (E := env) ?_ | refine WD.slD' (E := env) ?_ | fail | ((first | refine WG.sp' (fun h => ?_) fun h => ?_ | refine W.cond' (fun h => ?_) fun h => ?_ | refine WD.sp' (fun h => ?_) fun h => ?_) <;> (try simp only [atS, List.length_map, beq_self_eq_true] at h) <;> (try (exfalso; first | contradiction | omega))))
    refine ⟨_, _, by omega, ⟨k + 1, R.set (Int.toNat (k : Int)) (coN (xs.getD (Int.toNat (k : Int)) default)), rfl, ⟨by omega, ?_⟩, rfl⟩, (St.imp.of_le (by (refine le_ofL rfl ?_ ?_ <;> (repeat (first | exact trivial | refine ⟨⟨rfl, rfl⟩, ?_⟩ | refine ⟨rfl, .inl rfl, ?_⟩ | refine ⟨rfl, .inr rfl, ?_⟩)))))⟩
    rw [Int.toNat_natCast, hR, rowsG_set _ _ _ hlt]
  · obtain rfl : k = xs.length := by omega
    repeat' (first | refine W.seq ?_ | refine W.rg ?_ | refine W.dra' ?_ | refine W.block ?_ | refine W.skip ?_ | refine W.exit ?_ | refine W.cond_true' ?_ | refine W.cond_false' ?_ | refine WG.nil ?_ | refine WG.run' (E := env) ?_ | refine WG.gt' ?_ | refine WG.gf' ?_ | refine WG.ixm' (E := env) ?_ | refine WG.ixo' (E := env) ?_ | refine WG.legm' (E := env) ?_ | refine WG.slS' (E := env) ?_ | refine WG.slD' (E := env) ?_ | refine WG.ap' (E := env) ?_ | refine WD.nil ?_ | refine WD.bs' (E := env) ?_ | refine WD.s' (E := env) (t := .d _) ?_ | refine WD.p' ?_ | refine WD.px' ?_ | refine WD.s' (E := env) (t := .ea _ _) ?_ | refine WD.s' (E := env) (t := .lp _ _) ?_ | refine WD.s' (E := env) (t := .og _ _) ?_ | refine WD.s' (E := env) (t := .agg _) ?_ | refine WD.s' (E := env) (t := .tup _) ?_ | refine WD.s' (E := env) (t := .clo _ _) ?_ | refine WD.ixm' (E := env) ?_ | refine WD.ixo' (E := env) ?_ | refine WD.legm' (E := env) ?_ | refine WD.slS' (E := env) ?_ | refine WD.slD' (E := env) ?_ | ((first | refine WG.sp' (fun h => ?_) fun h => ?_ | refine W.cond' (fun h => ?_) fun h => ?_ | refine WD.sp' (fun h => ?_) fun h => ?_) <;> (try simp only [atS, List.length_map, beq_self_eq_true] at h) <;> (try (exfalso; first | contradiction | omega))))
    rw [hR, rowsG_all]
    refine W.imp (St.imp.note 0 rfl (xs.map Co.row) (coN_dat xs)) ?_
    refine W.ret ?_
    exact RetR.own (ob' := [.x (neC (xs.map coN) (some (xs.map Co.row))) 0]) ⟨[0], [0], 1⟩ (.inl rfl) rfl (by first | trivial | exact resOK_of (E := env) rfl) rfl rfl rfl rfl rfl rfl ⟨rfl, trivial⟩ rfl ⟨rfl, rfl⟩

/-- The marks of nodes whose values have so many cells. -/
def marksK (k : Nat) : List Nat → List Co
  | [] => []
  | l :: r => ⟨(k : Int), (k : Int) + 1, (k : Int) + 1 + 1, (k : Int) + 1 + 1 + 1, (k : Int) + 1 + 1 + 1 + 1, marksL (k + 5) l⟩ :: marksK (k + 5 + 5 * l) r

def endK (k : Nat) : List Nat → Nat
  | [] => k
  | l :: r => endK (k + 5 + 5 * l) r

theorem marksK_length : ∀ (k : Nat) (ls : List Nat), (marksK k ls).length = ls.length
  | _, [] => rfl
  | k, l :: r => by simp [marksK, marksK_length]
theorem endK_take : ∀ (k : Nat) (ls : List Nat) (i : Nat), i < ls.length → endK k (ls.take (i + 1)) = endK k (ls.take i) + 5 + 5 * ls.getD i default
  | _, [], i, h => by simp at h
  | k, l :: r, 0, _ => by simp [endK]
  | k, l :: r, i + 1, h => by
    have := endK_take (k + 5 + 5 * l) r i (by simpa using h)
    simpa [endK] using this
theorem marksK_at : ∀ (k : Nat) (ls : List Nat) (i : Nat), i < ls.length → (marksK k ls).getD i default = ⟨(endK k (ls.take i) : Nat), (endK k (ls.take i) : Nat) + 1, (endK k (ls.take i) : Nat) + 1 + 1, (endK k (ls.take i) : Nat) + 1 + 1 + 1, (endK k (ls.take i) : Nat) + 1 + 1 + 1 + 1, marksL (endK k (ls.take i) + 5) (ls.getD i default)⟩
  | _, [], i, h => by simp at h
  | k, l :: r, 0, _ => by simp [marksK, endK]
  | k, l :: r, i + 1, h => by
    have := marksK_at (k + 5 + 5 * l) r i (by simpa using h)
    simpa [marksK, endK] using this
theorem endK_le : ∀ (k : Nat) (xs : List Co), endK k (xs.map fun n => n.val.length) = k + 5 * xs.length + 5 * sumV xs
  | k, [] => by simp [endK, sumV]
  | k, n :: r => by simp only [List.map_cons, endK, endK_le, List.length_cons, sumV]; omega
theorem endK_mono : ∀ (k : Nat) (ls : List Nat) (i : Nat), endK k (ls.take i) ≤ endK k ls
  | k, [], i => by simp
  | k, l :: r, 0 => by
    have : ∀ (r : List Nat) (q : Nat), q ≤ endK q r := by
      intro r
      induction r with
      | nil => intro q; exact Nat.le_refl _
      | cons a r ih => intro q; exact Nat.le_trans (by omega) (ih (q + 5 + 5 * a))
    exact this (l :: r) k
  | k, l :: r, i + 1 => by simpa [endK] using endK_mono (k + 5 + 5 * l) r i

set_option maxHeartbeats 8000000 in
theorem markCoreS_fn (xs : List Co) (dd : Option (List (List D))) (k : Nat) (hk : k + 5 * xs.length + 5 * sumV xs ≤ 1099511000000) :
    FunQ env.P 10 [.og 0 0, vI .i64 k] [.x (neC (xs.map coN) dd) 0]
      (just (vI .i64 ((k + 5 * xs.length + 5 * sumV xs : Nat) : Int)) [.x (neC ((marksK k (xs.map fun n => n.val.length)).map coN) (some ((marksK k (xs.map fun n => n.val.length)).map Co.row))) 0]) := by
  generalize hls : (xs.map fun n => n.val.length) = ls
  have hll : ls.length = xs.length := by rw [← hls]; simp
  have hml : (marksK k ls).length = xs.length := by rw [marksK_length, hll]
  have hend : endK k ls = k + 5 * xs.length + 5 * sumV xs := by rw [← hls, endK_le]
  rw [← hend]
  refine FunQ.intro Try.func10 rfl (by kernel_rfl) rfl ?_
  repeat' (first | refine W.seq ?_ | refine W.rg ?_ | refine W.dra' ?_ | refine W.block ?_ | refine W.skip ?_ | refine W.exit ?_ | refine W.cond_true' ?_ | refine W.cond_false' ?_ | refine WG.nil ?_ | refine WG.run' (E := env) ?_ | refine WG.gt' ?_ | refine WG.gf' ?_ | refine WG.ixm' (E := env) ?_ | refine WG.ixo' (E := env) ?_ | refine WG.legm' (E := env) ?_ | refine WG.slS' (E := env) ?_ | refine WG.slD' (E := env) ?_ | refine WG.ap' (E := env) ?_ | refine WD.nil ?_ | refine WD.bs' (E := env) ?_ | refine WD.s' (E := env) (t := .d _) ?_ | refine WD.p' ?_ | refine WD.px' ?_ | refine WD.s' (E := env) (t := .ea _ _) ?_ | refine WD.s' (E := env) (t := .lp _ _) ?_ | refine WD.s' (E := env) (t := .og _ _) ?_ | refine WD.s' (E := env) (t := .agg _) ?_ | refine WD.s' (E := env) (t := .tup _) ?_ | refine WD.s' (E := env) (t := .clo _ _) ?_ | refine WD.ixm' (E := env) ?_ | refine WD.ixo' (E := env) ?_ | refine WD.legm' (E := env) ?_ | refine WD.slS' (E := env) ?_ | refine WD.slD' (E := env) ?_ | ((first | refine WG.sp' (fun h => ?_) fun h => ?_ | refine W.cond' (fun h => ?_) fun h => ?_ | refine WD.sp' (fun h => ?_) fun h => ?_) <;> (try simp only [atS, List.length_map, beq_self_eq_true] at h) <;> (try (exfalso; first | contradiction | omega))))
  refine W.loopI (fun m S => ∃ (i : Nat) (R : List NR) (d' : Option (List (List D))) (q : Int), m = xs.length - i ∧ (i ≤ xs.length ∧ R = (mixL (marksK k ls) xs i).map coN ∧ q = (endK k (ls.take i) : Nat)) ∧ S = ⟨ofL [(0, .og 0 0), (1, vI .i64 q), (5, vI .i64 i)], [.x (neC R d') 0]⟩) _ _
    ⟨0, xs.map coN, dd, k, rfl, ⟨by omega, by rw [mixL_zero], by simp [endK]⟩, rfl⟩ (St.imp.of_le (by (refine le_ofL rfl ?_ ?_ <;> (repeat (first | exact trivial | refine ⟨⟨rfl, rfl⟩, ?_⟩ | refine ⟨rfl, .inl rfl, ?_⟩ | refine ⟨rfl, .inr rfl, ?_⟩))))) ?_
  rintro m S ⟨i, R, d', q, rfl, ⟨hi, hR, hq⟩, rfl⟩
  have hRl : R.length = xs.length := by rw [hR, List.length_map, mixL_length _ _ hml i hi]
  by_cases hlt : i < xs.length
  · have hat : R[Int.toNat (i : Int)]? = some (coN (xs.getD i default)) := by rw [hR, Int.toNat_natCast, List.getElem?_map, mixL_at _ _ hml hlt]; rfl
    have hili : Int.toNat (i : Int) < R.length := by rw [Int.toNat_natCast]; omega
    have hmo := endK_mono k ls i
    have hmo2 := endK_mono k ls (i + 1)
    have het := endK_take k ls i (by omega)
    have hld : ls.getD i default = (xs.getD i default).val.length := by rw [← hls]; simp [hlt]
    have hma := marksK_at k ls i (by omega)
    generalize endK k (ls.take i) = p at *
    subst hq
    have hmk := markCellS_fn (xs.getD i default).val (p + 5) (by omega)
    rw [show ((p + 5 : Nat) : Int) = (p : Int) + 1 + 1 + 1 + 1 + 1 by omega] at hmk
    repeat' (first | refine WG.lenN' (E := env) ?_ | refine WG.ixN' (E := env) ?_ | refine WG.stND (E := env) rfl rfl rfl rfl (by first | exact hat | exact List.getElem?_set_self (by simpa using hili)) rfl rfl rfl rfl rfl ?_ | refine WG.nestCall (E := env) (K := 1) rfl rfl rfl rfl rfl rfl rfl (List.getElem?_set_self (by simpa using hili)) rfl (fun _ => rfl) rfl (fun _ => rfl) hmk (fun _ => rfl) rfl (fun _ => rfl) rfl ?_ | refine W.seq ?_ | refine W.rg ?_ | refine W.dra' ?_ | refine W.block ?_ | refine W.skip ?_ | refine W.exit ?_ | refine W.cond_true' ?_ | refine W.cond_false' ?_ | refine WG.nil ?_ | refine WG.run' (E := env) ?_ | refine WG.gt' ?_ | refine WG.gf' ?_ | refine WG.ixm' (E := env) ?_ | refine WG.ixo' (E := env) ?_ | refine WG.legm' (E := env) ?_ | refine WG.slS' (E := env) ?_ | refine WG.slD' (E := env) ?_ | refine WG.ap' (E := env) ?_ | refine WD.nil ?_ | refine WD.bs' (E := env) ?_ | refine WD.s' (E := env) (t := .d _) ?_ | refine WD.p' ?_ | refine WD.px' ?_ | refine WD.s' (E := env) (t := .ea _ _) ?_ | refine WD.s' (E := env) (t := .lp _ _) ?_ | refine WD.s' (E := env) (t := .og _ _) ?_ | refine WD.s' (E := env) (t := .agg _) ?_ | refine WD.s' (E := env) (t := .tup _) ?_ | refine WD.s' (E := env) (t := .clo _ _) ?_ | refine WD.ixm' (E := env) ?_ | refine WD.ixo' (E := env) ?_ | refine WD.legm' (E := env) ?_ | refine WD.slS' (E := env) ?_ | refine WD.slD' (E := env) ?_ | fail | ((first | refine WG.sp' (fun h => ?_) fun h => ?_ | refine W.cond' (fun h => ?_) fun h => ?_ | refine WD.sp' (fun h => ?_) fun h => ?_) <;> (try simp only [atS, List.length_map, beq_self_eq_true] at h) <;> (try (exfalso; first | contradiction | omega))))
    · refine ⟨_, _, by omega, ⟨i + 1, R.set (Int.toNat (i : Int)) (coN ((marksK k ls).getD i default)), none, ((p + 5 + 5 * (xs.getD i default).val.length : Nat) : Int), rfl, ⟨by omega, ?_, ?_⟩, rfl⟩, ?_⟩
      · rw [Int.toNat_natCast, hR, ← mixL_set _ _ hml hlt, List.map_set]
      · rw [het, hld]
      · simp only [List.set_set]
        rw [hma, hld]
        exact (St.imp.of_le (by (refine le_ofL rfl ?_ ?_ <;> (repeat (first | exact trivial | refine ⟨⟨rfl, rfl⟩, ?_⟩ | refine ⟨rfl, .inl rfl, ?_⟩ | refine ⟨rfl, .inr rfl, ?_⟩)))))
  · obtain rfl : i = xs.length := by omega
    repeat' (first | refine WG.lenN' (E := env) ?_ | refine W.seq ?_ | refine W.rg ?_ | refine W.dra' ?_ | refine W.block ?_ | refine W.skip ?_ | refine W.exit ?_ | refine W.cond_true' ?_ | refine W.cond_false' ?_ | refine WG.nil ?_ | refine WG.run' (E := env) ?_ | refine WG.gt' ?_ | refine WG.gf' ?_ | refine WG.ixm' (E := env) ?_ | refine WG.ixo' (E := env) ?_ | refine WG.legm' (E := env) ?_ | refine WG.slS' (E := env) ?_ | refine WG.slD' (E := env) ?_ | refine WG.ap' (E := env) ?_ | refine WD.nil ?_ | refine WD.bs' (E := env) ?_ | refine WD.s' (E := env) (t := .d _) ?_ | refine WD.p' ?_ | refine WD.px' ?_ | refine WD.s' (E := env) (t := .ea _ _) ?_ | refine WD.s' (E := env) (t := .lp _ _) ?_ | refine WD.s' (E := env) (t := .og _ _) ?_ | refine WD.s' (E := env) (t := .agg _) ?_ | refine WD.s' (E := env) (t := .tup _) ?_ | refine WD.s' (E := env) (t := .clo _ _) ?_ | refine WD.ixm' (E := env) ?_ | refine WD.ixo' (E := env) ?_ | refine WD.legm' (E := env) ?_ | refine WD.slS' (E := env) ?_ | refine WD.slD' (E := env) ?_ | fail | ((first | refine WG.sp' (fun h => ?_) fun h => ?_ | refine W.cond' (fun h => ?_) fun h => ?_ | refine WD.sp' (fun h => ?_) fun h => ?_) <;> (try simp only [atS, List.length_map, beq_self_eq_true] at h) <;> (try (exfalso; first | contradiction | omega))))
    rw [mixL_all _ _ hml] at hR
    rw [List.take_of_length_le (by omega)] at hq
    subst hR hq
    refine W.imp (St.imp.note 0 rfl ((marksK k ls).map Co.row) (coN_dat _)) ?_
    refine W.ret ?_
    exact RetR.own (ob' := [.x (neC ((marksK k ls).map coN) (some ((marksK k ls).map Co.row))) 0]) ⟨[0], [0], 1⟩ (.inl rfl) rfl (by first | trivial | exact resOK_of (E := env) rfl) rfl rfl rfl rfl rfl rfl ⟨rfl, trivial⟩ rfl ⟨rfl, rfl⟩

end Go.Proofs.Ytmmjbpgdkokjgaa
