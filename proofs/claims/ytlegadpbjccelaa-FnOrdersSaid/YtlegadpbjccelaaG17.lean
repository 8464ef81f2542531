/-
  An object out of keys and values, by the reference. Conditions: none.
-/
import Derived.Test.YtlegadpbjccelaaG16
set_option linter.unusedVariables false
set_option linter.unusedSimpArgs false
set_option maxRecDepth 100000
namespace Go.Proofs.Ytlegadpbjccelaa
open Go.RowKit

def insK (key : ByteArray) (ks : List ByteArray) : List ByteArray := if hasK ks key = true then ks else ks.take (posK key ks) ++ key :: ks.drop (posK key ks)
def insX {α : Type} (key : ByteArray) (x : α) (ks : List ByteArray) (xs : List α) : List α := if hasK ks key = true then xs.set (posK key ks) x else xs.take (posK key ks) ++ x :: xs.drop (posK key ks)
def objK (keys : List ByteArray) : Nat → List ByteArray
  | 0 => []
  | i + 1 => insK (keys.getD i default) (objK keys i)
def objX {α : Type} [Inhabited α] (keys : List ByteArray) (vals : List α) : Nat → List α
  | 0 => []
  | i + 1 => insX (keys.getD i default) (vals.getD i default) (objK keys i) (objX keys vals i)

def keyed (k : ByteArray) : List Cell → List Cell
  | [] => []
  | c :: r => { c with key := k } :: r
def pcs (ks : List ByteArray) (xs : List (List Cell)) : Nat → List Cell
  | 0 => []
  | i + 1 => pcs ks xs i ++ keyed (ks.getD i default) (xs.getD i default)

theorem posK_le (key : ByteArray) : ∀ ks : List ByteArray, posK key ks ≤ ks.length
  | [] => Nat.le_refl _
  | a :: r => by
    have := posK_le key r
    rw [posK]
    split <;> simp <;> omega
theorem insK_length (key : ByteArray) (ks : List ByteArray) : (insK key ks).length ≤ ks.length + 1 := by
  have := posK_le key ks
  unfold insK
  split
  · omega
  · simp; omega
theorem insX_length {α : Type} (key : ByteArray) (x : α) (ks : List ByteArray) (xs : List α) (h : xs.length = ks.length) : (insX key x ks xs).length = (insK key ks).length := by
  have := posK_le key ks
  unfold insX insK
  split
  · simp [h]
  · simp [h]
theorem insX_mem {α : Type} (key : ByteArray) (x : α) (ks : List ByteArray) (xs : List α) : ∀ y ∈ insX key x ks xs, y = x ∨ y ∈ xs := by
  intro y hy
  unfold insX at hy
  split at hy
  · rcases List.mem_or_eq_of_mem_set hy with h | h
    · exact .inr h
    · exact .inl h
  · rcases List.mem_append.1 hy with h | h
    · exact .inr (List.mem_of_mem_take h)
    · rcases List.mem_cons.1 h with h | h
      · exact .inl h
      · exact .inr (List.mem_of_mem_drop h)
theorem keyed_length (k : ByteArray) : ∀ x : List Cell, (keyed k x).length = x.length
  | [] => rfl
  | c :: r => rfl
theorem pcs_length (ks : List ByteArray) {xs : List (List Cell)} {M : Nat} (h : ∀ x ∈ xs, x.length ≤ M) : ∀ i, i ≤ xs.length → (pcs ks xs i).length ≤ i * M
  | 0, _ => by simp [pcs]
  | i + 1, hi => by
    have := pcs_length ks h i (by omega)
    have h2 := h _ (getD_mem' (show i < xs.length by omega))
    simp only [pcs, List.length_append, keyed_length, Nat.add_mul]
    omega

theorem ins_rows {α : Type} (f : α → List D) (xs : List α) (x : α) (j : Nat) :
    ([] ++ ((xs.map f).drop (Int.toNat 0)).take (Int.toNat (j : Int) - Int.toNat 0)) ++ [f x] ++ ((xs.map f).drop (Int.toNat (j : Int))).take (Int.toNat ((xs.map f).length : Int) - Int.toNat (j : Int)) = (xs.take j ++ x :: xs.drop j).map f := by
  simp only [Int.toNat_natCast, Int.toNat_zero, List.drop_zero, Nat.sub_zero, List.nil_append, List.map_append, List.map_cons, List.map_take, List.map_drop, List.append_assoc, List.singleton_append]
  rw [List.take_of_length_le (l := ((xs.map f).drop j)) (by simp)]

set_option maxHeartbeats 8000000 in
theorem l1ObjectS_fn (keys : List ByteArray) (vals : List (List Cell)) (M : Nat) (hl : keys.length = vals.length) (h1 : keys.length ≤ 1000) (hM : keys.length * M ≤ 1000000) (hM1 : M ≤ 1000000) (hx : ∀ x ∈ vals, x ≠ [] ∧ x.length ≤ M) :
    Fun env.P 120 [.sl 1 (keys.map keyRow), cellssD vals] (.og 0 0) [.gr 5 91 ((⟨6, 0, noS, noS, ((objK keys keys.length).length : Int)⟩ :: pcs (objK keys keys.length) (objX keys vals keys.length) (objK keys keys.length).length : List Cell).map Cell.row) 0 false] := by
  refine Fun.intro Try.func120 rfl (by kernel_rfl) rfl ?_
  repeat' (first | refine W.seq ?_ | refine W.rg ?_ | refine W.dra' ?_ | refine W.block ?_ | refine W.skip ?_ | refine W.exit ?_ | refine W.cond_true' ?_ | refine W.cond_false' ?_ | refine WG.nil ?_ | refine WG.run' (E := env) ?_ | refine WG.gt' ?_ | refine WG.gf' ?_ | refine WG.ixm' (E := env) ?_ | refine WG.ixo' (E := env) ?_ | refine WG.legm' (E := env) ?_ | refine WG.slS' (E := env) ?_ | refine WG.slD' (E := env) ?_ | refine WG.ap' (E := env) ?_ | refine WD.nil ?_ | refine WD.bs' (E := env) ?_ | refine WD.s' (E := env) (t := .d _) ?_ | refine WD.p' ?_ | refine WD.px' ?_ | refine WD.s' (E := env) (t := .ea _ _) ?_ | refine WD.s' (E := env) (t := .lp _ _) ?_ | refine WD.s' (E := env) (t := .og _ _) ?_ | refine WD.s' (E := env) (t := .agg _) ?_ | refine WD.s' (E := env) (t := .tup _) ?_ | refine WD.s' (E := env) (t := .clo _ _) ?_ | refine WD.ixm' (E := env) ?_ | refine WD.ixo' (E := env) ?_ | refine WD.legm' (E := env) ?_ | refine WD.slS' (E := env) ?_ | refine WD.slD' (E := env) ?_ | ((first | refine WG.sp' (fun h => ?_) fun h => ?_ | refine W.cond' (fun h => ?_) fun h => ?_ | refine WD.sp' (fun h => ?_) fun h => ?_) <;> (try simp only [decide_eq_true_eq, decide_eq_false_iff_not, Bool.not_eq_true', Bool.not_eq_false', Bool.and_eq_true, Bool.or_eq_true, Bool.and_eq_false_iff, Bool.or_eq_false_iff, Bool.not_eq_true, Bool.not_eq_false, Int.not_lt, Int.not_le, List.length_map, beq_self_eq_true, Bool.true_eq_false, Bool.false_eq_true] at h) <;> (try (exfalso; first | contradiction | omega))))
  refine W.loopI (fun m S => ∃ (i : Nat) (ks : List ByteArray) (xs : List (List Cell)) (rk rx : List (List D)), m = keys.length - i ∧ (i ≤ keys.length ∧ ks.length ≤ i ∧ xs.length = ks.length ∧ ks = objK keys i ∧ xs = objX keys vals i ∧ (∀ x ∈ xs, x ≠ [] ∧ x.length ≤ M) ∧ rk = ks.map keyRow ∧ rx = xs.map cellsR) ∧
    S = ⟨ofL [(0, .d (.sl 1 (keys.map keyRow))), (1, .d (cellssD vals)), (5, .og 0 0), (6, .og 1 0), (7, vI .i64 i)],
      [.gr 1 9 rk 0 false, .gr 1 24 rx 0 false]⟩) _ _ ⟨0, [], [], [], [], rfl, ⟨by omega, by simp, rfl, rfl, rfl, fun x hx => by simp at hx, rfl, rfl⟩, rfl⟩ (St.imp.of_le (by (refine le_ofL rfl ?_ ?_ <;> (repeat (first | exact trivial | refine ⟨⟨rfl, rfl⟩, ?_⟩ | refine ⟨rfl, .inl rfl, ?_⟩ | refine ⟨rfl, .inr rfl, ?_⟩))))) ?_
  rintro m S ⟨i, ks, xs, rk, rx, rfl, ⟨hi, hkl, hxl, ek, ex, hxs, rfl, rfl⟩, rfl⟩
  have hnew : ∀ (hlt : i < keys.length), ∀ x ∈ insX (keys.getD i default) (vals.getD i default) ks xs, x ≠ [] ∧ x.length ≤ M := fun hlt x hx' => by
    rcases insX_mem _ _ _ _ x hx' with rfl | h
    · exact hx _ (getD_mem' (by omega))
    · exact hxs x h
  by_cases hlt : i < keys.length
  · replace hnew := hnew hlt
    repeat' (first | refine W.seq ?_ | refine W.rg ?_ | refine W.dra' ?_ | refine W.block ?_ | refine W.skip ?_ | refine W.exit ?_ | refine W.cond_true' ?_ | refine W.cond_false' ?_ | refine WG.nil ?_ | refine WG.run' (E := env) ?_ | refine WG.gt' ?_ | refine WG.gf' ?_ | refine WG.ixm' (E := env) ?_ | refine WG.ixo' (E := env) ?_ | refine WG.legm' (E := env) ?_ | refine WG.slS' (E := env) ?_ | refine WG.slD' (E := env) ?_ | refine WG.ap' (E := env) ?_ | refine WD.nil ?_ | refine WD.bs' (E := env) ?_ | refine WD.s' (E := env) (t := .d _) ?_ | refine WD.p' ?_ | refine WD.px' ?_ | refine WD.s' (E := env) (t := .ea _ _) ?_ | refine WD.s' (E := env) (t := .lp _ _) ?_ | refine WD.s' (E := env) (t := .og _ _) ?_ | refine WD.s' (E := env) (t := .agg _) ?_ | refine WD.s' (E := env) (t := .tup _) ?_ | refine WD.s' (E := env) (t := .clo _ _) ?_ | refine WD.ixm' (E := env) ?_ | refine WD.ixo' (E := env) ?_ | refine WD.legm' (E := env) ?_ | refine WD.slS' (E := env) ?_ | refine WD.slD' (E := env) ?_ | ((first | refine WG.sp' (fun h => ?_) fun h => ?_ | refine W.cond' (fun h => ?_) fun h => ?_ | refine WD.sp' (fun h => ?_) fun h => ?_) <;> (try simp only [decide_eq_true_eq, decide_eq_false_iff_not, Bool.not_eq_true', Bool.not_eq_false', Bool.and_eq_true, Bool.or_eq_true, Bool.and_eq_false_iff, Bool.or_eq_false_iff, Bool.not_eq_true, Bool.not_eq_false, Int.not_lt, Int.not_le, List.length_map, beq_self_eq_true, Bool.true_eq_false, Bool.false_eq_true] at h) <;> (try (exfalso; first | contradiction | omega))))
    refine W.loopI (fun m S => ∃ (j : Nat), m = ks.length - j ∧ (j ≤ ks.length ∧ ∀ p, p < j → lessK (ks.getD p default) (keys.getD i default) = true) ∧
      S = ⟨ofL [(0, .d (.sl 1 (keys.map keyRow))), (1, .d (cellssD vals)), (5, .og 0 0), (6, .og 1 0), (7, vI .i64 i), (8, vI .i64 j)],
        [.gr 1 9 (ks.map keyRow) 0 false, .gr 1 24 (xs.map cellsR) 0 false]⟩) _ _ ⟨0, rfl, ⟨by omega, fun p hp => by omega⟩, rfl⟩ (St.imp.of_le (by (refine le_ofL rfl ?_ ?_ <;> (repeat (first | exact trivial | refine ⟨⟨rfl, rfl⟩, ?_⟩ | refine ⟨rfl, .inl rfl, ?_⟩ | refine ⟨rfl, .inr rfl, ?_⟩))))) ?_
    rintro m S ⟨j, rfl, ⟨hj, hle⟩, rfl⟩
    repeat' (first | (refine W.pubD 0 rfl ?_; refine W.dre' (id := 11) [0, 4, 10, 14] (fun f => [.gr 1 9 (bif bt f 8 then ((([] ++ (((ks.map keyRow).drop (Int.toNat 0)).take (Int.toNat (j : Int) - Int.toNat 0))) ++ [keyRow (keys.getD (Int.toNat (i : Int)) default)]) ++ (((ks.map keyRow).drop (Int.toNat (j : Int))).take (Int.toNat ((ks.map keyRow).length : Int) - Int.toNat (j : Int)))) else bif bt f 4 then (([] ++ (((ks.map keyRow).drop (Int.toNat 0)).take (Int.toNat (j : Int) - Int.toNat 0))) ++ [keyRow (keys.getD (Int.toNat (i : Int)) default)]) else bif bt f 2 then ([] ++ (((ks.map keyRow).drop (Int.toNat 0)).take (Int.toNat (j : Int) - Int.toNat 0))) else bif bt f 1 then [] else (ks.map keyRow)) (bif bt f 8 then 4 else bif bt f 4 then 3 else bif bt f 2 then 2 else bif bt f 1 then 1 else 0) (!bt f 1), .gr 1 24 (xs.map cellsR) 0 false]) [(1, [0]), (0, [0, 1]), (0, [0, 1]), (0, [0, 1]), (2, [1]), (0, [0, 1, 3]), (0, [0, 1, 3]), (0, [0, 1, 3]), (0, [0, 1, 3]), (0, [0, 1, 3]), (4, [3]), (0, [0, 1, 3, 7]), (0, [0, 1, 3, 7]), (0, [0, 1, 3, 7]), (8, [7]), (0, [15])] [.gr 1 9 ((([] ++ (((ks.map keyRow).drop (Int.toNat 0)).take (Int.toNat (j : Int) - Int.toNat 0))) ++ [keyRow (keys.getD (Int.toNat (i : Int)) default)]) ++ (((ks.map keyRow).drop (Int.toNat (j : Int))).take (Int.toNat ((ks.map keyRow).length : Int) - Int.toNat (j : Int)))) 4 false, .gr 1 24 (xs.map cellsR) 0 false] ?_) | (refine W.pubD 1 rfl ?_; refine W.dre' (id := 12) [0, 4, 10, 14] (fun f => [.gr 1 9 ((([] ++ (((ks.map keyRow).drop (Int.toNat 0)).take (Int.toNat (j : Int) - Int.toNat 0))) ++ [keyRow (keys.getD (Int.toNat (i : Int)) default)]) ++ (((ks.map keyRow).drop (Int.toNat (j : Int))).take (Int.toNat ((ks.map keyRow).length : Int) - Int.toNat (j : Int)))) 4 false, .gr 1 24 (bif bt f 8 then ((([] ++ (((xs.map cellsR).drop (Int.toNat 0)).take (Int.toNat (j : Int) - Int.toNat 0))) ++ [cellsR (vals.getD (Int.toNat (i : Int)) default)]) ++ (((xs.map cellsR).drop (Int.toNat (j : Int))).take (Int.toNat ((xs.map cellsR).length : Int) - Int.toNat (j : Int)))) else bif bt f 4 then (([] ++ (((xs.map cellsR).drop (Int.toNat 0)).take (Int.toNat (j : Int) - Int.toNat 0))) ++ [cellsR (vals.getD (Int.toNat (i : Int)) default)]) else bif bt f 2 then ([] ++ (((xs.map cellsR).drop (Int.toNat 0)).take (Int.toNat (j : Int) - Int.toNat 0))) else bif bt f 1 then [] else (xs.map cellsR)) (bif bt f 8 then 4 else bif bt f 4 then 3 else bif bt f 2 then 2 else bif bt f 1 then 1 else 0) (!bt f 1)]) [(1, [0]), (0, [0, 1]), (0, [0, 1]), (0, [0, 1]), (2, [1]), (0, [0, 1, 3]), (0, [0, 1, 3]), (0, [0, 1, 3]), (0, [0, 1, 3]), (0, [0, 1, 3]), (4, [3]), (0, [0, 1, 3, 7]), (0, [0, 1, 3, 7]), (0, [0, 1, 3, 7]), (8, [7]), (0, [15])] [.gr 1 9 ((([] ++ (((ks.map keyRow).drop (Int.toNat 0)).take (Int.toNat (j : Int) - Int.toNat 0))) ++ [keyRow (keys.getD (Int.toNat (i : Int)) default)]) ++ (((ks.map keyRow).drop (Int.toNat (j : Int))).take (Int.toNat ((ks.map keyRow).length : Int) - Int.toNat (j : Int)))) 4 false, .gr 1 24 ((([] ++ (((xs.map cellsR).drop (Int.toNat 0)).take (Int.toNat (j : Int) - Int.toNat 0))) ++ [cellsR (vals.getD (Int.toNat (i : Int)) default)]) ++ (((xs.map cellsR).drop (Int.toNat (j : Int))).take (Int.toNat ((xs.map cellsR).length : Int) - Int.toNat (j : Int)))) 4 false] ?_) | refine WE.bsF 0 0 ?_ | refine WE.bsF 1 0 ?_ | refine WE.nil ?_ | refine WE.ixP' ?_ | refine WE.s' (E := env) (t := .d _) ?_ | refine WE.p' ?_ | refine WE.px' ?_ | refine WE.s' (E := env) (t := .lp _ _) ?_ | refine WE.s' (E := env) (t := .og _ _) ?_ | refine WE.s' (E := env) (t := .ea _ _) ?_ | refine WE.s' (E := env) (t := .agg _) ?_ | refine WE.s' (E := env) (t := .tup _) ?_ | refine WE.ixm' (E := env) ?_ | refine WE.ixo' (E := env) ?_ | refine WE.leg' (E := env) ?_ | refine WE.slS' (E := env) ?_ | refine WE.slD' (E := env) ?_ | refine WE.ap' (E := env) ?_ | refine WE.st' (E := env) ?_ | refine WE.seg' (E := env) ?_ | refine WE.bs' (E := env) ?_ | refine W.seq ?_ | refine W.rg ?_ | refine W.dra' ?_ | refine W.block ?_ | refine W.skip ?_ | refine W.exit ?_ | refine W.cond_true' ?_ | refine W.cond_false' ?_ | refine WG.nil ?_ | refine WG.run' (E := env) ?_ | refine WG.gt' ?_ | refine WG.gf' ?_ | refine WG.ixm' (E := env) ?_ | refine WG.ixo' (E := env) ?_ | refine WG.legm' (E := env) ?_ | refine WG.slS' (E := env) ?_ | refine WG.slD' (E := env) ?_ | refine WG.ap' (E := env) ?_ | refine WD.nil ?_ | refine WD.bs' (E := env) ?_ | refine WD.s' (E := env) (t := .d _) ?_ | refine WD.p' ?_ | refine WD.px' ?_ | refine WD.s' (E := env) (t := .ea _ _) ?_ | refine WD.s' (E := env) (t := .lp _ _) ?_ | refine WD.s' (E := env) (t := .og _ _) ?_ | refine WD.s' (E := env) (t := .agg _) ?_ | refine WD.s' (E := env) (t := .tup _) ?_ | refine WD.s' (E := env) (t := .clo _ _) ?_ | refine WD.ixm' (E := env) ?_ | refine WD.ixo' (E := env) ?_ | refine WD.legm' (E := env) ?_ | refine WD.slS' (E := env) ?_ | refine WD.slD' (E := env) ?_ | fail | ((first | refine WG.sp' (fun h => ?_) fun h => ?_ | refine W.cond' (fun h => ?_) fun h => ?_ | refine WD.sp' (fun h => ?_) fun h => ?_) <;> (try simp only [decide_eq_true_eq, decide_eq_false_iff_not, Bool.not_eq_true', Bool.not_eq_false', Bool.and_eq_true, Bool.or_eq_true, Bool.and_eq_false_iff, Bool.or_eq_false_iff, Bool.not_eq_true, Bool.not_eq_false, Int.not_lt, Int.not_le, List.length_map, beq_self_eq_true, Bool.true_eq_false, Bool.false_eq_true] at h) <;> (try (exfalso; first | contradiction | omega))))
    all_goals (try simp only [Int.toNat_natCast] at *)
    · refine ⟨_, _, by omega, ⟨j + 1, rfl, ⟨by omega, fun p hp => ?_⟩, rfl⟩, (St.imp.of_le (by (refine le_ofL rfl ?_ ?_ <;> (repeat (first | exact trivial | refine ⟨⟨rfl, rfl⟩, ?_⟩ | refine ⟨rfl, .inl rfl, ?_⟩ | refine ⟨rfl, .inr rfl, ?_⟩)))))⟩
      by_cases e : p = j
      · subst e; assumption
      · exact hle p (by omega)
    · have hn : lessK (ks.getD j default) (keys.getD i default) = false := by assumption
      have hq : ks.getD j default = keys.getD i default := by assumption
      have hp : posK (keys.getD i default) ks = j := posK_of _ ks j hj hle fun _ => hn
      have hh : hasK ks (keys.getD i default) = true := by rw [hasK, hp, decide_eq_true (by omega), decide_eq_true hq]; rfl
      have e1 : insK (keys.getD i default) ks = ks := by rw [insK, if_pos hh]
      have e2 : insX (keys.getD i default) (vals.getD i default) ks xs = xs.set j (vals.getD i default) := by rw [insX, if_pos hh, hp]
      repeat' (first | refine WG.stE (E := env) rfl rfl rfl rfl (map_row cellsR xs (j : Int) ⟨by omega, by omega⟩) rfl rfl rfl rfl ?_ | refine W.seq ?_ | refine W.rg ?_ | refine W.dra' ?_ | refine W.block ?_ | refine W.skip ?_ | refine W.exit ?_ | refine W.cond_true' ?_ | refine W.cond_false' ?_ | refine WG.nil ?_ | refine WG.run' (E := env) ?_ | refine WG.gt' ?_ | refine WG.gf' ?_ | refine WG.ixm' (E := env) ?_ | refine WG.ixo' (E := env) ?_ | refine WG.legm' (E := env) ?_ | refine WG.slS' (E := env) ?_ | refine WG.slD' (E := env) ?_ | refine WG.ap' (E := env) ?_ | refine WD.nil ?_ | refine WD.bs' (E := env) ?_ | refine WD.s' (E := env) (t := .d _) ?_ | refine WD.p' ?_ | refine WD.px' ?_ | refine WD.s' (E := env) (t := .ea _ _) ?_ | refine WD.s' (E := env) (t := .lp _ _) ?_ | refine WD.s' (E := env) (t := .og _ _) ?_ | refine WD.s' (E := env) (t := .agg _) ?_ | refine WD.s' (E := env) (t := .tup _) ?_ | refine WD.s' (E := env) (t := .clo _ _) ?_ | refine WD.ixm' (E := env) ?_ | refine WD.ixo' (E := env) ?_ | refine WD.legm' (E := env) ?_ | refine WD.slS' (E := env) ?_ | refine WD.slD' (E := env) ?_ | fail | ((first | refine WG.sp' (fun h => ?_) fun h => ?_ | refine W.cond' (fun h => ?_) fun h => ?_ | refine WD.sp' (fun h => ?_) fun h => ?_) <;> (try simp only [decide_eq_true_eq, decide_eq_false_iff_not, Bool.not_eq_true', Bool.not_eq_false', Bool.and_eq_true, Bool.or_eq_true, Bool.and_eq_false_iff, Bool.or_eq_false_iff, Bool.not_eq_true, Bool.not_eq_false, Int.not_lt, Int.not_le, List.length_map, beq_self_eq_true, Bool.true_eq_false, Bool.false_eq_true] at h) <;> (try (exfalso; first | contradiction | omega))))
      refine ⟨_, _, by omega, ⟨i + 1, insK (keys.getD i default) ks, insX (keys.getD i default) (vals.getD i default) ks xs, _, _, rfl, ⟨by omega, Nat.le_trans (insK_length _ _) (by omega), insX_length _ _ _ _ hxl, by rw [ek]; rfl, by rw [ex, ek]; rfl, hnew, ?_, ?_⟩, rfl⟩, (St.imp.of_le (by (refine le_ofL rfl ?_ ?_ <;> (repeat (first | exact trivial | refine ⟨⟨rfl, rfl⟩, ?_⟩ | refine ⟨rfl, .inl rfl, ?_⟩ | refine ⟨rfl, .inr rfl, ?_⟩)))))⟩
      · rw [e1]
      · rw [e2, List.map_set]; rfl
    · have hn : lessK (ks.getD j default) (keys.getD i default) = false := by assumption
      have hne : ¬ ks.getD j default = keys.getD i default := by assumption
      have hp : posK (keys.getD i default) ks = j := posK_of _ ks j hj hle fun _ => hn
      have hh : hasK ks (keys.getD i default) = false := by rw [hasK, hp, decide_eq_false hne, Bool.and_false]
      have e1 : insK (keys.getD i default) ks = ks.take j ++ keys.getD i default :: ks.drop j := by rw [insK, if_neg (by rw [hh]; simp), hp]
      have e2 : insX (keys.getD i default) (vals.getD i default) ks xs = xs.take j ++ vals.getD i default :: xs.drop j := by rw [insX, if_neg (by rw [hh]; simp), hp]
      refine ⟨_, _, by omega, ⟨i + 1, insK (keys.getD i default) ks, insX (keys.getD i default) (vals.getD i default) ks xs, _, _, rfl, ⟨by omega, Nat.le_trans (insK_length _ _) (by omega), insX_length _ _ _ _ hxl, by rw [ek]; rfl, by rw [ex, ek]; rfl, hnew, ?_, ?_⟩, rfl⟩, (St.imp.rev 0 4 rfl).trans ((St.imp.rev 1 4 rfl).trans (St.imp.of_le (by (refine le_ofL rfl ?_ ?_ <;> (repeat (first | exact trivial | refine ⟨⟨rfl, rfl⟩, ?_⟩ | refine ⟨rfl, .inl rfl, ?_⟩ | refine ⟨rfl, .inr rfl, ?_⟩))))))⟩
      · rw [e1]; exact ins_rows keyRow ks (keys.getD i default) j
      · rw [e2]; exact ins_rows cellsR xs (vals.getD i default) j
    · have hp : posK (keys.getD i default) ks = j := posK_of _ ks j hj hle fun _ => by omega
      have hh : hasK ks (keys.getD i default) = false := by rw [hasK, hp, decide_eq_false (by omega), Bool.false_and]
      have e1 : insK (keys.getD i default) ks = ks.take j ++ keys.getD i default :: ks.drop j := by rw [insK, if_neg (by rw [hh]; simp), hp]
      have e2 : insX (keys.getD i default) (vals.getD i default) ks xs = xs.take j ++ vals.getD i default :: xs.drop j := by rw [insX, if_neg (by rw [hh]; simp), hp]
      refine ⟨_, _, by omega, ⟨i + 1, insK (keys.getD i default) ks, insX (keys.getD i default) (vals.getD i default) ks xs, _, _, rfl, ⟨by omega, Nat.le_trans (insK_length _ _) (by omega), insX_length _ _ _ _ hxl, by rw [ek]; rfl, by rw [ex, ek]; rfl, hnew, ?_, ?_⟩, rfl⟩, (St.imp.rev 0 4 rfl).trans ((St.imp.rev 1 4 rfl).trans (St.imp.of_le (by (refine le_ofL rfl ?_ ?_ <;> (repeat (first | exact trivial | refine ⟨⟨rfl, rfl⟩, ?_⟩ | refine ⟨rfl, .inl rfl, ?_⟩ | refine ⟨rfl, .inr rfl, ?_⟩))))))⟩
      · rw [e1]; exact ins_rows keyRow ks (keys.getD i default) j
      · rw [e2]; exact ins_rows cellsR xs (vals.getD i default) j
  · obtain rfl : i = keys.length := by omega
    have hlim := fun i hi => pcs_length ks (fun x hx => (hxs x hx).2) i hi
    rw [← ek, ← ex]
    refine W.pubD 0 rfl ?_
    refine W.pubD 1 rfl ?_
    repeat' (first | refine W.seq ?_ | refine W.rg ?_ | refine W.dra' ?_ | refine W.block ?_ | refine W.skip ?_ | refine W.exit ?_ | refine W.cond_true' ?_ | refine W.cond_false' ?_ | refine WG.nil ?_ | refine WG.run' (E := env) ?_ | refine WG.gt' ?_ | refine WG.gf' ?_ | refine WG.ixm' (E := env) ?_ | refine WG.ixo' (E := env) ?_ | refine WG.legm' (E := env) ?_ | refine WG.slS' (E := env) ?_ | refine WG.slD' (E := env) ?_ | refine WG.ap' (E := env) ?_ | refine WD.nil ?_ | refine WD.bs' (E := env) ?_ | refine WD.s' (E := env) (t := .d _) ?_ | refine WD.p' ?_ | refine WD.px' ?_ | refine WD.s' (E := env) (t := .ea _ _) ?_ | refine WD.s' (E := env) (t := .lp _ _) ?_ | refine WD.s' (E := env) (t := .og _ _) ?_ | refine WD.s' (E := env) (t := .agg _) ?_ | refine WD.s' (E := env) (t := .tup _) ?_ | refine WD.s' (E := env) (t := .clo _ _) ?_ | refine WD.ixm' (E := env) ?_ | refine WD.ixo' (E := env) ?_ | refine WD.legm' (E := env) ?_ | refine WD.slS' (E := env) ?_ | refine WD.slD' (E := env) ?_ | ((first | refine WG.sp' (fun h => ?_) fun h => ?_ | refine W.cond' (fun h => ?_) fun h => ?_ | refine WD.sp' (fun h => ?_) fun h => ?_) <;> (try simp only [decide_eq_true_eq, decide_eq_false_iff_not, Bool.not_eq_true', Bool.not_eq_false', Bool.and_eq_true, Bool.or_eq_true, Bool.and_eq_false_iff, Bool.or_eq_false_iff, Bool.not_eq_true, Bool.not_eq_false, Int.not_lt, Int.not_le, List.length_map, beq_self_eq_true, Bool.true_eq_false, Bool.false_eq_true] at h) <;> (try (exfalso; first | contradiction | omega))))
    refine W.loopI (fun m S => ∃ (i : Nat) (rv : List (List D)) (z0 : Nat) (e0 : TypeId) (r0 : List (List D)) (p0 : Bool), m = ks.length - i ∧ (i ≤ ks.length ∧ rv = (pcs ks xs i).map Cell.row) ∧
      S = ⟨ofL [(5, .d (.sl 1 (ks.map keyRow))), (6, .d (cellssD xs)), (9, .og 2 0), (10, vI .i64 i)],
        [.gr z0 e0 r0 0 p0, .gr 1 24 (xs.map cellsR) 0 true, .gr 5 91 (Cell.row ⟨6, 0, noS, noS, ((ks.map keyRow).length : Int)⟩ :: rv) 0 false]⟩) _ _ ⟨0, [], _, _, _, _, rfl, ⟨by omega, rfl⟩, rfl⟩ (St.imp.of_le (by (refine le_ofL rfl ?_ ?_ <;> (repeat (first | exact trivial | refine ⟨⟨rfl, rfl⟩, ?_⟩ | refine ⟨rfl, .inl rfl, ?_⟩ | refine ⟨rfl, .inr rfl, ?_⟩))))) ?_
    rintro m S ⟨i, rv, z0, e0, r0, p0, rfl, ⟨hi, hrv⟩, rfl⟩
    have hM2 : i * M ≤ 1000000 := Nat.le_trans (Nat.mul_le_mul_right M (show i ≤ keys.length by omega)) hM
    have hrl : rv.length ≤ 1000000 := by rw [hrv, List.length_map]; exact Nat.le_trans (hlim i (by omega)) hM2
    by_cases hlt2 : i < ks.length
    · have hgx := hxs _ (getD_mem' (show i < xs.length by omega))
      obtain ⟨c, r, hc⟩ : ∃ c r, xs.getD i default = c :: r := by
        cases hg : xs.getD i default with
        | nil => exact absurd hg hgx.1
        | cons c r => exact ⟨c, r, rfl⟩
      have hc' : xs.getD (Int.toNat (i : Int)) default = c :: r := by rw [Int.toNat_natCast]; exact hc
      have hcl : (xs.getD (Int.toNat (i : Int)) default).length ≤ 1000000 := by rw [hc', ← hc]; omega
      have hrl2 : r.length + 1 ≤ 1000000 := by have := hgx.2; rw [hc, List.length_cons] at this; omega
      repeat' (first | refine WG.bsF (E := env) 0 0 ?_ | refine W.seq ?_ | refine W.rg ?_ | refine W.dra' ?_ | refine W.block ?_ | refine W.skip ?_ | refine W.exit ?_ | refine W.cond_true' ?_ | refine W.cond_false' ?_ | refine WG.nil ?_ | refine WG.run' (E := env) ?_ | refine WG.gt' ?_ | refine WG.gf' ?_ | refine WG.ixm' (E := env) ?_ | refine WG.ixo' (E := env) ?_ | refine WG.legm' (E := env) ?_ | refine WG.slS' (E := env) ?_ | refine WG.slD' (E := env) ?_ | refine WG.ap' (E := env) ?_ | refine WD.nil ?_ | refine WD.bs' (E := env) ?_ | refine WD.s' (E := env) (t := .d _) ?_ | refine WD.p' ?_ | refine WD.px' ?_ | refine WD.s' (E := env) (t := .ea _ _) ?_ | refine WD.s' (E := env) (t := .lp _ _) ?_ | refine WD.s' (E := env) (t := .og _ _) ?_ | refine WD.s' (E := env) (t := .agg _) ?_ | refine WD.s' (E := env) (t := .tup _) ?_ | refine WD.s' (E := env) (t := .clo _ _) ?_ | refine WD.ixm' (E := env) ?_ | refine WD.ixo' (E := env) ?_ | refine WD.legm' (E := env) ?_ | refine WD.slS' (E := env) ?_ | refine WD.slD' (E := env) ?_ | fail | ((first | refine WG.sp' (fun h => ?_) fun h => ?_ | refine W.cond' (fun h => ?_) fun h => ?_ | refine WD.sp' (fun h => ?_) fun h => ?_) <;> (try simp only [decide_eq_true_eq, decide_eq_false_iff_not, Bool.not_eq_true', Bool.not_eq_false', Bool.and_eq_true, Bool.or_eq_true, Bool.and_eq_false_iff, Bool.or_eq_false_iff, Bool.not_eq_true, Bool.not_eq_false, Int.not_lt, Int.not_le, List.length_map, beq_self_eq_true, Bool.true_eq_false, Bool.false_eq_true] at h) <;> (try (exfalso; first | contradiction | omega))))
      rw [hc']
      repeat' (first | refine WG.ixo (E := env) rfl rfl rfl rfl rfl rfl rfl rfl ⟨by omega, by simp only [List.length_append, List.length_nil, List.length_map, List.length_cons]; omega⟩ ?_ | refine WG.stE (E := env) rfl rfl rfl rfl rfl rfl rfl rfl rfl ?_ | refine WG.ap (E := env) rfl rfl rfl rfl rfl rfl rfl rfl rfl rfl rfl (by show (List.length (_ :: rv) + List.length (List.set _ _ _)) * 56 ≤ _; simp only [List.length_cons, List.length_set, List.length_append, List.length_nil, List.length_map]; omega) ?_ | refine W.seq ?_ | refine W.rg ?_ | refine W.dra' ?_ | refine W.block ?_ | refine W.skip ?_ | refine W.exit ?_ | refine W.cond_true' ?_ | refine W.cond_false' ?_ | refine WG.nil ?_ | refine WG.run' (E := env) ?_ | refine WG.gt' ?_ | refine WG.gf' ?_ | refine WG.ixm' (E := env) ?_ | refine WG.ixo' (E := env) ?_ | refine WG.legm' (E := env) ?_ | refine WG.slS' (E := env) ?_ | refine WG.slD' (E := env) ?_ | refine WG.ap' (E := env) ?_ | refine WD.nil ?_ | refine WD.bs' (E := env) ?_ | refine WD.s' (E := env) (t := .d _) ?_ | refine WD.p' ?_ | refine WD.px' ?_ | refine WD.s' (E := env) (t := .ea _ _) ?_ | refine WD.s' (E := env) (t := .lp _ _) ?_ | refine WD.s' (E := env) (t := .og _ _) ?_ | refine WD.s' (E := env) (t := .agg _) ?_ | refine WD.s' (E := env) (t := .tup _) ?_ | refine WD.s' (E := env) (t := .clo _ _) ?_ | refine WD.ixm' (E := env) ?_ | refine WD.ixo' (E := env) ?_ | refine WD.legm' (E := env) ?_ | refine WD.slS' (E := env) ?_ | refine WD.slD' (E := env) ?_ | fail | ((first | refine WG.sp' (fun h => ?_) fun h => ?_ | refine W.cond' (fun h => ?_) fun h => ?_ | refine WD.sp' (fun h => ?_) fun h => ?_) <;> (try simp only [decide_eq_true_eq, decide_eq_false_iff_not, Bool.not_eq_true', Bool.not_eq_false', Bool.and_eq_true, Bool.or_eq_true, Bool.and_eq_false_iff, Bool.or_eq_false_iff, Bool.not_eq_true, Bool.not_eq_false, Int.not_lt, Int.not_le, List.length_map, beq_self_eq_true, Bool.true_eq_false, Bool.false_eq_true] at h) <;> (try (exfalso; first | contradiction | omega))))
      refine ⟨_, _, by omega, ⟨i + 1, _, _, _, _, _, rfl, ⟨by omega, ?_⟩, rfl⟩, (St.imp.rev 0 2 rfl).trans ((St.imp.rev 2 1 rfl).trans (St.imp.of_le (by (refine le_ofL rfl ?_ ?_ <;> (repeat (first | exact trivial | refine ⟨⟨rfl, rfl⟩, ?_⟩ | refine ⟨rfl, .inl rfl, ?_⟩ | refine ⟨rfl, .inr rfl, ?_⟩))))))⟩
      rw [show pcs ks xs (i + 1) = pcs ks xs i ++ keyed (ks.getD i default) (xs.getD i default) from rfl, hc, List.map_append, ← hrv]
      rfl
    · obtain rfl : i = ks.length := by omega
      repeat' (first | refine W.seq ?_ | refine W.rg ?_ | refine W.dra' ?_ | refine W.block ?_ | refine W.skip ?_ | refine W.exit ?_ | refine W.cond_true' ?_ | refine W.cond_false' ?_ | refine WG.nil ?_ | refine WG.run' (E := env) ?_ | refine WG.gt' ?_ | refine WG.gf' ?_ | refine WG.ixm' (E := env) ?_ | refine WG.ixo' (E := env) ?_ | refine WG.legm' (E := env) ?_ | refine WG.slS' (E := env) ?_ | refine WG.slD' (E := env) ?_ | refine WG.ap' (E := env) ?_ | refine WD.nil ?_ | refine WD.bs' (E := env) ?_ | refine WD.s' (E := env) (t := .d _) ?_ | refine WD.p' ?_ | refine WD.px' ?_ | refine WD.s' (E := env) (t := .ea _ _) ?_ | refine WD.s' (E := env) (t := .lp _ _) ?_ | refine WD.s' (E := env) (t := .og _ _) ?_ | refine WD.s' (E := env) (t := .agg _) ?_ | refine WD.s' (E := env) (t := .tup _) ?_ | refine WD.s' (E := env) (t := .clo _ _) ?_ | refine WD.ixm' (E := env) ?_ | refine WD.ixo' (E := env) ?_ | refine WD.legm' (E := env) ?_ | refine WD.slS' (E := env) ?_ | refine WD.slD' (E := env) ?_ | ((first | refine WG.sp' (fun h => ?_) fun h => ?_ | refine W.cond' (fun h => ?_) fun h => ?_ | refine WD.sp' (fun h => ?_) fun h => ?_) <;> (try simp only [decide_eq_true_eq, decide_eq_false_iff_not, Bool.not_eq_true', Bool.not_eq_false', Bool.and_eq_true, Bool.or_eq_true, Bool.and_eq_false_iff, Bool.or_eq_false_iff, Bool.not_eq_true, Bool.not_eq_false, Int.not_lt, Int.not_le, List.length_map, beq_self_eq_true, Bool.true_eq_false, Bool.false_eq_true] at h) <;> (try (exfalso; first | contradiction | omega))))
      (refine W.ret ?_; first | refine RetR.g' ?_ | refine RetR.ag' ?_ ?_ | refine RetR.agn' ?_ | exact RetR.gn' | refine RetR.ag3' ?_ ?_ ?_ | refine RetR.agn3' ?_ ?_)
      rw [hrv, List.length_map]
      rfl

end Go.Proofs.Ytlegadpbjccelaa
