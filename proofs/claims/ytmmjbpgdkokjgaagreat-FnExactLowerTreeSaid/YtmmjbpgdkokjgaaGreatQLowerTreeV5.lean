/-
  Texts of this claim in one. Conditions: none.
-/
import Derived.Test.YtmmjbpgdkokjgaaGreatQLowerTreeHead
import Derived.Test.YtmmjbpgdkokjgaaGreatQLowerTreeOr1
import Derived.Test.YtmmjbpgdkokjgaaGreatQLowerTreePgD
section
set_option linter.unusedVariables false
set_option linter.unusedSimpArgs false
set_option maxRecDepth 100000
namespace Go.Proofs.YtmmjbpgdkokjgaaGreat
open Go.RowKit

def Cell.fit (c : Cell) : Prop := c.text.size ≤ maxLen ∧ c.key.size ≤ maxLen

theorem eqCell_fn (a b : Cell) : Fun env.P 100 [.agg a.row, .agg b.row] (.d (dB (decide (a = b)))) [] := by
  have e : a = b ↔ a.kind = b.kind ∧ a.num = b.num ∧ a.text = b.text ∧ a.key = b.key ∧ a.n = b.n := by
    cases a; cases b; simp
  refine Fun.intro Tryz.func100 rfl (by kernel_rfl) rfl ?_
  repeat' (first | refine W.seq ?_ | refine W.rg ?_ | refine W.skip ?_ | refine WG.nil ?_ | refine WG.run' (E := env) ?_ | ((refine W.cond' (fun h => ?_) fun h => ?_) <;> (try simp only [atS, List.length_map, beq_self_eq_true] at h) <;> (try (exfalso; first | contradiction | omega))))
  all_goals (refine W.ret ?_; (first | refine RetQ.b' ?_))
  all_goals simp [e, *]

set_option maxHeartbeats 400000 in
theorem eqCellS_fn (xs ys : List Cell) (hm : xs.length ≤ 1048576) : Fun env.P 84 [cellsD xs, cellsD ys] (.d (dB (decide (xs = ys)))) [] := by
  refine Fun.intro Tryz.func84 rfl (by kernel_rfl) rfl ?_
  repeat' (first | refine W.seq ?_ | refine W.rg ?_ | refine W.dra' ?_ | refine W.block ?_ | refine W.skip ?_ | refine W.exit ?_ | refine WG.nil ?_ | refine WG.run' (E := env) ?_ | refine WD.nil ?_ | refine WD.s' (E := env) (t := .d _) ?_ | refine WD.s' (E := env) (t := .ea _ _) ?_ | refine WD.s' (E := env) (t := .lp _ _) ?_ | refine WD.s' (E := env) (t := .og _ _) ?_ | refine WD.s' (E := env) (t := .agg _) ?_ | refine WD.s' (E := env) (t := .tup _) ?_ | refine WD.s' (E := env) (t := .clo _ _) ?_ | refine WD.ixm' (E := env) ?_ | ((refine W.cond' (fun h => ?_) fun h => ?_) <;> (try simp only [atS, List.length_map, beq_self_eq_true] at h) <;> (try (exfalso; first | contradiction | omega))))
  · (refine W.ret ?_; (first | refine RetQ.b' ?_))
    symm
    rw [decide_eq_false_iff_not]
    rintro rfl
    exact h rfl
  refine W.loop (fun m S => ∃ (k : Nat), m = xs.length - k ∧ (k ≤ xs.length ∧ xs.take k = ys.take k) ∧ S = ⟨ofL [(0, .d (cellsD xs)), (1, .d (cellsD ys)), (5, vI .i64 k)], []⟩) _ _ ⟨0, rfl, ⟨by omega, by simp⟩, rfl⟩ (by (refine le_ofL rfl ?_ ?_ <;> (repeat (first | exact trivial | refine ⟨⟨rfl, rfl⟩, ?_⟩ | refine ⟨rfl, .inl rfl, ?_⟩ | refine ⟨rfl, .inr rfl, ?_⟩)))) ?_
  rintro m S ⟨k, rfl, ⟨hk, he⟩, rfl⟩
  repeat' (first | refine W.seq ?_ | refine W.rg ?_ | refine W.dra' ?_ | refine W.block ?_ | refine W.skip ?_ | refine W.exit ?_ | refine WG.nil ?_ | refine WG.run' (E := env) ?_ | refine WD.nil ?_ | refine WD.s' (E := env) (t := .d _) ?_ | refine WD.s' (E := env) (t := .ea _ _) ?_ | refine WD.s' (E := env) (t := .lp _ _) ?_ | refine WD.s' (E := env) (t := .og _ _) ?_ | refine WD.s' (E := env) (t := .agg _) ?_ | refine WD.s' (E := env) (t := .tup _) ?_ | refine WD.s' (E := env) (t := .clo _ _) ?_ | refine WD.ixm' (E := env) ?_ | refine WD.c (E := env) rfl rfl (eqCell_fn _ _) rfl rfl ?_ | ((refine W.cond' (fun h => ?_) fun h => ?_) <;> (try simp only [atS, List.length_map, beq_self_eq_true] at h) <;> (try (exfalso; first | contradiction | omega))))
  · (refine W.ret ?_; (first | refine RetQ.b' ?_))
    (try simp only [Int.toNat_natCast, Int.toNat_zero, toNat_cc, toNat_c1, toNat_cm1, toNat_cm] at *)
    symm
    rw [decide_eq_false_iff_not]
    rintro rfl
    contradiction
  · (try simp only [Int.toNat_natCast, Int.toNat_zero, toNat_cc, toNat_c1, toNat_cm1, toNat_cm] at *)
    exact ⟨_, _, by omega, ⟨k + 1, rfl, ⟨by omega, by rw [take_step (by omega), take_step (by omega), he]; simp only [*]⟩, rfl⟩, (by (refine le_ofL rfl ?_ ?_ <;> (repeat (first | exact trivial | refine ⟨⟨rfl, rfl⟩, ?_⟩ | refine ⟨rfl, .inl rfl, ?_⟩ | refine ⟨rfl, .inr rfl, ?_⟩))))⟩
  · (refine W.ret ?_; (first | refine RetQ.b' ?_))
    symm
    rw [decide_eq_true_eq]
    rwa [List.take_of_length_le (by omega), List.take_of_length_le (by omega)] at he

end Go.Proofs.YtmmjbpgdkokjgaaGreat
end

section
set_option linter.unusedVariables false
set_option linter.unusedSimpArgs false
set_option maxRecDepth 100000
namespace Go.Proofs.YtmmjbpgdkokjgaaGreat
open Go.RowKit

/-! ### sizes of lists, by what an element leaves -/

def szList {α : Type} (f : α → Int → Int) : List α → Int → Int
  | [], l => l
  | x :: r, l => if f x l < 0 then -1 else szList f r (f x l)

def szSl {α : Type} (f : α → Int → Int) (xs : List α) (l : Int) : Int := if l - xs.length < 0 then -1 else szList f xs (l - xs.length)

/-- An element never leaves more than there was, and -1 where there is not enough. -/
def SzOK {α : Type} (f : α → Int → Int) : Prop := ∀ x l, -1 ≤ l → -1 ≤ f x l ∧ f x l ≤ max l (-1)

/-- Each element has found what it needs. -/
theorem szList_each {α : Type} {f : α → Int → Int} (hf : SzOK f) : ∀ (xs : List α) (l : Int), -1 ≤ l → 0 ≤ szList f xs l → ∀ x ∈ xs, ∃ l', l' ≤ l ∧ -1 ≤ l' ∧ 0 ≤ f x l'
  | [], l, _, _, x, hx => by cases hx
  | c :: r, l, hl, h, x, hx => by
    unfold szList at h
    split at h
    · omega
    · rename_i hc
      have h1 := hf c l hl
      rcases List.mem_cons.1 hx with rfl | hx
      · exact ⟨l, Int.le_refl _, hl, by omega⟩
      · obtain ⟨l', h2, h3, h4⟩ := szList_each hf r (f c l) (by omega) h x hx
        refine ⟨l', ?_, h3, h4⟩
        rcases Int.le_total l (-1) with hle | hle
        · omega
        · omega

theorem szSl_each {α : Type} {f : α → Int → Int} (hf : SzOK f) (xs : List α) (l : Int) (h : 0 ≤ szSl f xs l) : (xs.length : Int) ≤ l ∧ ∀ x ∈ xs, ∃ l', l' ≤ l ∧ -1 ≤ l' ∧ 0 ≤ f x l' := by
  unfold szSl at h
  split at h
  · omega
  · rename_i hn
    refine ⟨by omega, fun x hx => ?_⟩
    obtain ⟨l', h1, h2⟩ := szList_each hf xs (l - xs.length) (by omega) h x hx
    exact ⟨l', by omega, h2⟩

/-! ### slices of slices of cells -/

def fitS (cs : List Cell) : Prop := (∀ c ∈ cs, c.fit) ∧ cs.length ≤ maxLen

end Go.Proofs.YtmmjbpgdkokjgaaGreat
end

section
set_option linter.unusedVariables false
set_option linter.unusedSimpArgs false
set_option maxRecDepth 100000
namespace Go.Proofs.YtmmjbpgdkokjgaaGreat
open Go.RowKit

set_option maxHeartbeats 400000 in
theorem within_fn (n lo hi : Int) : Fun env.P 68 [dI n, dI lo, dI hi] (.d (dB (decide (lo ≤ n) && decide (n ≤ hi)))) [] := by
  refine Fun.intro Tryz.func68 rfl (by kernel_rfl) rfl ?_
  repeat' (first | refine W.seq ?_ | refine W.rg ?_ | refine WG.nil ?_ | refine WG.run' (E := env) ?_ | ((refine WG.sp' (fun h => ?_) fun h => ?_) <;> (try simp only [atS, List.length_map, beq_self_eq_true] at h) <;> (try (exfalso; first | contradiction | omega))))
  all_goals (refine W.ret ?_; (first | refine RetQ.b' ?_))
  · simp [*]
  · have : ¬ lo ≤ n := by omega
    simp [this]

set_option maxHeartbeats 400000 in
theorem l1In_fn (n lo hi : Int) : Fun env.P 85 [dI n, dI lo, dI hi] (.d (dB (decide (lo ≤ n) && decide (n ≤ hi)))) [] := by
  refine Fun.intro Tryz.func85 rfl (by kernel_rfl) rfl ?_
  repeat' (first | refine W.seq ?_ | refine W.rg ?_ | refine WG.nil ?_ | refine WG.run' (E := env) ?_ | ((refine WG.sp' (fun h => ?_) fun h => ?_) <;> (try simp only [atS, List.length_map, beq_self_eq_true] at h) <;> (try (exfalso; first | contradiction | omega))))
  all_goals (refine W.ret ?_; (first | refine RetQ.b' ?_))
  · simp [*]
  · have : ¬ lo ≤ n := by omega
    simp [this]

set_option maxHeartbeats 400000 in
theorem isString_fn (s : ByteArray) (hs : s.size ≤ 1048576) : Fun env.P 105 [dS s] (.d (dB (okText s))) [] := by
  refine Fun.intro Tryz.func105 rfl (by kernel_rfl) rfl ?_
  repeat' (first | refine W.seq ?_ | refine W.rg ?_ | refine W.block ?_ | refine W.skip ?_ | refine W.exit ?_ | refine W.cond_true' ?_ | refine WG.nil ?_ | refine WG.run' (E := env) ?_ | ((first | refine WG.sp' (fun h => ?_) fun h => ?_ | refine W.cond' (fun h => ?_) fun h => ?_) <;> (try simp only [atS, List.length_map, beq_self_eq_true] at h) <;> (try (exfalso; first | contradiction | omega))))
  refine W.loop (fun m S => ∃ k : Nat, m = s.size - k ∧ k ≤ s.size ∧ okUpto s k = true ∧ S = ⟨ofL [(0, vS s), (5, vI .i64 s.size), (6, vI .i64 k)], []⟩) _ _ ⟨0, rfl, Nat.zero_le _, rfl, rfl⟩ (by (refine le_ofL rfl ?_ ?_ <;> (repeat (first | exact trivial | refine ⟨⟨rfl, rfl⟩, ?_⟩ | refine ⟨rfl, .inl rfl, ?_⟩ | refine ⟨rfl, .inr rfl, ?_⟩)))) ?_
  rintro m S ⟨k, rfl, hk, hok, rfl⟩
  repeat' (first | refine W.seq ?_ | refine W.rg ?_ | refine W.block ?_ | refine W.skip ?_ | refine W.exit ?_ | refine W.cond_true' ?_ | refine WG.nil ?_ | refine WG.run' (E := env) ?_ | ((first | refine WG.sp' (fun h => ?_) fun h => ?_ | refine W.cond' (fun h => ?_) fun h => ?_) <;> (try simp only [atS, List.length_map, beq_self_eq_true] at h) <;> (try (exfalso; first | contradiction | omega))))
  · (refine W.ret ?_; (first | refine RetQ.b' ?_))
    simp only [Int.toNat_natCast] at *
    have : okByte (byteAt s k) = false := by simp [okByte]; omega
    simp [okText, okUpto_false this s.size (by omega)]
  · (refine W.ret ?_; (first | refine RetQ.b' ?_))
    simp only [Int.toNat_natCast] at *
    have : okByte (byteAt s k) = false := by simp [okByte]; omega
    simp [okText, okUpto_false this s.size (by omega)]
  · simp only [Int.toNat_natCast] at *
    have : okByte (byteAt s k) = true := by simp [okByte]; omega
    exact ⟨_, _, by omega, ⟨k + 1, rfl, by omega, by simp [okUpto, hok, this], rfl⟩, (by (refine le_ofL rfl ?_ ?_ <;> (repeat (first | exact trivial | refine ⟨⟨rfl, rfl⟩, ?_⟩ | refine ⟨rfl, .inl rfl, ?_⟩ | refine ⟨rfl, .inr rfl, ?_⟩))))⟩
  · (refine W.ret ?_; (first | refine RetQ.b' ?_))
    have : k = s.size := by omega
    subst this
    simp [okText, hok]
    omega

set_option maxHeartbeats 400000 in
theorem l1Text_fn (s : ByteArray) (hs : s.size ≤ 1048576) : Fun env.P 101 [dS s] (.d (dB (okText s))) [] := by
  refine Fun.intro Tryz.func101 rfl (by kernel_rfl) rfl ?_
  repeat' (first | refine W.seq ?_ | refine W.rg ?_ | refine W.block ?_ | refine W.skip ?_ | refine W.exit ?_ | refine W.cond_true' ?_ | refine WG.nil ?_ | refine WG.run' (E := env) ?_ | ((first | refine WG.sp' (fun h => ?_) fun h => ?_ | refine W.cond' (fun h => ?_) fun h => ?_) <;> (try simp only [atS, List.length_map, beq_self_eq_true] at h) <;> (try (exfalso; first | contradiction | omega))))
  · (refine W.ret ?_; (first | refine RetQ.b' ?_))
    simp [okText]; intro _; omega
  refine W.loop (fun m S => ∃ k : Nat, m = s.size - k ∧ k ≤ s.size ∧ okUpto s k = true ∧ S = ⟨ofL [(0, vS s), (3, vI .i64 k)], []⟩) _ _ ⟨0, rfl, Nat.zero_le _, rfl, rfl⟩ (by (refine le_ofL rfl ?_ ?_ <;> (repeat (first | exact trivial | refine ⟨⟨rfl, rfl⟩, ?_⟩ | refine ⟨rfl, .inl rfl, ?_⟩ | refine ⟨rfl, .inr rfl, ?_⟩)))) ?_
  rintro m S ⟨k, rfl, hk, hok, rfl⟩
  repeat' (first | refine W.seq ?_ | refine W.rg ?_ | refine W.block ?_ | refine W.skip ?_ | refine W.exit ?_ | refine W.cond_true' ?_ | refine WG.nil ?_ | refine WG.run' (E := env) ?_ | ((first | refine WG.sp' (fun h => ?_) fun h => ?_ | refine W.cond' (fun h => ?_) fun h => ?_) <;> (try simp only [atS, List.length_map, beq_self_eq_true] at h) <;> (try (exfalso; first | contradiction | omega))))
  · (refine W.ret ?_; (first | refine RetQ.b' ?_))
    simp only [Int.toNat_natCast] at *
    have : okByte (byteAt s k) = false := by simp [okByte]; omega
    simp [okText, okUpto_false this s.size (by omega)]
  · (refine W.ret ?_; (first | refine RetQ.b' ?_))
    simp only [Int.toNat_natCast] at *
    have : okByte (byteAt s k) = false := by simp [okByte]; omega
    simp [okText, okUpto_false this s.size (by omega)]
  · simp only [Int.toNat_natCast] at *
    have : okByte (byteAt s k) = true := by simp [okByte]; omega
    exact ⟨_, _, by omega, ⟨k + 1, rfl, by omega, by simp [okUpto, hok, this], rfl⟩, (by (refine le_ofL rfl ?_ ?_ <;> (repeat (first | exact trivial | refine ⟨⟨rfl, rfl⟩, ?_⟩ | refine ⟨rfl, .inl rfl, ?_⟩ | refine ⟨rfl, .inr rfl, ?_⟩))))⟩
  · (refine W.ret ?_; (first | refine RetQ.b' ?_))
    have : k = s.size := by omega
    subst this
    simp [okText, hok]
    omega

end Go.Proofs.YtmmjbpgdkokjgaaGreat
end

section
set_option linter.unusedVariables false
set_option linter.unusedSimpArgs false
set_option maxRecDepth 100000
namespace Go.Proofs.YtmmjbpgdkokjgaaGreat
open Go.RowKit

inductive V where
  | mk (kind num : Int) (text : ByteArray) (keys : List ByteArray) (kids : List V)
  deriving Inhabited

abbrev keyRow (k : ByteArray) : List D := [dS k]

mutual
def V.row : V → List D
  | .mk k n t ks kids => [dI k, dI n, dS t, .sl 1 (ks.map keyRow), .sl 5 (V.rows kids)]
def V.rows : List V → List (List D)
  | [] => []
  | v :: r => V.row v :: V.rows r
end

theorem V.rows_app (v : V) : ∀ l : List V, V.rows (l ++ [v]) = V.rows l ++ [v.row]
  | [] => rfl
  | x :: r => by rw [List.cons_append]; simp only [V.rows]; rw [V.rows_app v r]; rfl

theorem V.rows_length : ∀ l : List V, (V.rows l).length = l.length
  | [] => rfl
  | x :: r => by simp [V.rows, V.rows_length r]

def V.zero : V := .mk 0 0 noS [] []

/-- The elements or members of a cell, one after the other: keys, values, where the next begins. -/
def kidsM (rec : Nat → Option (V × Nat)) (cs : List Cell) (c : Cell) : Nat → Nat → List ByteArray → List V → Nat → Option (List ByteArray × List V × Nat)
  | 0, _, keys, kids, next => some (keys, kids, next)
  | r + 1, i, keys, kids, next =>
    match rec next with
    | none => none
    | some (kid, behind) =>
      if (c.kind = 5 ∧ (cs.getD next default).key ≠ noS) ∨ (c.kind = 6 ∧ 0 < i ∧ Op.bytesLess (keys.getD (i - 1) default).data.toList (cs.getD next default).key.data.toList = false) then none
      else kidsM rec cs c r (i + 1) (if c.kind = 6 then keys ++ [(cs.getD next default).key] else keys) (kids ++ [kid]) behind

/-- The value whose first cell is at a place, and what stands behind it. -/
def valAtM (cs : List Cell) : Nat → Nat → Option (V × Nat)
  | 0, _ => none
  | f + 1, k =>
    if k < cs.length then
      match kidsM (valAtM cs f) cs (cs.getD k default) (cs.getD k default).n.toNat 0 [] [] (k + 1) with
      | none => none
      | some (keys, kids, next) => some (.mk (cs.getD k default).kind (cs.getD k default).num (cs.getD k default).text keys kids, next)
    else none

theorem kidsM_le {rec : Nat → Option (V × Nat)} {cs : List Cell} {c : Cell} {N : Nat} (hr : ∀ k v b, rec k = some (v, b) → k < b ∧ b ≤ N) : ∀ (r i : Nat) (keys : List ByteArray) (kids : List V) (next : Nat) (x : List ByteArray × List V × Nat),
    kidsM rec cs c r i keys kids next = some x → next ≤ N → next ≤ x.2.2 ∧ x.2.2 ≤ N
  | 0, i, keys, kids, next, x, h, hn => by
    simp only [kidsM, Option.some.injEq] at h
    subst h; exact ⟨Nat.le_refl _, hn⟩
  | r + 1, i, keys, kids, next, x, h, hn => by
    simp only [kidsM] at h
    split at h
    · cases h
    · rename_i kid b hk
      split at h
      · cases h
      · have h1 := hr next kid b hk
        have := kidsM_le hr r _ _ _ b x h h1.2
        omega

theorem valAtM_le {cs : List Cell} : ∀ (f k : Nat) (v : V) (b : Nat), valAtM cs f k = some (v, b) → k < b ∧ b ≤ cs.length
  | 0, k, v, b, h => by simp [valAtM] at h
  | f + 1, k, v, b, h => by
    simp only [valAtM] at h
    split at h
    · rename_i hk
      split at h
      · cases h
      · rename_i keys kids next hx
        simp only [Option.some.injEq, Prod.mk.injEq] at h
        have := kidsM_le (valAtM_le f) _ _ _ _ _ _ hx (by omega)
        simp only at this
        omega
    · cases h

end Go.Proofs.YtmmjbpgdkokjgaaGreat
end

section
set_option linter.unusedVariables false
set_option linter.unusedSimpArgs false
set_option maxRecDepth 100000
namespace Go.Proofs.YtmmjbpgdkokjgaaGreat
open Go.RowKit

mutual
def V.depth : V → Int
  | .mk _ _ _ _ kids => V.depths kids + 1
def V.depths : List V → Int
  | [] => 0
  | v :: r => max (V.depth v) (V.depths r)
end

mutual
def V.count : V → Nat
  | .mk _ _ _ _ kids => V.counts kids + 1
def V.counts : List V → Nat
  | [] => 0
  | v :: r => V.count v + V.counts r
end

mutual
theorem V.depth_le : ∀ v : V, 1 ≤ v.depth ∧ v.depth ≤ v.count
  | .mk _ _ _ _ kids => by
    have := V.depths_le kids
    simp only [V.depth, V.count]
    omega
theorem V.depths_le : ∀ l : List V, 0 ≤ V.depths l ∧ V.depths l ≤ V.counts l
  | [] => by simp [V.depths, V.counts]
  | v :: r => by
    have := V.depth_le v
    have := V.depths_le r
    simp only [V.depths, V.counts]
    omega
end

theorem V.depths_app (v : V) : ∀ l : List V, V.depths (l ++ [v]) = max (V.depths l) v.depth
  | [] => by have := V.depth_le v; simp [V.depths]; omega
  | x :: r => by
    rw [List.cons_append]
    simp only [V.depths]
    rw [V.depths_app v r]
    omega

theorem V.counts_ge {l : List V} : ∀ v ∈ l, v.count ≤ V.counts l := by
  induction l with
  | nil => intro v h; cases h
  | cons x r ih =>
    intro v h
    simp only [V.counts]
    rcases List.mem_cons.1 h with rfl | h
    · omega
    · have := ih v h; omega

theorem V.rows_map : ∀ l : List V, V.rows l = l.map V.row
  | [] => rfl
  | x :: r => by simp [V.rows, V.rows_map r]

theorem V.length_counts : ∀ l : List V, l.length ≤ V.counts l
  | [] => Nat.le_refl _
  | x :: r => by
    have := V.length_counts r
    have := V.depth_le x
    simp only [V.counts, List.length_cons]
    omega

def V.kind : V → Int | .mk k _ _ _ _ => k
def V.num : V → Int | .mk _ n _ _ _ => n
def V.text : V → ByteArray | .mk _ _ t _ _ => t
def V.keys : V → List ByteArray | .mk _ _ _ ks _ => ks
def V.kids : V → List V | .mk _ _ _ _ kids => kids

/-- The row of a value by its parts. -/
def V.rowP (v : V) : List D := [dI v.kind, dI v.num, dS v.text, .sl 1 (v.keys.map keyRow), .sl 5 (v.kids.map V.row)]

theorem V.row_eq : ∀ v : V, v.row = v.rowP
  | .mk k n t ks kids => by simp only [V.row, V.rows_map]; rfl

/-- The first code of a cell that is not 0. -/
def cellsCode : List Cell → Int
  | [] => 0
  | c :: r => if cellCode c ≠ 0 then cellCode c else cellsCode r

/-- A value's code, and the value. -/
def valOfM (cs : List Cell) : V × Int :=
  if ¬ (1 ≤ cs.length ∧ cs.length ≤ 200) then (V.zero, 2)
  else if cellsCode cs ≠ 0 then (V.zero, cellsCode cs)
  else match valAtM cs (cs.length + 1) 0 with
    | none => (V.zero, 1)
    | some (v, b) => if b ≠ cs.length ∨ (cs.getD 0 default).key ≠ noS then (V.zero, 1) else if 20 < v.depth then (V.zero, 7) else (v, 0)

end Go.Proofs.YtmmjbpgdkokjgaaGreat
end

section
set_option linter.unusedVariables false
set_option linter.unusedSimpArgs false
set_option maxRecDepth 100000
namespace Go.Proofs.YtmmjbpgdkokjgaaGreat
open Go.RowKit

theorem valAtM_ge {cs : List Cell} {f k : Nat} (h : cs.length ≤ k) : valAtM cs f k = none := by
  cases f with
  | zero => rfl
  | succ f => rw [valAtM, if_neg (by omega)]

end Go.Proofs.YtmmjbpgdkokjgaaGreat
end
