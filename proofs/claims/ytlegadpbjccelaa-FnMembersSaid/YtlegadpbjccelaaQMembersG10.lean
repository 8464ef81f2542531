/-
  A member of a value by its key: the program's search, the reference's. Conditions: none.
-/
import Derived.Test.YtlegadpbjccelaaQMembersG9
set_option linter.unusedVariables false
set_option linter.unusedSimpArgs false
set_option maxRecDepth 100000
namespace Go.Proofs.Ytlegadpbjccelaa
open Go.RowKit

theorem isNaNSl_fn (a : ByteArray) : Fun env.P 304 [dS a] (.d (dB false)) [] := by
  refine Fun.intro Try.func304 rfl (by kernel_rfl) rfl ?_
  repeat' (first | refine W.seq ?_ | refine W.rg ?_ | refine W.dra' ?_ | refine W.block ?_ | refine W.skip ?_ | refine W.exit ?_ | refine W.cond_true' ?_ | refine W.cond_false' ?_ | refine WG.nil ?_ | refine WG.run' (E := env) ?_ | refine WG.gt' ?_ | refine WG.gf' ?_ | refine WG.ixm' (E := env) ?_ | refine WG.ixo' (E := env) ?_ | refine WG.legm' (E := env) ?_ | refine WG.slS' (E := env) ?_ | refine WG.slD' (E := env) ?_ | refine WG.ap' (E := env) ?_ | refine WD.nil ?_ | refine WD.bs' (E := env) ?_ | refine WD.s' (E := env) (t := .d _) ?_ | refine WD.p' ?_ | refine WD.px' ?_ | refine WD.s' (E := env) (t := .ea _ _) ?_ | refine WD.s' (E := env) (t := .lp _ _) ?_ | refine WD.s' (E := env) (t := .og _ _) ?_ | refine WD.s' (E := env) (t := .agg _) ?_ | refine WD.s' (E := env) (t := .tup _) ?_ | refine WD.s' (E := env) (t := .clo _ _) ?_ | refine WD.ixm' (E := env) ?_ | refine WD.ixo' (E := env) ?_ | refine WD.legm' (E := env) ?_ | refine WD.slS' (E := env) ?_ | refine WD.slD' (E := env) ?_ | ((first | refine WG.sp' (fun h => ?_) fun h => ?_ | refine W.cond' (fun h => ?_) fun h => ?_ | refine WD.sp' (fun h => ?_) fun h => ?_) <;> (try simp only [decide_eq_true_eq, decide_eq_false_iff_not, Bool.not_eq_true', Bool.not_eq_false', Bool.and_eq_true, Bool.or_eq_true, Bool.and_eq_false_iff, Bool.or_eq_false_iff, Bool.not_eq_true, Bool.not_eq_false, Int.not_lt, Int.not_le, List.length_map, beq_self_eq_true, Bool.true_eq_false, Bool.false_eq_true] at h) <;> (try (exfalso; first | contradiction | omega))))
  (refine W.ret ?_; (first | refine RetQ.b' ?_ | refine RetQ.i' ?_ | refine RetQ.d' ?_ | refine RetQ.t2' ?_ ?_ | refine RetQ.t3' ?_ ?_ ?_))
  simp

theorem cmpLessS_fn (a b : ByteArray) : Fun env.P 267 [dS a, dS b] (.d (dB (lessK a b))) [] := by
  refine Fun.intro Try.func267 rfl (by kernel_rfl) rfl ?_
  repeat' (first | refine W.seq ?_ | refine W.rg ?_ | refine W.dra' ?_ | refine W.block ?_ | refine W.skip ?_ | refine W.exit ?_ | refine W.cond_true' ?_ | refine W.cond_false' ?_ | refine WG.nil ?_ | refine WG.run' (E := env) ?_ | refine WG.gt' ?_ | refine WG.gf' ?_ | refine WG.ixm' (E := env) ?_ | refine WG.ixo' (E := env) ?_ | refine WG.legm' (E := env) ?_ | refine WG.slS' (E := env) ?_ | refine WG.slD' (E := env) ?_ | refine WG.ap' (E := env) ?_ | refine WD.nil ?_ | refine WD.bs' (E := env) ?_ | refine WD.s' (E := env) (t := .d _) ?_ | refine WD.p' ?_ | refine WD.px' ?_ | refine WD.s' (E := env) (t := .ea _ _) ?_ | refine WD.s' (E := env) (t := .lp _ _) ?_ | refine WD.s' (E := env) (t := .og _ _) ?_ | refine WD.s' (E := env) (t := .agg _) ?_ | refine WD.s' (E := env) (t := .tup _) ?_ | refine WD.s' (E := env) (t := .clo _ _) ?_ | refine WD.ixm' (E := env) ?_ | refine WD.ixo' (E := env) ?_ | refine WD.legm' (E := env) ?_ | refine WD.slS' (E := env) ?_ | refine WD.slD' (E := env) ?_ | refine WG.c (E := env) rfl rfl (isNaNS_fn _) rfl rfl ?_ | refine WD.c (E := env) rfl rfl (isNaNS_fn _) rfl rfl ?_ | refine WG.co (E := env) rfl rfl (isNaNS_fn _) rfl rfl rfl rfl ?_ | refine WG.cx (E := env) rfl (isNaNS_fn _) rfl ?_ | ((first | refine WG.sp' (fun h => ?_) fun h => ?_ | refine W.cond' (fun h => ?_) fun h => ?_ | refine WD.sp' (fun h => ?_) fun h => ?_) <;> (try simp only [decide_eq_true_eq, decide_eq_false_iff_not, Bool.not_eq_true', Bool.not_eq_false', Bool.and_eq_true, Bool.or_eq_true, Bool.and_eq_false_iff, Bool.or_eq_false_iff, Bool.not_eq_true, Bool.not_eq_false, Int.not_lt, Int.not_le, List.length_map, beq_self_eq_true, Bool.true_eq_false, Bool.false_eq_true] at h) <;> (try (exfalso; first | contradiction | omega))))
  all_goals (refine W.ret ?_; (first | refine RetQ.b' ?_ | refine RetQ.i' ?_ | refine RetQ.d' ?_ | refine RetQ.t2' ?_ ?_ | refine RetQ.t3' ?_ ?_ ?_))
  all_goals rfl

set_option maxHeartbeats 2000000 in
theorem binarySearch_fn (ks : List ByteArray) (key : ByteArray) (hi : incr ks) (hl : ks.length ≤ 1048576) :
    Fun env.P 277 [.sl 1 (ks.map keyRow), dS key] (.tup [.d (dI (posK key ks)), .d (dB (hasK ks key))]) [] := by
  refine Fun.intro Try.func277 rfl (by kernel_rfl) rfl ?_
  repeat' (first | refine W.seq ?_ | refine W.rg ?_ | refine W.dra' ?_ | refine W.block ?_ | refine W.skip ?_ | refine W.exit ?_ | refine W.cond_true' ?_ | refine W.cond_false' ?_ | refine WG.nil ?_ | refine WG.run' (E := env) ?_ | refine WG.gt' ?_ | refine WG.gf' ?_ | refine WG.ixm' (E := env) ?_ | refine WG.ixo' (E := env) ?_ | refine WG.legm' (E := env) ?_ | refine WG.slS' (E := env) ?_ | refine WG.slD' (E := env) ?_ | refine WG.ap' (E := env) ?_ | refine WD.nil ?_ | refine WD.bs' (E := env) ?_ | refine WD.s' (E := env) (t := .d _) ?_ | refine WD.p' ?_ | refine WD.px' ?_ | refine WD.s' (E := env) (t := .ea _ _) ?_ | refine WD.s' (E := env) (t := .lp _ _) ?_ | refine WD.s' (E := env) (t := .og _ _) ?_ | refine WD.s' (E := env) (t := .agg _) ?_ | refine WD.s' (E := env) (t := .tup _) ?_ | refine WD.s' (E := env) (t := .clo _ _) ?_ | refine WD.ixm' (E := env) ?_ | refine WD.ixo' (E := env) ?_ | refine WD.legm' (E := env) ?_ | refine WD.slS' (E := env) ?_ | refine WD.slD' (E := env) ?_ | ((first | refine WG.sp' (fun h => ?_) fun h => ?_ | refine W.cond' (fun h => ?_) fun h => ?_ | refine WD.sp' (fun h => ?_) fun h => ?_) <;> (try simp only [decide_eq_true_eq, decide_eq_false_iff_not, Bool.not_eq_true', Bool.not_eq_false', Bool.and_eq_true, Bool.or_eq_true, Bool.and_eq_false_iff, Bool.or_eq_false_iff, Bool.not_eq_true, Bool.not_eq_false, Int.not_lt, Int.not_le, List.length_map, beq_self_eq_true, Bool.true_eq_false, Bool.false_eq_true] at h) <;> (try (exfalso; first | contradiction | omega))))
  refine W.loop (fun m S => ∃ (i j : Nat), m = j - i ∧ (i ≤ j ∧ j ≤ ks.length ∧ (∀ p, p < i → lessK (ks.getD p default) key = true) ∧ (∀ p, j ≤ p → p < ks.length → lessK (ks.getD p default) key = false)) ∧
    S = ⟨ofL [(0, .d (.sl 1 (ks.map keyRow))), (1, .d (dS key)), (6, vI .i64 (ks.map keyRow).length), (7, vI .i64 i), (8, vI .i64 j)], []⟩) _ _ ⟨0, ks.length, rfl, ⟨by omega, by omega, fun p hp => by omega, fun p h1 h2 => by omega⟩, rfl⟩ (by rw [List.length_map]; exact (by (refine le_ofL rfl ?_ ?_ <;> (repeat (first | exact trivial | refine ⟨⟨rfl, rfl⟩, ?_⟩ | refine ⟨rfl, .inl rfl, ?_⟩ | refine ⟨rfl, .inr rfl, ?_⟩))))) ?_
  rintro m S ⟨i, j, rfl, ⟨hij, hj, h1, h2⟩, rfl⟩
  have hdiv : ((i : Int) + (j : Int)) / 2 ^ Int.toNat 1 = (((i + j) / 2 : Nat) : Int) := by show ((i : Int) + (j : Int)) / 2 = _; omega
  repeat' (first | refine WG.shr rfl rfl rfl rfl ⟨by decide, by decide⟩ hdiv ?_ | refine W.seq ?_ | refine W.rg ?_ | refine W.dra' ?_ | refine W.block ?_ | refine W.skip ?_ | refine W.exit ?_ | refine W.cond_true' ?_ | refine W.cond_false' ?_ | refine WG.nil ?_ | refine WG.run' (E := env) ?_ | refine WG.gt' ?_ | refine WG.gf' ?_ | refine WG.ixm' (E := env) ?_ | refine WG.ixo' (E := env) ?_ | refine WG.legm' (E := env) ?_ | refine WG.slS' (E := env) ?_ | refine WG.slD' (E := env) ?_ | refine WG.ap' (E := env) ?_ | refine WD.nil ?_ | refine WD.bs' (E := env) ?_ | refine WD.s' (E := env) (t := .d _) ?_ | refine WD.p' ?_ | refine WD.px' ?_ | refine WD.s' (E := env) (t := .ea _ _) ?_ | refine WD.s' (E := env) (t := .lp _ _) ?_ | refine WD.s' (E := env) (t := .og _ _) ?_ | refine WD.s' (E := env) (t := .agg _) ?_ | refine WD.s' (E := env) (t := .tup _) ?_ | refine WD.s' (E := env) (t := .clo _ _) ?_ | refine WD.ixm' (E := env) ?_ | refine WD.ixo' (E := env) ?_ | refine WD.legm' (E := env) ?_ | refine WD.slS' (E := env) ?_ | refine WD.slD' (E := env) ?_ | refine WG.c (E := env) rfl rfl (cmpLessS_fn _ _) rfl rfl ?_ | refine WD.c (E := env) rfl rfl (cmpLessS_fn _ _) rfl rfl ?_ | refine WG.co (E := env) rfl rfl (cmpLessS_fn _ _) rfl rfl rfl rfl ?_ | refine WG.cx (E := env) rfl (cmpLessS_fn _ _) rfl ?_ | refine WG.c (E := env) rfl rfl (isNaNSl_fn _) rfl rfl ?_ | refine WD.c (E := env) rfl rfl (isNaNSl_fn _) rfl rfl ?_ | refine WG.co (E := env) rfl rfl (isNaNSl_fn _) rfl rfl rfl rfl ?_ | refine WG.cx (E := env) rfl (isNaNSl_fn _) rfl ?_ | ((first | refine WG.sp' (fun h => ?_) fun h => ?_ | refine W.cond' (fun h => ?_) fun h => ?_ | refine WD.sp' (fun h => ?_) fun h => ?_) <;> (try simp only [decide_eq_true_eq, decide_eq_false_iff_not, Bool.not_eq_true', Bool.not_eq_false', Bool.and_eq_true, Bool.or_eq_true, Bool.and_eq_false_iff, Bool.or_eq_false_iff, Bool.not_eq_true, Bool.not_eq_false, Int.not_lt, Int.not_le, List.length_map, beq_self_eq_true, Bool.true_eq_false, Bool.false_eq_true] at h) <;> (try (exfalso; first | contradiction | omega))))
  · (try simp only [Int.toNat_natCast, Int.toNat_zero, toNat_cc, toNat_c1, toNat_cm1, toNat_cm] at *)
    refine ⟨_, _, ?_, ⟨(i + j) / 2 + 1, j, rfl, ⟨by omega, hj, fun p hp => ?_, h2⟩, rfl⟩, (by (refine le_ofL rfl ?_ ?_ <;> (repeat (first | exact trivial | refine ⟨⟨rfl, rfl⟩, ?_⟩ | refine ⟨rfl, .inl rfl, ?_⟩ | refine ⟨rfl, .inr rfl, ?_⟩))))⟩
    · omega
    · by_cases e : p = (i + j) / 2
      · rw [e]; exact h
      · exact less_trans _ _ _ (less_getD hi p ((i + j) / 2) (by omega) (by omega)) h
  · (try simp only [Int.toNat_natCast, Int.toNat_zero, toNat_cc, toNat_c1, toNat_cm1, toNat_cm] at *)
    refine ⟨_, _, ?_, ⟨i, (i + j) / 2, rfl, ⟨by omega, by omega, h1, fun p hp hp2 => ?_⟩, rfl⟩, (by (refine le_ofL rfl ?_ ?_ <;> (repeat (first | exact trivial | refine ⟨⟨rfl, rfl⟩, ?_⟩ | refine ⟨rfl, .inl rfl, ?_⟩ | refine ⟨rfl, .inr rfl, ?_⟩))))⟩
    · omega
    · by_cases e : p = (i + j) / 2
      · rw [e]; exact h
      · cases hl2 : lessK (ks.getD p default) key with
        | false => rfl
        | true =>
          have := less_trans _ _ _ (less_getD hi ((i + j) / 2) p (by omega) hp2) hl2
          rw [lessK] at h
          rw [this] at h
          cases h
  all_goals
    have hp : posK key ks = i := posK_of key ks i (by omega) h1 fun hlt => h2 i (by omega) hlt
    (try simp only [Int.toNat_natCast, Int.toNat_zero, toNat_cc, toNat_c1, toNat_cm1, toNat_cm] at *)
    (refine W.ret ?_; (first | refine RetQ.b' ?_ | refine RetQ.i' ?_ | refine RetQ.d' ?_ | refine RetQ.t2' ?_ ?_ | refine RetQ.t3' ?_ ?_ ?_))
    · rw [hp]; rfl
    · rw [hasK, hp]
      first
        | (rw [decide_eq_true (show i < ks.length by omega), decide_eq_true (by assumption)]; rfl)
        | (rw [decide_eq_true (show i < ks.length by omega), decide_eq_false (by assumption)]; rfl)
        | (rw [decide_eq_false (show ¬ i < ks.length by omega)]; rfl)

/-- The member of an object with a key, null if there is none. -/
def memV (v : V) (key : ByteArray) : V := if hasK v.keys key = true then v.kids.getD (posK key v.keys) default else V.zero

theorem V.obj_keys {v : V} (h : v.good) (hk : v.kind = 6) : v.keys.length = v.kids.length ∧ incr v.keys := by
  obtain ⟨k, n, t, ks, kids⟩ := v
  exact ⟨h.2.2.2.2.2.2.1 hk, h.2.2.2.2.2.2.2.2.2.1⟩

theorem memV_fine {v : V} (h : v.fine) (hk : v.kind = 6) (key : ByteArray) : (memV v key).fine := by
  unfold memV
  split
  · rename_i hh
    exact V.kid_fine h (by have := (hasK_lt hh).1; have := (V.obj_keys h.1 hk).1; omega)
  · exact V.zero_fine

set_option maxHeartbeats 1000000 in
theorem memberP_fn (v : V) (h : v.fine) (hk : v.kind = 6) (key : ByteArray) : Fun env.P 211 [.agg v.rowP, dS key] (.d (.agg (memV v key).rowP)) [] := by
  obtain ⟨hkl, hin⟩ := V.obj_keys h.1 hk
  have hlc := V.length_counts v.kids
  have hce := V.count_eq v
  have hv200 := h.2.1
  have h1 := binarySearch_fn v.keys key hin (by omega)
  have h2 := nullP_fn
  have hlt := @hasK_lt v.keys key
  unfold memV
  generalize posK key v.keys = p at h1 hlt ⊢
  generalize hasK v.keys key = b at h1 hlt ⊢
  refine Fun.intro Try.func211 rfl (by kernel_rfl) rfl ?_
  repeat' (first | refine W.seq ?_ | refine W.rg ?_ | refine W.dra' ?_ | refine W.block ?_ | refine W.skip ?_ | refine W.exit ?_ | refine W.cond_true' ?_ | refine W.cond_false' ?_ | refine WG.nil ?_ | refine WG.run' (E := env) ?_ | refine WG.gt' ?_ | refine WG.gf' ?_ | refine WG.ixm' (E := env) ?_ | refine WG.ixo' (E := env) ?_ | refine WG.legm' (E := env) ?_ | refine WG.slS' (E := env) ?_ | refine WG.slD' (E := env) ?_ | refine WG.ap' (E := env) ?_ | refine WD.nil ?_ | refine WD.bs' (E := env) ?_ | refine WD.s' (E := env) (t := .d _) ?_ | refine WD.p' ?_ | refine WD.px' ?_ | refine WD.s' (E := env) (t := .ea _ _) ?_ | refine WD.s' (E := env) (t := .lp _ _) ?_ | refine WD.s' (E := env) (t := .og _ _) ?_ | refine WD.s' (E := env) (t := .agg _) ?_ | refine WD.s' (E := env) (t := .tup _) ?_ | refine WD.s' (E := env) (t := .clo _ _) ?_ | refine WD.ixm' (E := env) ?_ | refine WD.ixo' (E := env) ?_ | refine WD.legm' (E := env) ?_ | refine WD.slS' (E := env) ?_ | refine WD.slD' (E := env) ?_ | refine WG.c (E := env) rfl rfl (h1) rfl rfl ?_ | refine WD.c (E := env) rfl rfl (h1) rfl rfl ?_ | refine WG.co (E := env) rfl rfl (h1) rfl rfl rfl rfl ?_ | refine WG.cx (E := env) rfl (h1) rfl ?_ | refine WG.c (E := env) rfl rfl (h2) rfl rfl ?_ | refine WD.c (E := env) rfl rfl (h2) rfl rfl ?_ | refine WG.co (E := env) rfl rfl (h2) rfl rfl rfl rfl ?_ | refine WG.cx (E := env) rfl (h2) rfl ?_ | ((first | refine WG.sp' (fun h => ?_) fun h => ?_ | refine W.cond' (fun h => ?_) fun h => ?_ | refine WD.sp' (fun h => ?_) fun h => ?_) <;> (try simp only [decide_eq_true_eq, decide_eq_false_iff_not, Bool.not_eq_true', Bool.not_eq_false', Bool.and_eq_true, Bool.or_eq_true, Bool.and_eq_false_iff, Bool.or_eq_false_iff, Bool.not_eq_true, Bool.not_eq_false, Int.not_lt, Int.not_le, List.length_map, beq_self_eq_true, Bool.true_eq_false, Bool.false_eq_true] at h) <;> (try (exfalso; first | contradiction | omega))))
  · (refine W.ret ?_; (first | refine RetQ.b' ?_ | refine RetQ.i' ?_ | refine RetQ.d' ?_ | refine RetQ.t2' ?_ ?_ | refine RetQ.t3' ?_ ?_ ?_))
    simp [*]
    rfl
  · have hp := (hlt (by assumption)).1
    repeat' (first | refine WG.ixm (E := env) (f' := V.rowP) rfl rfl rfl rfl rfl rfl rfl (fun x => V.row_eq x) (by (first | exact trivial | (simp only [inRange, List.length_map]; omega) | omega | assumption)) ?_ | refine W.seq ?_ | refine W.rg ?_ | refine W.dra' ?_ | refine W.block ?_ | refine W.skip ?_ | refine W.exit ?_ | refine W.cond_true' ?_ | refine W.cond_false' ?_ | refine WG.nil ?_ | refine WG.run' (E := env) ?_ | refine WG.gt' ?_ | refine WG.gf' ?_ | refine WG.ixm' (E := env) ?_ | refine WG.ixo' (E := env) ?_ | refine WG.legm' (E := env) ?_ | refine WG.slS' (E := env) ?_ | refine WG.slD' (E := env) ?_ | refine WG.ap' (E := env) ?_ | refine WD.nil ?_ | refine WD.bs' (E := env) ?_ | refine WD.s' (E := env) (t := .d _) ?_ | refine WD.p' ?_ | refine WD.px' ?_ | refine WD.s' (E := env) (t := .ea _ _) ?_ | refine WD.s' (E := env) (t := .lp _ _) ?_ | refine WD.s' (E := env) (t := .og _ _) ?_ | refine WD.s' (E := env) (t := .agg _) ?_ | refine WD.s' (E := env) (t := .tup _) ?_ | refine WD.s' (E := env) (t := .clo _ _) ?_ | refine WD.ixm' (E := env) ?_ | refine WD.ixo' (E := env) ?_ | refine WD.legm' (E := env) ?_ | refine WD.slS' (E := env) ?_ | refine WD.slD' (E := env) ?_ | fail | ((first | refine WG.sp' (fun h => ?_) fun h => ?_ | refine W.cond' (fun h => ?_) fun h => ?_ | refine WD.sp' (fun h => ?_) fun h => ?_) <;> (try simp only [decide_eq_true_eq, decide_eq_false_iff_not, Bool.not_eq_true', Bool.not_eq_false', Bool.and_eq_true, Bool.or_eq_true, Bool.and_eq_false_iff, Bool.or_eq_false_iff, Bool.not_eq_true, Bool.not_eq_false, Int.not_lt, Int.not_le, List.length_map, beq_self_eq_true, Bool.true_eq_false, Bool.false_eq_true] at h) <;> (try (exfalso; first | contradiction | omega))))
    (refine W.ret ?_; (first | refine RetQ.b' ?_ | refine RetQ.i' ?_ | refine RetQ.d' ?_ | refine RetQ.t2' ?_ ?_ | refine RetQ.t3' ?_ ?_ ?_))
    simp [*]
    rfl

/-- A part by its key: the code, and the value. -/
def keyO (v : V) (key : ByteArray) : Int × V :=
  if v.kind = 0 then (0, V.zero) else if v.kind ≠ 6 then (6, V.zero) else (0, memV v key)
def keyO2 (v : V) (key : ByteArray) : Int × V := if okText key = true then keyO v key else (5, V.zero)

theorem keyO_fine {v : V} (h : v.fine) (key : ByteArray) : (keyO v key).2.fine := by
  unfold keyO
  split
  · exact V.zero_fine
  · split
    · exact V.zero_fine
    · rename_i h1; exact memV_fine h (by omega) key
theorem keyO2_fine {v : V} (h : v.fine) (key : ByteArray) : (keyO2 v key).2.fine := by
  unfold keyO2
  split
  · exact keyO_fine h key
  · exact V.zero_fine

set_option maxHeartbeats 1000000 in
theorem getKeyP_fn (v : V) (h : v.fine) (key : ByteArray) (hs : key.size ≤ 1048576) : Fun env.P 148 [.agg v.rowP, dS key] (.d (outD (keyO2 v key).1 (keyO2 v key).2)) [] := by
  have h1 := isString_fn key hs
  have h2 := nullP_fn
  have h3 := V.fine_gives V.zero_fine
  have h4 := refusesP_fn 6
  have h5 := refusesP_fn 5
  have h6 := fun hk : v.kind = 6 => memberP_fn v h hk key
  have h7 := fun hk : v.kind = 6 => V.fine_gives (memV_fine h hk key)
  unfold keyO2 keyO
  generalize okText key = b at h1 ⊢
  generalize memV v key = w at h6 h7 ⊢
  refine Fun.intro Try.func148 rfl (by kernel_rfl) rfl ?_
  repeat' (first | refine W.seq ?_ | refine W.rg ?_ | refine W.dra' ?_ | refine W.block ?_ | refine W.skip ?_ | refine W.exit ?_ | refine W.cond_true' ?_ | refine W.cond_false' ?_ | refine WG.nil ?_ | refine WG.run' (E := env) ?_ | refine WG.gt' ?_ | refine WG.gf' ?_ | refine WG.ixm' (E := env) ?_ | refine WG.ixo' (E := env) ?_ | refine WG.legm' (E := env) ?_ | refine WG.slS' (E := env) ?_ | refine WG.slD' (E := env) ?_ | refine WG.ap' (E := env) ?_ | refine WD.nil ?_ | refine WD.bs' (E := env) ?_ | refine WD.s' (E := env) (t := .d _) ?_ | refine WD.p' ?_ | refine WD.px' ?_ | refine WD.s' (E := env) (t := .ea _ _) ?_ | refine WD.s' (E := env) (t := .lp _ _) ?_ | refine WD.s' (E := env) (t := .og _ _) ?_ | refine WD.s' (E := env) (t := .agg _) ?_ | refine WD.s' (E := env) (t := .tup _) ?_ | refine WD.s' (E := env) (t := .clo _ _) ?_ | refine WD.ixm' (E := env) ?_ | refine WD.ixo' (E := env) ?_ | refine WD.legm' (E := env) ?_ | refine WD.slS' (E := env) ?_ | refine WD.slD' (E := env) ?_ | refine WG.c (E := env) rfl rfl (h1) rfl rfl ?_ | refine WD.c (E := env) rfl rfl (h1) rfl rfl ?_ | refine WG.co (E := env) rfl rfl (h1) rfl rfl rfl rfl ?_ | refine WG.cx (E := env) rfl (h1) rfl ?_ | refine WG.c (E := env) rfl rfl (h2) rfl rfl ?_ | refine WD.c (E := env) rfl rfl (h2) rfl rfl ?_ | refine WG.co (E := env) rfl rfl (h2) rfl rfl rfl rfl ?_ | refine WG.cx (E := env) rfl (h2) rfl ?_ | refine WG.c (E := env) rfl rfl (h3) rfl rfl ?_ | refine WD.c (E := env) rfl rfl (h3) rfl rfl ?_ | refine WG.co (E := env) rfl rfl (h3) rfl rfl rfl rfl ?_ | refine WG.cx (E := env) rfl (h3) rfl ?_ | refine WG.c (E := env) rfl rfl (h4) rfl rfl ?_ | refine WD.c (E := env) rfl rfl (h4) rfl rfl ?_ | refine WG.co (E := env) rfl rfl (h4) rfl rfl rfl rfl ?_ | refine WG.cx (E := env) rfl (h4) rfl ?_ | refine WG.c (E := env) rfl rfl (h5) rfl rfl ?_ | refine WD.c (E := env) rfl rfl (h5) rfl rfl ?_ | refine WG.co (E := env) rfl rfl (h5) rfl rfl rfl rfl ?_ | refine WG.cx (E := env) rfl (h5) rfl ?_ | refine WG.c (E := env) rfl rfl (h6 (by assumption)) rfl rfl ?_ | refine WD.c (E := env) rfl rfl (h6 (by assumption)) rfl rfl ?_ | refine WG.co (E := env) rfl rfl (h6 (by assumption)) rfl rfl rfl rfl ?_ | refine WG.cx (E := env) rfl (h6 (by assumption)) rfl ?_ | refine WG.c (E := env) rfl rfl (h7 (by assumption)) rfl rfl ?_ | refine WD.c (E := env) rfl rfl (h7 (by assumption)) rfl rfl ?_ | refine WG.co (E := env) rfl rfl (h7 (by assumption)) rfl rfl rfl rfl ?_ | refine WG.cx (E := env) rfl (h7 (by assumption)) rfl ?_ | ((first | refine WG.sp' (fun h => ?_) fun h => ?_ | refine W.cond' (fun h => ?_) fun h => ?_ | refine WD.sp' (fun h => ?_) fun h => ?_) <;> (try simp only [decide_eq_true_eq, decide_eq_false_iff_not, Bool.not_eq_true', Bool.not_eq_false', Bool.and_eq_true, Bool.or_eq_true, Bool.and_eq_false_iff, Bool.or_eq_false_iff, Bool.not_eq_true, Bool.not_eq_false, Int.not_lt, Int.not_le, List.length_map, beq_self_eq_true, Bool.true_eq_false, Bool.false_eq_true] at h) <;> (try (exfalso; first | contradiction | omega))))
  all_goals (refine W.ret ?_; (first | refine RetQ.b' ?_ | refine RetQ.i' ?_ | refine RetQ.d' ?_ | refine RetQ.t2' ?_ ?_ | refine RetQ.t3' ?_ ?_ ?_))
  all_goals (simp only [*, ne_eq, not_false_eq_true, not_true_eq_false, if_true, if_false, Bool.false_eq_true]; rfl)

set_option maxHeartbeats 1000000 in
theorem getKeyC_fn (v : V) (h : v.fine) (key : ByteArray) (hs : key.size ≤ 1048576) : FunQ env.P 147 [.d (.agg v.rowP), .lp 0 0] [.pv [.d (dS key)]] (just (.d (outD (keyO2 v key).1 (keyO2 v key).2)) [.pv [.d (dS key)]]) := by
  have h1 := getKeyP_fn v h key hs
  generalize (keyO2 v key).2 = w at h1 ⊢
  generalize (keyO2 v key).1 = c at h1 ⊢
  refine FunQ.intro Try.func147 rfl (by kernel_rfl) rfl ?_
  repeat' (first | refine W.seq ?_ | refine W.rg ?_ | refine W.dra' ?_ | refine W.block ?_ | refine W.skip ?_ | refine W.exit ?_ | refine W.cond_true' ?_ | refine W.cond_false' ?_ | refine WG.nil ?_ | refine WG.run' (E := env) ?_ | refine WG.gt' ?_ | refine WG.gf' ?_ | refine WG.ixm' (E := env) ?_ | refine WG.ixo' (E := env) ?_ | refine WG.legm' (E := env) ?_ | refine WG.slS' (E := env) ?_ | refine WG.slD' (E := env) ?_ | refine WG.ap' (E := env) ?_ | refine WD.nil ?_ | refine WD.bs' (E := env) ?_ | refine WD.s' (E := env) (t := .d _) ?_ | refine WD.p' ?_ | refine WD.px' ?_ | refine WD.s' (E := env) (t := .ea _ _) ?_ | refine WD.s' (E := env) (t := .lp _ _) ?_ | refine WD.s' (E := env) (t := .og _ _) ?_ | refine WD.s' (E := env) (t := .agg _) ?_ | refine WD.s' (E := env) (t := .tup _) ?_ | refine WD.s' (E := env) (t := .clo _ _) ?_ | refine WD.ixm' (E := env) ?_ | refine WD.ixo' (E := env) ?_ | refine WD.legm' (E := env) ?_ | refine WD.slS' (E := env) ?_ | refine WD.slD' (E := env) ?_ | refine WG.c (E := env) rfl rfl (h1) rfl rfl ?_ | refine WD.c (E := env) rfl rfl (h1) rfl rfl ?_ | refine WG.co (E := env) rfl rfl (h1) rfl rfl rfl rfl ?_ | refine WG.cx (E := env) rfl (h1) rfl ?_ | ((first | refine WG.sp' (fun h => ?_) fun h => ?_ | refine W.cond' (fun h => ?_) fun h => ?_ | refine WD.sp' (fun h => ?_) fun h => ?_) <;> (try simp only [decide_eq_true_eq, decide_eq_false_iff_not, Bool.not_eq_true', Bool.not_eq_false', Bool.and_eq_true, Bool.or_eq_true, Bool.and_eq_false_iff, Bool.or_eq_false_iff, Bool.not_eq_true, Bool.not_eq_false, Int.not_lt, Int.not_le, List.length_map, beq_self_eq_true, Bool.true_eq_false, Bool.false_eq_true] at h) <;> (try (exfalso; first | contradiction | omega))))
  refine W.ret ?_
  exact RetR.own (ob' := [.pv [.d (dS key)]]) ⟨[0], [0], 3⟩ (.inl rfl) rfl (by first | trivial | exact resOK_of (E := env) rfl) rfl rfl rfl rfl rfl rfl ⟨rfl, trivial⟩ rfl ⟨rfl, rfl⟩

set_option maxHeartbeats 1000000 in
theorem GetKey_fn (cs : List Cell) (hf : fitsC cs) (key : ByteArray) (hs : key.size ≤ 1048576) : Fun env.P 77 [cellsD cs, dS key] (.agg [vI .i64 (oneCode cs (keyO2 (valOfM cs).1 key).1), .og 0 0]) [.gr 5 91 ((oneCells cs (keyO2 (valOfM cs).1 key).1 (keyO2 (valOfM cs).1 key).2).map Cell.row) 0 false] := by
  have h1 := ofOneC_fn (f := 147) (dS key) cs hf (keyO2 (valOfM cs).1 key).1 (keyO2 (valOfM cs).1 key).2 (fun h0 => getKeyC_fn _ (valOfM_fine h0).1 key hs) (oneOK fun h0 => keyO2_fine (valOfM_fine h0).1 key)
  generalize oneCode cs (keyO2 (valOfM cs).1 key).1 = code at h1 ⊢
  generalize oneCells cs (keyO2 (valOfM cs).1 key).1 (keyO2 (valOfM cs).1 key).2 = rs at h1 ⊢
  refine Fun.intro Try.func77 rfl (by kernel_rfl) rfl ?_
  repeat' (first | refine W.seq ?_ | refine W.rg ?_ | refine W.dra' ?_ | refine W.block ?_ | refine W.skip ?_ | refine W.exit ?_ | refine W.cond_true' ?_ | refine W.cond_false' ?_ | refine WG.nil ?_ | refine WG.run' (E := env) ?_ | refine WG.gt' ?_ | refine WG.gf' ?_ | refine WG.ixm' (E := env) ?_ | refine WG.ixo' (E := env) ?_ | refine WG.legm' (E := env) ?_ | refine WG.slS' (E := env) ?_ | refine WG.slD' (E := env) ?_ | refine WG.ap' (E := env) ?_ | refine WD.nil ?_ | refine WD.bs' (E := env) ?_ | refine WD.s' (E := env) (t := .d _) ?_ | refine WD.p' ?_ | refine WD.px' ?_ | refine WD.s' (E := env) (t := .ea _ _) ?_ | refine WD.s' (E := env) (t := .lp _ _) ?_ | refine WD.s' (E := env) (t := .og _ _) ?_ | refine WD.s' (E := env) (t := .agg _) ?_ | refine WD.s' (E := env) (t := .tup _) ?_ | refine WD.s' (E := env) (t := .clo _ _) ?_ | refine WD.ixm' (E := env) ?_ | refine WD.ixo' (E := env) ?_ | refine WD.legm' (E := env) ?_ | refine WD.slS' (E := env) ?_ | refine WD.slD' (E := env) ?_ | ((first | refine WG.sp' (fun h => ?_) fun h => ?_ | refine W.cond' (fun h => ?_) fun h => ?_ | refine WD.sp' (fun h => ?_) fun h => ?_) <;> (try simp only [decide_eq_true_eq, decide_eq_false_iff_not, Bool.not_eq_true', Bool.not_eq_false', Bool.and_eq_true, Bool.or_eq_true, Bool.and_eq_false_iff, Bool.or_eq_false_iff, Bool.not_eq_true, Bool.not_eq_false, Int.not_lt, Int.not_le, List.length_map, beq_self_eq_true, Bool.true_eq_false, Bool.false_eq_true] at h) <;> (try (exfalso; first | contradiction | omega))))
  refine WG.cq (E := env) (K := 2) (t' := .agg [vI .i64 code, .og 2 0]) (ob2 := [.pv [.d (dS key)], .pv [.d (dI 0), .d (.nl 5)], .gr 5 91 (rs.map Cell.row) 0 false]) [0] [0] false rfl rfl h1 rfl rfl rfl rfl rfl rfl rfl ⟨rfl, trivial⟩ (.inl rfl) rfl (fun h => nomatch h) rfl rfl ?_
  repeat' (first | refine W.seq ?_ | refine W.rg ?_ | refine W.dra' ?_ | refine W.block ?_ | refine W.skip ?_ | refine W.exit ?_ | refine W.cond_true' ?_ | refine W.cond_false' ?_ | refine WG.nil ?_ | refine WG.run' (E := env) ?_ | refine WG.gt' ?_ | refine WG.gf' ?_ | refine WG.ixm' (E := env) ?_ | refine WG.ixo' (E := env) ?_ | refine WG.legm' (E := env) ?_ | refine WG.slS' (E := env) ?_ | refine WG.slD' (E := env) ?_ | refine WG.ap' (E := env) ?_ | refine WD.nil ?_ | refine WD.bs' (E := env) ?_ | refine WD.s' (E := env) (t := .d _) ?_ | refine WD.p' ?_ | refine WD.px' ?_ | refine WD.s' (E := env) (t := .ea _ _) ?_ | refine WD.s' (E := env) (t := .lp _ _) ?_ | refine WD.s' (E := env) (t := .og _ _) ?_ | refine WD.s' (E := env) (t := .agg _) ?_ | refine WD.s' (E := env) (t := .tup _) ?_ | refine WD.s' (E := env) (t := .clo _ _) ?_ | refine WD.ixm' (E := env) ?_ | refine WD.ixo' (E := env) ?_ | refine WD.legm' (E := env) ?_ | refine WD.slS' (E := env) ?_ | refine WD.slD' (E := env) ?_ | ((first | refine WG.sp' (fun h => ?_) fun h => ?_ | refine W.cond' (fun h => ?_) fun h => ?_ | refine WD.sp' (fun h => ?_) fun h => ?_) <;> (try simp only [decide_eq_true_eq, decide_eq_false_iff_not, Bool.not_eq_true', Bool.not_eq_false', Bool.and_eq_true, Bool.or_eq_true, Bool.and_eq_false_iff, Bool.or_eq_false_iff, Bool.not_eq_true, Bool.not_eq_false, Int.not_lt, Int.not_le, List.length_map, beq_self_eq_true, Bool.true_eq_false, Bool.false_eq_true] at h) <;> (try (exfalso; first | contradiction | omega))))
  (refine W.ret ?_; first | refine RetR.g' ?_ | refine RetR.ag' ?_ ?_ | refine RetR.agn' ?_ | exact RetR.gn' | refine RetR.ag3' ?_ ?_ ?_ | refine RetR.agn3' ?_ ?_)
  all_goals rfl

end Go.Proofs.Ytlegadpbjccelaa
