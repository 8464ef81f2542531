/-
  What the reference draws out of bytes: values. Conditions: at most 2^21 bytes, at most 10^11 draws.
-/
import Derived.Test.YtlegadpbjccelaaQSortsDw1
import Derived.Test.YtlegadpbjccelaaQSortsG1
import Derived.Test.YtlegadpbjccelaaQSortsAd3
import Derived.Test.YtlegadpbjccelaaQSortsG6
import Derived.Test.YtlegadpbjccelaaQSortsG17
set_option linter.unusedVariables false
set_option linter.unusedSimpArgs false
set_option maxRecDepth 100000
namespace Go.Proofs.Ytlegadpbjccelaa
open Go.RowKit

def Cell.small (c : Cell) : Prop := c.text.size ≤ 100 ∧ c.key.size ≤ 100 ∧ 0 ≤ c.n ∧ c.n ≤ 1000
def smallC (M : Nat) (cs : List Cell) : Prop := cs ≠ [] ∧ cs.length ≤ M ∧ ∀ c ∈ cs, c.small

theorem small_cell (k num : Int) (t : ByteArray) (h : t.size ≤ 100) : Cell.small ⟨k, num, t, noS, 0⟩ := ⟨h, Nat.zero_le _, Int.le_refl _, by show (0 : Int) ≤ 1000; decide⟩

theorem smallC_one {c : Cell} (h : c.small) : smallC 1 [c] := ⟨by simp, by simp, fun x hx => by rw [List.mem_singleton.1 hx]; exact h⟩
theorem smallC_mono {M M' : Nat} (h : M ≤ M') {cs : List Cell} (hc : smallC M cs) : smallC M' cs := ⟨hc.1, by have := hc.2.1; omega, hc.2.2⟩

theorem flatten_le {M : Nat} : ∀ {xs : List (List Cell)}, (∀ x ∈ xs, x.length ≤ M) → xs.flatten.length ≤ xs.length * M
  | [], _ => by simp
  | x :: r, h => by
    have h1 := h x (List.mem_cons_self ..)
    have h2 := flatten_le (M := M) (xs := r) fun y hy => h y (List.mem_cons_of_mem _ hy)
    simp only [List.flatten_cons, List.length_append, List.length_cons, Nat.succ_mul]
    omega

/-- A draw of a value: where the bytes stand behind it. -/
def drawR (bs : List Int) (lo hi : Int) (M : Nat) (t : T) (ob : List Ob) : Prop :=
  ∃ (k : Int) (cs : List Cell), t = .og 1 0 ∧ ob = [srcO bs k, .gr 5 91 (cs.map Cell.row) 0 false] ∧ lo ≤ k ∧ k ≤ hi ∧ smallC M cs

set_option maxHeartbeats 8000000 in
/-- A value without parts. -/
theorem l1Leaf_fn (bs : List Int) (hb : okB bs) (k d : Int) (hk : 0 ≤ k ∧ k ≤ 100000000000) (hd : 1 ≤ d ∧ d ≤ 3) (hleaf : d = 1 ∨ nextM bs k 10 ≤ 6) :
    FunQ env.P 162 [.lp 0 0, .d (dI d)] [srcO bs k] (drawR bs k (k + 8) 1) := by
  have h0 := l1Next_fn bs k 10 hb ⟨by omega, by omega⟩
  have r0 := nextM_in (n := 10) hb hk.1 (by omega)
  have h1 := l1Next_fn bs (k + 1) 9 hb ⟨by omega, by omega⟩
  have h2 := l1Next_fn bs (k + 1 + 1) 9 hb ⟨by omega, by omega⟩
  have h3 := l1Next_fn bs (k + 1 + 1 + 1) 40 hb ⟨by omega, by omega⟩
  have r3 := nextM_in (n := 40) (k := k + 1 + 1 + 1) hb (by omega) (by omega)
  have h4 := l1Pick_fn bs (k + 1 + 1 + 1 + 1) [nextM bs (k + 1) 9, nextM bs (k + 1 + 1) 9, -nextM bs (k + 1 + 1 + 1) 40, 1000000000000000] hb ⟨by omega, by omega⟩ ⟨by simp, by simp⟩
  have h5 := l1Word_fn bs (k + 1) hb ⟨by omega, by omega⟩
  have h5s := small_at (l := wordsD) (by decide) (nextM bs (k + 1) 8).toNat
  generalize ([nextM bs (k + 1) 9, nextM bs (k + 1 + 1) 9, -nextM bs (k + 1 + 1 + 1) 40, 1000000000000000] : List Int).getD _ default = pv at h4
  generalize wordsD.getD (nextM bs (k + 1) 8).toNat default = wd at h5 h5s
  generalize nextM bs k 10 = q0 at h0 r0 hleaf
  generalize nextM bs (k + 1) 9 = q1 at h1 h4
  generalize nextM bs (k + 1 + 1) 9 = q2 at h2 h4
  generalize nextM bs (k + 1 + 1 + 1) 40 = q3 at h3 h4 r3
  have hn := l1Number_fn pv
  have hs := l1String_fn wd
  refine FunQ.intro Try.func162 rfl (by kernel_rfl) rfl ?_
  repeat' (first | refine W.seq ?_ | refine W.rg ?_ | refine W.dra' ?_ | refine W.block ?_ | refine W.skip ?_ | refine W.exit ?_ | refine W.cond_true' ?_ | refine W.cond_false' ?_ | refine WG.nil ?_ | refine WG.run' (E := env) ?_ | refine WG.gt' ?_ | refine WG.gf' ?_ | refine WG.ixm' (E := env) ?_ | refine WG.ixo' (E := env) ?_ | refine WG.legm' (E := env) ?_ | refine WG.slS' (E := env) ?_ | refine WG.slD' (E := env) ?_ | refine WG.ap' (E := env) ?_ | refine WD.nil ?_ | refine WD.bs' (E := env) ?_ | refine WD.s' (E := env) (t := .d _) ?_ | refine WD.p' ?_ | refine WD.px' ?_ | refine WD.s' (E := env) (t := .ea _ _) ?_ | refine WD.s' (E := env) (t := .lp _ _) ?_ | refine WD.s' (E := env) (t := .og _ _) ?_ | refine WD.s' (E := env) (t := .agg _) ?_ | refine WD.s' (E := env) (t := .tup _) ?_ | refine WD.s' (E := env) (t := .clo _ _) ?_ | refine WD.ixm' (E := env) ?_ | refine WD.ixo' (E := env) ?_ | refine WD.legm' (E := env) ?_ | refine WD.slS' (E := env) ?_ | refine WD.slD' (E := env) ?_ | refine WG.cq (E := env) (t' := .d (dI q0)) (ob2 := [srcO bs (k + 1)]) [0] [0] false rfl rfl h0 rfl rfl rfl rfl rfl rfl rfl ⟨rfl, trivial⟩ (.inl rfl) rfl (fun h => nomatch h) rfl rfl ?_ | refine WG.cq (E := env) (t' := .d (dI q1)) (ob2 := [srcO bs (k + 1 + 1)]) [0] [0] false rfl rfl h1 rfl rfl rfl rfl rfl rfl rfl ⟨rfl, trivial⟩ (.inl rfl) rfl (fun h => nomatch h) rfl rfl ?_ | refine WG.cq (E := env) (t' := .d (dI q2)) (ob2 := [srcO bs (k + 1 + 1 + 1)]) [0] [0] false rfl rfl h2 rfl rfl rfl rfl rfl rfl rfl ⟨rfl, trivial⟩ (.inl rfl) rfl (fun h => nomatch h) rfl rfl ?_ | refine WG.cq (E := env) (t' := .d (dI q3)) (ob2 := [srcO bs (k + 1 + 1 + 1 + 1)]) [0] [0] false rfl rfl h3 rfl rfl rfl rfl rfl rfl rfl ⟨rfl, trivial⟩ (.inl rfl) rfl (fun h => nomatch h) rfl rfl ?_ | refine WG.cq (E := env) (t' := .d (dI pv)) (ob2 := [srcO bs (k + 1 + 1 + 1 + 1 + 1), .gr 1 2 (([q1, q2, -q3, 1000000000000000] : List Int).map intRow) 0 true]) [0] [0] false rfl rfl h4 rfl rfl rfl rfl rfl rfl rfl ⟨rfl, trivial⟩ (.inl rfl) rfl (fun h => nomatch h) rfl rfl ?_ | refine WG.cq (E := env) (t' := .d (dS wd)) (ob2 := [srcO bs (k + 1 + 1)]) [0] [0] false rfl rfl h5 rfl rfl rfl rfl rfl rfl rfl ⟨rfl, trivial⟩ (.inl rfl) rfl (fun h => nomatch h) rfl rfl ?_ | refine WG.pubD 1 rfl ?_ | refine WG.coG' (E := env) rfl rfl (hn) rfl ?_ | refine WG.coA' (E := env) rfl rfl (hn) rfl ?_ | refine WG.coA3' (E := env) rfl rfl (hn) rfl ?_ | refine WG.coG' (E := env) rfl rfl (hs) rfl ?_ | refine WG.coA' (E := env) rfl rfl (hs) rfl ?_ | refine WG.coA3' (E := env) rfl rfl (hs) rfl ?_ | ((first | refine WG.sp' (fun h => ?_) fun h => ?_ | refine W.cond' (fun h => ?_) fun h => ?_ | refine WD.sp' (fun h => ?_) fun h => ?_) <;> (try simp only [decide_eq_true_eq, decide_eq_false_iff_not, Bool.not_eq_true', Bool.not_eq_false', Bool.and_eq_true, Bool.or_eq_true, Bool.and_eq_false_iff, Bool.or_eq_false_iff, Bool.not_eq_true, Bool.not_eq_false, Int.not_lt, Int.not_le, List.length_map, beq_self_eq_true, Bool.true_eq_false, Bool.false_eq_true] at h) <;> (try (exfalso; first | contradiction | omega))))
  all_goals first | (exfalso; omega) | skip
  all_goals refine W.ret ?_
  all_goals first
    | (exact RetR.own (ob' := [srcO bs (k + 1), .gr 5 91 (([⟨q0, 0, noS, noS, 0⟩] : List Cell).map Cell.row) 0 false]) ⟨[0, 1], [0, 0], 2⟩ (.inl rfl) rfl (by first | trivial | exact resOK_of (E := env) rfl) rfl rfl rfl rfl rfl rfl ⟨rfl, rfl, trivial⟩ rfl ⟨_, [⟨q0, 0, noS, noS, 0⟩], rfl, rfl, by omega, by omega, smallC_one (small_cell _ _ _ (by decide))⟩)
    | (exact RetR.own (ob' := [srcO bs (k + 1), .gr 5 91 (([⟨(q0 - 5), 0, noS, noS, 0⟩] : List Cell).map Cell.row) 0 false]) ⟨[0, 1], [0, 0], 2⟩ (.inl rfl) rfl (by first | trivial | exact resOK_of (E := env) rfl) rfl rfl rfl rfl rfl rfl ⟨rfl, rfl, trivial⟩ rfl ⟨_, [⟨(q0 - 5), 0, noS, noS, 0⟩], rfl, rfl, by omega, by omega, smallC_one (small_cell _ _ _ (by decide))⟩)
    | (exact RetR.own (ob' := [srcO bs (k + 1 + 1 + 1 + 1 + 1), .gr 5 91 (([⟨3, pv, noS, noS, 0⟩] : List Cell).map Cell.row) 0 false]) ⟨[0, 2], [0, 0], 3⟩ (.inl rfl) rfl (by first | trivial | exact resOK_of (E := env) rfl) rfl rfl rfl rfl rfl rfl ⟨rfl, rfl, trivial⟩ rfl ⟨_, [⟨3, pv, noS, noS, 0⟩], rfl, rfl, by omega, by omega, smallC_one (small_cell _ _ _ (by decide))⟩)
    | (exact RetR.own (ob' := [srcO bs (k + 1 + 1), .gr 5 91 (([⟨4, 0, wd, noS, 0⟩] : List Cell).map Cell.row) 0 false]) ⟨[0, 1], [0, 0], 2⟩ (.inl rfl) rfl (by first | trivial | exact resOK_of (E := env) rfl) rfl rfl rfl rfl rfl rfl ⟨rfl, rfl, trivial⟩ rfl ⟨_, [⟨4, 0, wd, noS, 0⟩], rfl, rfl, by omega, by omega, smallC_one (small_cell _ _ _ (h5s))⟩)

end Go.Proofs.Ytlegadpbjccelaa
