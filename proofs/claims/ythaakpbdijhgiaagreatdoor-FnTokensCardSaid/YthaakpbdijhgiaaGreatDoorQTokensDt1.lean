/-
  What the reference draws out of bytes: tokens. Conditions: at most 2^21 bytes.
-/
import Derived.Test.YthaakpbdijhgiaaGreatDoorQTokensDw1
import Derived.Test.YthaakpbdijhgiaaGreatDoorQTokensTk2
set_option linter.unusedVariables false
set_option linter.unusedSimpArgs false
set_option maxRecDepth 100000
namespace Go.Proofs.YthaakpbdijhgiaaGreatDoor
open Go.RowKit

/-- A token that is drawn. -/
def tkR (bs : List Int) (lo hi : Int) (t : T) (ob : List Ob) : Prop := ∃ (k : Int) (x : Tk), t = .d (.agg x.row) ∧ ob = [srcO bs k] ∧ lo ≤ k ∧ k ≤ hi ∧ x.text.size ≤ 100

def namesW : List ByteArray := [⟨#[97]⟩, ⟨#[105, 100]⟩, ⟨#[109, 97, 112]⟩, ⟨#[120, 49]⟩, ⟨#[105, 102]⟩]
def badW : List ByteArray := [⟨#[]⟩, ⟨#[65]⟩, ⟨#[120, 32, 121]⟩, ⟨#[10]⟩, ⟨#[33]⟩]
theorem namesW_small : ∀ x ∈ namesW, x.size ≤ 100 := by decide
theorem badW_small : ∀ x ∈ badW, x.size ≤ 100 := by decide
theorem wordsD_small : ∀ x ∈ wordsD, x.size ≤ 100 := by decide
theorem marksT_small : ∀ x ∈ marksT, x.size ≤ 100 := by decide

set_option maxHeartbeats 16000000 in
theorem l4Draw_fn (bs : List Int) (hb : okB bs) (k : Int) (hk : 0 ≤ k ∧ k ≤ 100000000000) : FunQ env.P 17 [.lp 0 0] [srcO bs k] (tkR bs k (k + 6)) := by
  obtain ⟨k1, e1⟩ : ∃ q, q = k + 1 := ⟨_, rfl⟩
  obtain ⟨k2, e2⟩ : ∃ q, q = k1 + 1 := ⟨_, rfl⟩
  obtain ⟨k3, e3⟩ : ∃ q, q = k2 + 1 := ⟨_, rfl⟩
  obtain ⟨k4, e4⟩ : ∃ q, q = k3 + 1 := ⟨_, rfl⟩
  obtain ⟨k5, e5⟩ : ∃ q, q = k4 + 1 := ⟨_, rfl⟩
  obtain ⟨k6, e6⟩ : ∃ q, q = k5 + 1 := ⟨_, rfl⟩
  have a0 := l1Next_fn bs k 6 hb ⟨by omega, by omega⟩
  have r0 := nextM_in (n := 6) (k := k) hb (by omega) (by omega)
  have a1 := l1Next_fn bs k1 9 hb ⟨by omega, by omega⟩
  have a2n := l1Next_fn bs k2 90 hb ⟨by omega, by omega⟩
  have a2m := l1Next_fn bs k2 25 hb ⟨by omega, by omega⟩
  have a2w := l1Next_fn bs k2 5 hb ⟨by omega, by omega⟩
  have r2m := nextM_in (n := 25) (k := k2) hb (by omega) (by omega)
  have r2w := nextM_in (n := 5) (k := k2) hb (by omega) (by omega)
  have a2s := l1Word_fn bs k2 hb ⟨by omega, by omega⟩
  have s2s := small_at wordsD_small (nextM bs k2 8).toNat
  have a3 := l1Next_fn bs k3 24 hb ⟨by omega, by omega⟩
  have a4 := l1Next_fn bs k4 6 hb ⟨by omega, by omega⟩
  have a4w := l1Next_fn bs k4 5 hb ⟨by omega, by omega⟩
  have r4 := nextM_in (n := 6) (k := k4) hb (by omega) (by omega)
  have r4w := nextM_in (n := 5) (k := k4) hb (by omega) (by omega)
  have p5 := fun v : Int => l1Pick_fn bs k5 [0, 7, 1 + v] hb ⟨by omega, by omega⟩ ⟨by simp, by simp⟩
  have p4 := l1Pick_fn bs k4 [1, -1, 1000000000000000, 1000000000000001] hb ⟨by omega, by omega⟩ ⟨by simp, by simp⟩
  have sn := small_at namesW_small
  have sb := small_at badW_small
  have sm := small_at marksT_small
  have hm := marksS_fn
  rw [← e1] at a0
  rw [← e2] at a1
  rw [← e3] at a2n a2m a2w a2s
  rw [← e4] at a3
  rw [← e5] at a4 a4w p4
  simp only [← e6] at p5
  generalize nextM bs k 6 = v0 at *
  generalize nextM bs k1 9 = v1 at *
  generalize nextM bs k2 90 = v2n at *
  generalize nextM bs k2 25 = v2m at *
  generalize nextM bs k2 5 = v2w at *
  generalize wordsD.getD (nextM bs k2 8).toNat default = w2 at *
  generalize nextM bs k3 24 = v3 at *
  generalize nextM bs k4 6 = v4 at *
  generalize nextM bs k4 5 = v4w at *
  have p5 := p5 v4
  generalize List.getD [0, 7, 1 + v4] _ default = u5 at p5
  generalize List.getD [1, -1, 1000000000000000, 1000000000000001] _ default = u4 at p4
  refine FunQ.intro Tryz.func17 rfl (by kernel_rfl) rfl ?_
  repeat' (first | refine WG.bsD (E := env) (rows := namesW.map fun x => [dS x]) ?_ | refine WG.bsD (E := env) (rows := badW.map fun x => [dS x]) ?_ | refine W.seq ?_ | refine W.rg ?_ | refine W.dra' ?_ | refine W.block ?_ | refine W.skip ?_ | refine W.exit ?_ | refine W.cond_true' ?_ | refine W.cond_false' ?_ | refine WG.nil ?_ | refine WG.run' (E := env) ?_ | refine WG.gt' ?_ | refine WG.gf' ?_ | refine WG.ixm' (E := env) ?_ | refine WG.ixo' (E := env) ?_ | refine WG.legm' (E := env) ?_ | refine WG.slS' (E := env) ?_ | refine WG.slD' (E := env) ?_ | refine WG.ap' (E := env) ?_ | refine WD.nil ?_ | refine WD.bs' (E := env) ?_ | refine WD.s' (E := env) (t := .d _) ?_ | refine WD.p' ?_ | refine WD.px' ?_ | refine WD.s' (E := env) (t := .ea _ _) ?_ | refine WD.s' (E := env) (t := .lp _ _) ?_ | refine WD.s' (E := env) (t := .og _ _) ?_ | refine WD.s' (E := env) (t := .agg _) ?_ | refine WD.s' (E := env) (t := .tup _) ?_ | refine WD.s' (E := env) (t := .clo _ _) ?_ | refine WD.ixm' (E := env) ?_ | refine WD.ixo' (E := env) ?_ | refine WD.legm' (E := env) ?_ | refine WD.slS' (E := env) ?_ | refine WD.slD' (E := env) ?_ | refine WG.pubD 3 rfl ?_ | refine WG.ixm (E := env) (f := fun x => [dS x]) (f' := fun x => [dS x]) (xs := namesW) rfl rfl rfl rfl rfl rfl rfl (fun _ => rfl) ⟨by omega, by show _ < 5; omega⟩ ?_ | refine WG.ixm (E := env) (f := fun x => [dS x]) (f' := fun x => [dS x]) (xs := badW) rfl rfl rfl rfl rfl rfl rfl (fun _ => rfl) ⟨by omega, by show _ < 5; omega⟩ ?_ | refine WG.ixm (E := env) (f := fun x => [dS x]) (f' := fun x => [dS x]) (xs := marksT) rfl rfl rfl rfl rfl rfl rfl (fun _ => rfl) ⟨by omega, by show _ < 25; omega⟩ ?_ | refine WG.cq (E := env) (t' := .d _) (ob2 := [srcO bs k1, _]) [0] [0] false rfl rfl (a0) rfl rfl rfl rfl rfl rfl rfl (by first | exact trivial | exact ⟨rfl, trivial⟩ | exact ⟨rfl, rfl, trivial⟩) (.inl rfl) rfl (fun h => nomatch h) rfl rfl ?_ | refine WG.cq (E := env) (t' := .d _) (ob2 := [srcO bs k2, _]) [0] [0] false rfl rfl (a1) rfl rfl rfl rfl rfl rfl rfl (by first | exact trivial | exact ⟨rfl, trivial⟩ | exact ⟨rfl, rfl, trivial⟩) (.inl rfl) rfl (fun h => nomatch h) rfl rfl ?_ | refine WG.cq (E := env) (t' := .d _) (ob2 := [srcO bs k3, _, _]) [0] [0] false rfl rfl (a2n) rfl rfl rfl rfl rfl rfl rfl (by first | exact trivial | exact ⟨rfl, trivial⟩ | exact ⟨rfl, rfl, trivial⟩) (.inl rfl) rfl (fun h => nomatch h) rfl rfl ?_ | refine WG.cq (E := env) (t' := .d _) (ob2 := [srcO bs k3, _, _]) [0] [0] false rfl rfl (a2m) rfl rfl rfl rfl rfl rfl rfl (by first | exact trivial | exact ⟨rfl, trivial⟩ | exact ⟨rfl, rfl, trivial⟩) (.inl rfl) rfl (fun h => nomatch h) rfl rfl ?_ | refine WG.cq (E := env) (t' := .d _) (ob2 := [srcO bs k3, _, _]) [0] [0] false rfl rfl (a2w) rfl rfl rfl rfl rfl rfl rfl (by first | exact trivial | exact ⟨rfl, trivial⟩ | exact ⟨rfl, rfl, trivial⟩) (.inl rfl) rfl (fun h => nomatch h) rfl rfl ?_ | refine WG.cq (E := env) (t' := .d _) (ob2 := [srcO bs k3, _, _]) [0] [0] false rfl rfl (a2s) rfl rfl rfl rfl rfl rfl rfl (by first | exact trivial | exact ⟨rfl, trivial⟩ | exact ⟨rfl, rfl, trivial⟩) (.inl rfl) rfl (fun h => nomatch h) rfl rfl ?_ | refine WG.cq (E := env) (t' := .d _) (ob2 := [srcO bs k4, _, _]) [0] [0] false rfl rfl (a3) rfl rfl rfl rfl rfl rfl rfl (by first | exact trivial | exact ⟨rfl, trivial⟩ | exact ⟨rfl, rfl, trivial⟩) (.inl rfl) rfl (fun h => nomatch h) rfl rfl ?_ | refine WG.cq (E := env) (t' := .d _) (ob2 := [srcO bs k5, _, _]) [0] [0] false rfl rfl (a4) rfl rfl rfl rfl rfl rfl rfl (by first | exact trivial | exact ⟨rfl, trivial⟩ | exact ⟨rfl, rfl, trivial⟩) (.inl rfl) rfl (fun h => nomatch h) rfl rfl ?_ | refine WG.cq (E := env) (t' := .d _) (ob2 := [srcO bs k5, _, _]) [0] [0] false rfl rfl (a4w) rfl rfl rfl rfl rfl rfl rfl (by first | exact trivial | exact ⟨rfl, trivial⟩ | exact ⟨rfl, rfl, trivial⟩) (.inl rfl) rfl (fun h => nomatch h) rfl rfl ?_ | refine WG.cq (E := env) (t' := .d _) (ob2 := [srcO bs k6, _, _, _]) [0] [0] false rfl rfl (p5) rfl rfl rfl rfl rfl rfl rfl (by first | exact trivial | exact ⟨rfl, trivial⟩ | exact ⟨rfl, rfl, trivial⟩) (.inl rfl) rfl (fun h => nomatch h) rfl rfl ?_ | refine WG.cq (E := env) (t' := .d _) (ob2 := [srcO bs k5, _, _, _]) [0] [0] false rfl rfl (p4) rfl rfl rfl rfl rfl rfl rfl (by first | exact trivial | exact ⟨rfl, trivial⟩ | exact ⟨rfl, rfl, trivial⟩) (.inl rfl) rfl (fun h => nomatch h) rfl rfl ?_ | refine WG.c (E := env) rfl rfl (hm) rfl rfl ?_ | refine WD.c (E := env) rfl rfl (hm) rfl rfl ?_ | refine WG.co (E := env) rfl rfl (hm) rfl rfl rfl rfl ?_ | refine WG.cx (E := env) rfl (hm) rfl ?_ | ((first | refine WG.sp' (fun h => ?_) fun h => ?_ | refine W.cond' (fun h => ?_) fun h => ?_ | refine WD.sp' (fun h => ?_) fun h => ?_) <;> (try simp only [decide_eq_true_eq, decide_eq_false_iff_not, Bool.not_eq_true', Bool.not_eq_false', Bool.and_eq_true, Bool.or_eq_true, Bool.and_eq_false_iff, Bool.or_eq_false_iff, Bool.not_eq_true, Bool.not_eq_false, Int.not_lt, Int.not_le, List.length_map, beq_self_eq_true, Bool.true_eq_false, Bool.false_eq_true] at h) <;> (try (exfalso; first | contradiction | omega))))
  all_goals first | (exfalso; omega) | skip
  all_goals first | (exfalso; omega) | skip
  all_goals refine W.ret ?_
  all_goals first
    | refine RetR.own (t := .d (.agg [dI _, dI _, dI _, dS _])) (ob' := [srcO bs _]) ⟨[0], [0], 3⟩ (.inl rfl) rfl (by first | trivial | exact resOK_of (E := env) rfl) rfl rfl rfl rfl rfl rfl ⟨rfl, trivial⟩ rfl ⟨_, ⟨_, _, _, _⟩, rfl, rfl, by omega, by omega, ?_⟩
    | refine RetR.own (t := .d (.agg [dI _, dI _, dI _, dS _])) (ob' := [srcO bs _]) ⟨[0], [0], 4⟩ (.inl rfl) rfl (by first | trivial | exact resOK_of (E := env) rfl) rfl rfl rfl rfl rfl rfl ⟨rfl, trivial⟩ rfl ⟨_, ⟨_, _, _, _⟩, rfl, rfl, by omega, by omega, ?_⟩
  all_goals first | exact s2s | exact sn _ | exact sb _ | exact sm _ | exact Nat.zero_le _

end Go.Proofs.YthaakpbdijhgiaaGreatDoor
