/-
  impl.object: the walk. Conditions: none.
-/
import Derived.Test.YtmmjbpgdkokjgaaGreatQLowerTreeMp2
set_option linter.unusedVariables false
set_option linter.unusedSimpArgs false
set_option maxRecDepth 100000
namespace Go.Proofs.YtmmjbpgdkokjgaaGreat
open Go.RowKit

theorem ud_map : env.P.underlying 107 = some (.map 9 74) := by kernel_rfl
theorem ud_str : env.P.underlying 9 = some .string := env.string rfl

set_option maxHeartbeats 4000000 in
theorem objectP_fn (keys : List ByteArray) (vals : List V) (hl : keys.length = vals.length) (hk : ∀ k ∈ keys, k.size ≤ maxLen) (h1 : keys.length ≤ 1000000) :
    Fun env.P 45 [.sl 1 (keys.map keyRow), .sl 5 (vals.map V.row)] (.d (.agg (objV (objK keys keys.length) (objX keys vals keys.length)).rowP)) [] := by
  refine Fun.intro Tryz.func45 rfl (by kernel_rfl) rfl ?_
  repeat' (first | refine WG.mkM' 9 (fun b => ?_) | refine W.seq ?_ | refine W.rg ?_ | refine W.block ?_ | refine W.skip ?_ | refine W.exit ?_ | refine W.cond_true' ?_ | refine W.cond_false' ?_ | refine WG.nil ?_ | refine WG.run' (E := env) ?_ | refine WG.ixm' (E := env) ?_ | refine WG.ixo' (E := env) ?_ | refine WG.legm' (E := env) ?_ | refine WG.ap' (E := env) ?_ | fail | ((refine W.cond' (fun h => ?_) fun h => ?_) <;> (try simp only [atS, List.length_map, beq_self_eq_true] at h) <;> (try (exfalso; first | contradiction | omega))))
  refine W.loop (fun m S => ∃ (i : Nat) (mm : ByteArray → Option D), m = keys.length - i ∧ (i ≤ keys.length ∧ mm = lastD keys vals i) ∧
    S = ⟨ofL [(0, .d (.sl 1 (keys.map keyRow))), (1, .d (.sl 5 (vals.map V.row))), (4, .lp 0 0), (5, mpT b), (13, .d (.sl 1 (keys.map keyRow))), (14, vI .i64 (keys.map keyRow).length), (15, vI .i64 i)],
      [.pv [.d (dI 0), .d (dI 0), .d (dS ByteArray.empty), .d (.nl 1), .d (.nl 5)], .x (mapX env.P 9 b i mm) 0]⟩) _ _ ⟨0, fun _ => none, rfl, ⟨by omega, rfl⟩, rfl⟩ (by (refine le_ofL rfl ?_ ?_ <;> (repeat (first | exact trivial | refine ⟨⟨rfl, rfl⟩, ?_⟩ | refine ⟨rfl, .inl rfl, ?_⟩ | refine ⟨rfl, .inr rfl, ?_⟩)))) ?_
  rintro m S ⟨i, mm, rfl, ⟨hi, rfl⟩, rfl⟩
  have hkr : (keys.map keyRow).length = keys.length := by simp
  have hvr : (vals.map V.row).length = vals.length := by simp
  by_cases hlt : i < keys.length
  · have him : i < maxLen := Nat.lt_of_lt_of_le hlt (Nat.le_trans h1 (Nat.le_of_ble_eq_true rfl))
    have hks : (keys.getD (Int.toNat (i : Int)) default).size ≤ maxLen := hk _ (getD_mem' (by omega))
    repeat' (first | refine WG.ixm' (f := V.row) (f' := V.rowP) ?_ (hf := V.row_eq) | refine WG.upM' 1 ud_map ud_str ?_ | refine W.seq ?_ | refine W.rg ?_ | refine W.block ?_ | refine W.skip ?_ | refine W.exit ?_ | refine W.cond_true' ?_ | refine W.cond_false' ?_ | refine WG.nil ?_ | refine WG.run' (E := env) ?_ | refine WG.ixm' (E := env) ?_ | refine WG.ixo' (E := env) ?_ | refine WG.legm' (E := env) ?_ | refine WG.ap' (E := env) ?_ | fail | ((refine W.cond' (fun h => ?_) fun h => ?_) <;> (try simp only [atS, List.length_map, beq_self_eq_true] at h) <;> (try (exfalso; first | contradiction | omega))))
    refine ⟨_, _, by omega, ⟨i + 1, _, rfl, ⟨by omega, lastD_step keys vals i⟩, rfl⟩, (by (refine le_ofL rfl ?_ ?_ <;> (repeat (first | exact trivial | refine ⟨⟨rfl, rfl⟩, ?_⟩ | refine ⟨rfl, .inl rfl, ?_⟩ | refine ⟨rfl, .inr rfl, ?_⟩))))⟩
  obtain rfl : i = keys.length := by omega
  repeat' (first | refine WG.rgM' 1 ud_map ud_str (fun r cnt => ?_) | refine W.seq ?_ | refine W.rg ?_ | refine W.block ?_ | refine W.skip ?_ | refine W.exit ?_ | refine W.cond_true' ?_ | refine W.cond_false' ?_ | refine WG.nil ?_ | refine WG.run' (E := env) ?_ | refine WG.ixm' (E := env) ?_ | refine WG.ixo' (E := env) ?_ | refine WG.legm' (E := env) ?_ | refine WG.ap' (E := env) ?_ | fail | ((refine W.cond' (fun h => ?_) fun h => ?_) <;> (try simp only [atS, List.length_map, beq_self_eq_true] at h) <;> (try (exfalso; first | contradiction | omega))))
  refine W.adoptPv 2 3 9 rfl rfl ?_
  refine W.loopI (fun m S => ∃ (ks : List ByteArray) (lf : ByteArray → Bool) (cur : Option ByteArray) (cn : Nat) (rk : List (List D)), m = cn ∧ (ks.Nodup ∧ (∀ x : ByteArray, x.size ≤ maxLen → lf x = ((lastM keys vals keys.length x).isSome && !among ks x)) ∧ (∀ x ∈ ks, (lastM keys vals keys.length x).isSome = true) ∧ rk = ks.map keyRow) ∧
    S = ⟨ofL [(4, .lp 0 0), (5, mpT b), (8, .lp 2 0), (29, itT r)],
      [.pv [.d (dI 0), .d (dI 0), .d (dS ByteArray.empty), .d (.nl 1), .d (.nl 5)], .x (itX env.P 9 b r keys.length (lastD keys vals keys.length) lf cn cur) 0, .pv [.d (dI 6), .d (dI 0), .d (dS ByteArray.empty), .og 3 0, .d (.nl 5)], .gr 1 9 rk 0 false]⟩) _ _
    ⟨[], fun x => (lastD keys vals keys.length x).isSome, none, cnt, [], rfl, ⟨List.nodup_nil, fun x _ => by simp [lastD, among], fun x hx => by simp at hx, rfl⟩, rfl⟩ (St.imp.of_le (by (refine le_ofL rfl ?_ ?_ <;> (repeat (first | exact trivial | refine ⟨⟨rfl, rfl⟩, ?_⟩ | refine ⟨rfl, .inl rfl, ?_⟩ | refine ⟨rfl, .inr rfl, ?_⟩))))) ?_
  rintro m S ⟨ks, lf, cur, cn, rk, rfl, ⟨hn, hlf, hms, rfl⟩, rfl⟩
  have hkm : ks.length ≤ 1000000 := Nat.le_trans (nodup_len hn fun x hx => objK_sub keys _ (Nat.le_refl _) x ((objK_mem keys vals _ x).2 (hms x hx))) h1
  repeat' (first | refine WG.nxM' 1 ud_str (fun hall => ?_) (fun y cnt' hys hly hmy hlt => ?_) | refine WG.enM' 1 ?_ | refine W.seq ?_ | refine W.rg ?_ | refine W.block ?_ | refine W.skip ?_ | refine W.exit ?_ | refine W.cond_true' ?_ | refine W.cond_false' ?_ | refine WG.nil ?_ | refine WG.run' (E := env) ?_ | refine WG.ixm' (E := env) ?_ | refine WG.ixo' (E := env) ?_ | refine WG.legm' (E := env) ?_ | refine WG.ap' (E := env) ?_ | fail | ((refine W.cond' (fun h => ?_) fun h => ?_) <;> (try simp only [atS, List.length_map, beq_self_eq_true] at h) <;> (try (exfalso; first | contradiction | omega))))
  case refine_2 =>
    have hyM : (lastM keys vals keys.length y).isSome = true := by simpa [lastD] using hmy
    have hyk : among ks y = false := by
      have := hlf y hys
      rw [hly, hyM] at this
      simpa using this.symm
    have hyn : y ∉ ks := fun h => by rw [among_iff2.2 h] at hyk; cases hyk
    refine ⟨_, _, hlt, ⟨ks ++ [y], _, some y, cnt', _, rfl, ⟨?_, fun x hx => ?_, fun x hx => ?_, ?_⟩, rfl⟩, (St.imp.rev 3 1 rfl).trans (St.imp.of_le (by (refine le_ofL rfl ?_ ?_ <;> (repeat (first | exact trivial | refine ⟨⟨rfl, rfl⟩, ?_⟩ | refine ⟨rfl, .inl rfl, ?_⟩ | refine ⟨rfl, .inr rfl, ?_⟩)))))⟩
    · rw [List.nodup_append]
      exact ⟨hn, by simp, fun a ha b hb e => by simp at hb; subst hb; subst e; exact hyn ha⟩
    · rw [hlf x hx, among_appM]
      cases (lastM keys vals keys.length x).isSome <;> cases among ks x <;> rfl
    · rcases List.mem_append.1 hx with h | h
      · exact hms x h
      · simp at h; subst h; exact hyM
    · rw [List.map_append]; rfl
  have hkmem : ∀ x, x ∈ ks ↔ (lastM keys vals keys.length x).isSome = true := fun x => ⟨hms x, fun h => by
    have hx := hk x (objK_sub keys _ (Nat.le_refl _) x ((objK_mem keys vals _ x).2 h))
    have := hlf x hx
    rw [hall x hx, h] at this
    exact among_iff2.1 (by simpa using this.symm)⟩
  have hsrt := srt_obj keys vals hn hkmem
  have hso := slicesSort_fn ks (by omega)
  rw [hsrt] at hso
  repeat' (first | refine W.seq ?_ | refine W.rg ?_ | refine W.block ?_ | refine W.skip ?_ | refine W.exit ?_ | refine W.cond_true' ?_ | refine W.cond_false' ?_ | refine WG.nil ?_ | refine WG.run' (E := env) ?_ | refine WG.ixm' (E := env) ?_ | refine WG.ixo' (E := env) ?_ | refine WG.legm' (E := env) ?_ | refine WG.ap' (E := env) ?_ | refine WG.cq (E := env) [3] [0] false rfl rfl (hso) rfl rfl rfl rfl rfl rfl rfl (by first | exact trivial | exact ⟨rfl, trivial⟩ | exact ⟨rfl, rfl, trivial⟩) (.inl rfl) rfl (fun h => nomatch h) rfl rfl ?_ | ((refine W.cond' (fun h => ?_) fun h => ?_) <;> (try simp only [atS, List.length_map, beq_self_eq_true] at h) <;> (try (exfalso; first | contradiction | omega))))
  clear hso hkmem hms hlf hall hn hsrt hkm
  have hxl := objX_length keys vals keys.length
  have hol := objK_len keys keys.length
  have hat : ∀ j, j < (objK keys keys.length).length → lastD keys vals keys.length ((objK keys keys.length).getD j default) = some (.agg ((objX keys vals keys.length).getD j default).rowP) := fun j hj => by
    rw [lastD, obj_at keys vals hj]; rfl
  have hsz : ∀ j, j < (objK keys keys.length).length → ((objK keys keys.length).getD j default).size ≤ maxLen := fun j hj => hk _ (objK_sub keys _ (Nat.le_refl _) _ (getD_mem' hj))
  generalize objK keys keys.length = os at hxl hol hat hsz ⊢
  generalize objX keys vals keys.length = ov at hxl hat ⊢
  generalize lastD keys vals keys.length = mm at hat ⊢
  have hor : (os.map keyRow).length = os.length := by simp
  refine W.adoptPv 2 4 74 rfl rfl ?_
  refine W.loopI (fun m' S => ∃ (j : Nat) (rv : List (List D)), m' = os.length - j ∧ (j ≤ os.length ∧ rv.length ≤ j ∧ rv = (ov.take j).map V.row) ∧
    S = ⟨ofL [(4, .lp 0 0), (5, mpT b), (8, .lp 2 0), (44, .og 3 0), (45, vI .i64 (os.map keyRow).length), (46, vI .i64 j)],
      [.pv [.d (dI 0), .d (dI 0), .d (dS ByteArray.empty), .d (.nl 1), .d (.nl 5)], .x (itX env.P 9 b r keys.length mm lf m cur) 0, .pv [.d (dI 6), .d (dI 0), .d (dS ByteArray.empty), .og 3 0, .og 4 0], .gr 1 9 (os.map keyRow) 0 false, .gr 5 74 rv 0 false]⟩) _ _
    ⟨0, [], rfl, ⟨by omega, by simp, by simp⟩, rfl⟩ (St.imp.of_le (by (refine le_ofL rfl ?_ ?_ <;> (repeat (first | exact trivial | refine ⟨⟨rfl, rfl⟩, ?_⟩ | refine ⟨rfl, .inl rfl, ?_⟩ | refine ⟨rfl, .inr rfl, ?_⟩))))) ?_
  rintro m' S ⟨j, rv, rfl, ⟨hj, hrv, ev⟩, rfl⟩
  by_cases hlt : j < os.length
  · have hat1 := hat (Int.toNat (j : Int)) (by omega)
    have hsz1 := hsz (Int.toNat (j : Int)) (by omega)
    repeat' (first | refine WG.lkM' 1 ud_map ud_str hat1 ?_ | refine W.seq ?_ | refine W.rg ?_ | refine W.block ?_ | refine W.skip ?_ | refine W.exit ?_ | refine W.cond_true' ?_ | refine W.cond_false' ?_ | refine WG.nil ?_ | refine WG.run' (E := env) ?_ | refine WG.ixm' (E := env) ?_ | refine WG.ixo' (E := env) ?_ | refine WG.legm' (E := env) ?_ | refine WG.ap' (E := env) ?_ | fail | ((refine W.cond' (fun h => ?_) fun h => ?_) <;> (try simp only [atS, List.length_map, beq_self_eq_true] at h) <;> (try (exfalso; first | contradiction | omega))))
    refine ⟨_, _, by omega, ⟨j + 1, _, rfl, ⟨by omega, ?_, ?_⟩, rfl⟩, (St.imp.rev 4 1 rfl).trans (St.imp.of_le (by (refine le_ofL rfl ?_ ?_ <;> (repeat (first | exact trivial | refine ⟨⟨rfl, rfl⟩, ?_⟩ | refine ⟨rfl, .inl rfl, ?_⟩ | refine ⟨rfl, .inr rfl, ?_⟩)))))⟩
    · rw [List.length_append]; simp; omega
    · rw [take_step (by omega), List.map_append, ← ev]
      (try simp only [Int.toNat_natCast, Int.toNat_zero, toNat_cc, toNat_c1, toNat_cm1, toNat_cm] at *)
      rw [List.map_cons, List.map_nil, V.row_eq]
      rfl
  obtain rfl : j = os.length := by omega
  rw [List.take_of_length_le (by omega)] at ev
  subst ev
  refine W.pub 3 rfl ?_
  refine W.pub 4 rfl ?_
  repeat' (first | refine W.seq ?_ | refine W.rg ?_ | refine W.block ?_ | refine W.skip ?_ | refine W.exit ?_ | refine W.cond_true' ?_ | refine W.cond_false' ?_ | refine WG.nil ?_ | refine WG.run' (E := env) ?_ | refine WG.ixm' (E := env) ?_ | refine WG.ixo' (E := env) ?_ | refine WG.legm' (E := env) ?_ | refine WG.ap' (E := env) ?_ | ((refine W.cond' (fun h => ?_) fun h => ?_) <;> (try simp only [atS, List.length_map, beq_self_eq_true] at h) <;> (try (exfalso; first | contradiction | omega))))
  (refine W.ret ?_; (first | refine RetQ.d' ?_))
  rfl

end Go.Proofs.YtmmjbpgdkokjgaaGreat
