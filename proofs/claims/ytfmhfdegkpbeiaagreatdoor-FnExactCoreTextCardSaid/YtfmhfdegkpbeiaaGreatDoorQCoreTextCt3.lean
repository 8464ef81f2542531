/-
  The text of a core, by the reference; the law, walked. Conditions: the table of powers of ten is lent (the law).
-/
import Derived.Test.YtfmhfdegkpbeiaaGreatDoorQCoreTextCt2
import Derived.Test.YtfmhfdegkpbeiaaGreatDoorQCoreTextLt2
set_option linter.unusedVariables false
set_option linter.unusedSimpArgs false
set_option maxRecDepth 100000
namespace Go.Proofs.YtfmhfdegkpbeiaaGreatDoor
open Go.RowKit

def runT (s : ByteArray) (ws : List ByteArray) : ByteArray := ws.foldl (fun b w => (b ++ w) ++ ⟨#[32]⟩) s
theorem runT_snoc (s : ByteArray) (ws : List ByteArray) (w : ByteArray) : runT s (ws ++ [w]) = (runT s ws ++ w) ++ ⟨#[32]⟩ := by simp [runT]
theorem joinS_cons (w x : ByteArray) (r : List ByteArray) (sep : ByteArray) : joinS (w :: x :: r) sep = w ++ (sep ++ joinS (x :: r) sep) := by
  apply ba_eq
  rw [ba_app, ba_app]
  unfold joinS
  simp only [List.map_cons]
  rw [Lib.join_cons, Lib.join_cons]
  simp [Lib.joinTail]
theorem runT_join (v : ByteArray) : ∀ (ws : List ByteArray) (s : ByteArray), runT s ws ++ v = s ++ joinS (ws ++ [v]) ⟨#[32]⟩
  | [], s => by
    show s ++ v = s ++ joinS [v] _
    rw [joinS_one]
  | w :: r, s => by
    have h := runT_join v r ((s ++ w) ++ ⟨#[32]⟩)
    have e : runT s (w :: r) = runT ((s ++ w) ++ ⟨#[32]⟩) r := rfl
    rw [e, h]
    obtain ⟨x, t, ht⟩ : ∃ x t, r ++ [v] = x :: t := by
      cases r with
      | nil => exact ⟨_, _, rfl⟩
      | cons a b => exact ⟨_, _, rfl⟩
    rw [List.cons_append, ht, joinS_cons]
    simp only [ba_assoc]
theorem runT_size (B : Nat) : ∀ (ws : List ByteArray) (s : ByteArray), (∀ w ∈ ws, w.size ≤ B) → (runT s ws).size ≤ s.size + (B + 1) * ws.length
  | [], s, _ => Nat.le_refl _
  | w :: r, s, h => by
    have h1 := runT_size B r ((s ++ w) ++ ⟨#[32]⟩) fun x hx => h x (List.mem_cons_of_mem _ hx)
    have h2 := h w (List.mem_cons_self ..)
    have h3 : ((s ++ w) ++ ⟨#[32]⟩).size = s.size + w.size + 1 := by rw [ByteArray.size_append, ByteArray.size_append]; rfl
    have e : runT s (w :: r) = runT ((s ++ w) ++ ⟨#[32]⟩) r := rfl
    rw [e, List.length_cons, Nat.mul_add]
    omega

theorem getD_mapT {α β : Type} [Inhabited α] [Inhabited β] (f : α → β) (l : List α) {k : Nat} (h : k < l.length) : (l.map f).getD k default = f (l.getD k default) := by simp [List.getD_eq_getElem?_getD, h]

theorem l2Digits_int (x : Int) (h0 : 0 ≤ x) (h1 : x ≤ 1048576) : Fun env.P 67 [dI x] (.d (dS (itoaS x))) [] := by
  obtain ⟨m, rfl⟩ : ∃ m : Nat, x = (m : Int) := ⟨x.toNat, by omega⟩
  rw [itoaS_nat]
  exact l2Digits_fn m (by omega)

set_option maxHeartbeats 8000000 in
theorem CoreTextS_fn (cs : List Co) (hf : fitsK cs) : Fun env.P 35 [coresD cs] (.d (.agg [dI (coreM cs), dS (coreR cs)])) [] := by
  have hcf := CoreFaultS_fn cs hf.2 hf.1
  by_cases h0 : coreM cs = 0
  · rw [coreR, if_pos h0]
    obtain ⟨hl, hz⟩ := coreM_zero h0
    rw [h0] at hcf ⊢
    refine Fun.intro Tryz.func35 rfl (by kernel_rfl) rfl ?_
    repeat' (first | refine W.seq ?_ | refine W.rg ?_ | refine W.dra' ?_ | refine W.block ?_ | refine W.skip ?_ | refine W.exit ?_ | refine W.cond_true' ?_ | refine W.cond_false' ?_ | refine WG.nil ?_ | refine WG.run' (E := env) ?_ | refine WG.gt' ?_ | refine WG.gf' ?_ | refine WG.ixm' (E := env) ?_ | refine WG.ixo' (E := env) ?_ | refine WG.legm' (E := env) ?_ | refine WG.slS' (E := env) ?_ | refine WG.slD' (E := env) ?_ | refine WG.ap' (E := env) ?_ | refine WD.nil ?_ | refine WD.bs' (E := env) ?_ | refine WD.s' (E := env) (t := .d _) ?_ | refine WD.p' ?_ | refine WD.px' ?_ | refine WD.s' (E := env) (t := .ea _ _) ?_ | refine WD.s' (E := env) (t := .lp _ _) ?_ | refine WD.s' (E := env) (t := .og _ _) ?_ | refine WD.s' (E := env) (t := .agg _) ?_ | refine WD.s' (E := env) (t := .tup _) ?_ | refine WD.s' (E := env) (t := .clo _ _) ?_ | refine WD.ixm' (E := env) ?_ | refine WD.ixo' (E := env) ?_ | refine WD.legm' (E := env) ?_ | refine WD.slS' (E := env) ?_ | refine WD.slD' (E := env) ?_ | refine WG.c (E := env) rfl rfl (hcf) rfl rfl ?_ | refine WD.c (E := env) rfl rfl (hcf) rfl rfl ?_ | refine WG.co (E := env) rfl rfl (hcf) rfl rfl rfl rfl ?_ | refine WG.cx (E := env) rfl (hcf) rfl ?_ | ((first | refine WG.sp' (fun h => ?_) fun h => ?_ | refine W.cond' (fun h => ?_) fun h => ?_ | refine WD.sp' (fun h => ?_) fun h => ?_) <;> (try simp only [decide_eq_true_eq, decide_eq_false_iff_not, Bool.not_eq_true', Bool.not_eq_false', Bool.and_eq_true, Bool.or_eq_true, Bool.and_eq_false_iff, Bool.or_eq_false_iff, Bool.not_eq_true, Bool.not_eq_false, Int.not_lt, Int.not_le, List.length_map, beq_self_eq_true, Bool.true_eq_false, Bool.false_eq_true] at h) <;> (try (exfalso; first | contradiction | omega))))
    refine W.loopI (fun m S => ∃ (i : Nat) (s : ByteArray), m = cs.length - i ∧ (i ≤ cs.length ∧ s = coreT cs i) ∧ S = ⟨ofL [(0, .d (coresD cs)), (2, .lp 0 0), (4, vS s), (5, vI .i64 i)], [.pv [.d (dI 0), .d (dS ByteArray.empty)]]⟩) _ _ ⟨0, _, rfl, ⟨by omega, rfl⟩, rfl⟩ (St.imp.of_le (by (refine le_ofL rfl ?_ ?_ <;> (repeat (first | exact trivial | refine ⟨⟨rfl, rfl⟩, ?_⟩ | refine ⟨rfl, .inl rfl, ?_⟩ | refine ⟨rfl, .inr rfl, ?_⟩))))) ?_
    rintro m S ⟨i, s, rfl, ⟨hi, hs⟩, rfl⟩
    have hss := coreT_size hz (by omega) i hi
    rw [← hs] at hss
    have hsz : s.size ≤ 420008 * 900 := Nat.le_trans hss (Nat.mul_le_mul_left _ (by omega))
    by_cases hlt : i < cs.length
    · have hci : coreC (cs.getD (Int.toNat (i : Int)) default) i = 0 := by rw [Int.toNat_natCast]; exact hz i hlt
      have hfi : (cs.getD (Int.toNat (i : Int)) default).fine := hf.1 _ (getD_mem' (by rw [Int.toNat_natCast]; exact hlt))
      have hnx : coreT cs (i + 1) = s ++ lineK (cs.getD (Int.toNat (i : Int)) default) i := by rw [coreT, ← hs, Int.toNat_natCast]
      have hnb := numsK_bound hci (by omega)
      have hwz := word_size hci (by omega)
      have hvz := valT_size hci
      have hrj := runT_join (valT (cs.getD (Int.toNat (i : Int)) default)) (wordK (cs.getD (Int.toNat (i : Int)) default) i) s
      have hrz := runT_size 21 (wordK (cs.getD (Int.toNat (i : Int)) default) i) s fun w hw => (hwz w hw).2
      have hwl : (wordK (cs.getD (Int.toNat (i : Int)) default) i).length = 6 := rfl
      have h6 := l6HasVal_fn (cs.getD (Int.toNat (i : Int)) default).op
      repeat' (first | refine W.seq ?_ | refine W.rg ?_ | refine W.dra' ?_ | refine W.block ?_ | refine W.skip ?_ | refine W.exit ?_ | refine W.cond_true' ?_ | refine W.cond_false' ?_ | refine WG.nil ?_ | refine WG.run' (E := env) ?_ | refine WG.gt' ?_ | refine WG.gf' ?_ | refine WG.ixm' (E := env) ?_ | refine WG.ixo' (E := env) ?_ | refine WG.legm' (E := env) ?_ | refine WG.slS' (E := env) ?_ | refine WG.slD' (E := env) ?_ | refine WG.ap' (E := env) ?_ | refine WD.nil ?_ | refine WD.bs' (E := env) ?_ | refine WD.s' (E := env) (t := .d _) ?_ | refine WD.p' ?_ | refine WD.px' ?_ | refine WD.s' (E := env) (t := .ea _ _) ?_ | refine WD.s' (E := env) (t := .lp _ _) ?_ | refine WD.s' (E := env) (t := .og _ _) ?_ | refine WD.s' (E := env) (t := .agg _) ?_ | refine WD.s' (E := env) (t := .tup _) ?_ | refine WD.s' (E := env) (t := .clo _ _) ?_ | refine WD.ixm' (E := env) ?_ | refine WD.ixo' (E := env) ?_ | refine WD.legm' (E := env) ?_ | refine WD.slS' (E := env) ?_ | refine WD.slD' (E := env) ?_ | ((first | refine WG.sp' (fun h => ?_) fun h => ?_ | refine W.cond' (fun h => ?_) fun h => ?_ | refine WD.sp' (fun h => ?_) fun h => ?_) <;> (try simp only [decide_eq_true_eq, decide_eq_false_iff_not, Bool.not_eq_true', Bool.not_eq_false', Bool.and_eq_true, Bool.or_eq_true, Bool.and_eq_false_iff, Bool.or_eq_false_iff, Bool.not_eq_true, Bool.not_eq_false, Int.not_lt, Int.not_le, List.length_map, beq_self_eq_true, Bool.true_eq_false, Bool.false_eq_true] at h) <;> (try (exfalso; first | contradiction | omega))))
      refine W.pubD 2 rfl ?_
      refine W.loop (fun m S => ∃ (k : Nat) (b : ByteArray), m = 6 - k ∧ (k ≤ 6 ∧ b = runT s ((wordK (cs.getD (Int.toNat (i : Int)) default) i).take k)) ∧ S = ⟨ofL [(0, .d (coresD cs)), (2, .lp 0 0), (4, vS b), (5, vI .i64 i), (6, .lp 1 0), (7, .d (.sl 1 ((numsK (cs.getD (Int.toNat (i : Int)) default) i).map intRow))), (8, vI .i64 k)], [.pv [.d (dI 0), .d (dS ByteArray.empty)], .pv [.d (dI (cs.getD (Int.toNat (i : Int)) default).op), .d (dI (cs.getD (Int.toNat (i : Int)) default).a), .d (dI (cs.getD (Int.toNat (i : Int)) default).b), .d (dI (cs.getD (Int.toNat (i : Int)) default).c), .d (dI (cs.getD (Int.toNat (i : Int)) default).num), .d (cellsD (cs.getD (Int.toNat (i : Int)) default).val)]]⟩) _ _ ⟨0, _, rfl, ⟨by omega, rfl⟩, rfl⟩ (by (refine le_ofL rfl ?_ ?_ <;> (repeat (first | exact trivial | refine ⟨⟨rfl, rfl⟩, ?_⟩ | refine ⟨rfl, .inl rfl, ?_⟩ | refine ⟨rfl, .inr rfl, ?_⟩)))) ?_
      rintro m S ⟨k, b, rfl, ⟨hk, hb⟩, rfl⟩
      have hbz := runT_size 21 ((wordK (cs.getD (Int.toNat (i : Int)) default) i).take k) s fun w hw => (hwz w (List.mem_of_mem_take hw)).2
      rw [← hb, List.length_take] at hbz
      by_cases hkt : k < 6
      · have hx := hnb ((numsK (cs.getD (Int.toNat (i : Int)) default) i).getD (Int.toNat (k : Int)) default) (getD_mem' (by rw [Int.toNat_natCast]; exact hkt))
        have hd := l2Digits_int _ hx.1 hx.2
        have hwz2 := itoaS_size ((numsK (cs.getD (Int.toNat (i : Int)) default) i).getD (Int.toNat (k : Int)) default) (by omega) (by omega)
        have hn : runT s ((wordK (cs.getD (Int.toNat (i : Int)) default) i).take (k + 1)) = (b ++ itoaS ((numsK (cs.getD (Int.toNat (i : Int)) default) i).getD (Int.toNat (k : Int)) default)) ++ ⟨#[32]⟩ := by
          rw [take_step (show k < (wordK (cs.getD (Int.toNat (i : Int)) default) i).length from hkt), runT_snoc, ← hb]
          congr 2
          rw [Int.toNat_natCast k]
          exact getD_mapT itoaS _ hkt
        have hnl : (numsK (cs.getD (Int.toNat (i : Int)) default) i).length = 6 := rfl
        generalize itoaS ((numsK (cs.getD (Int.toNat (i : Int)) default) i).getD (Int.toNat (k : Int)) default) = w at *
        have z1 : (b ++ w).size = b.size + w.size := ByteArray.size_append ..
        have z2 : (⟨#[32]⟩ : ByteArray).size = 1 := rfl
        repeat' (first | refine W.seq ?_ | refine W.rg ?_ | refine W.dra' ?_ | refine W.block ?_ | refine W.skip ?_ | refine W.exit ?_ | refine W.cond_true' ?_ | refine W.cond_false' ?_ | refine WG.nil ?_ | refine WG.run' (E := env) ?_ | refine WG.gt' ?_ | refine WG.gf' ?_ | refine WG.ixm' (E := env) ?_ | refine WG.ixo' (E := env) ?_ | refine WG.legm' (E := env) ?_ | refine WG.slS' (E := env) ?_ | refine WG.slD' (E := env) ?_ | refine WG.ap' (E := env) ?_ | refine WD.nil ?_ | refine WD.bs' (E := env) ?_ | refine WD.s' (E := env) (t := .d _) ?_ | refine WD.p' ?_ | refine WD.px' ?_ | refine WD.s' (E := env) (t := .ea _ _) ?_ | refine WD.s' (E := env) (t := .lp _ _) ?_ | refine WD.s' (E := env) (t := .og _ _) ?_ | refine WD.s' (E := env) (t := .agg _) ?_ | refine WD.s' (E := env) (t := .tup _) ?_ | refine WD.s' (E := env) (t := .clo _ _) ?_ | refine WD.ixm' (E := env) ?_ | refine WD.ixo' (E := env) ?_ | refine WD.legm' (E := env) ?_ | refine WD.slS' (E := env) ?_ | refine WD.slD' (E := env) ?_ | refine WG.c (E := env) rfl rfl (hd) rfl rfl ?_ | refine WD.c (E := env) rfl rfl (hd) rfl rfl ?_ | refine WG.co (E := env) rfl rfl (hd) rfl rfl rfl rfl ?_ | refine WG.cx (E := env) rfl (hd) rfl ?_ | ((first | refine WG.sp' (fun h => ?_) fun h => ?_ | refine W.cond' (fun h => ?_) fun h => ?_ | refine WD.sp' (fun h => ?_) fun h => ?_) <;> (try simp only [decide_eq_true_eq, decide_eq_false_iff_not, Bool.not_eq_true', Bool.not_eq_false', Bool.and_eq_true, Bool.or_eq_true, Bool.and_eq_false_iff, Bool.or_eq_false_iff, Bool.not_eq_true, Bool.not_eq_false, Int.not_lt, Int.not_le, List.length_map, beq_self_eq_true, Bool.true_eq_false, Bool.false_eq_true] at h) <;> (try (exfalso; first | contradiction | omega))))
        exact ⟨_, _, by omega, ⟨k + 1, (b ++ w) ++ ⟨#[32]⟩, rfl, ⟨by omega, hn.symm⟩, rfl⟩, (by (refine le_ofL rfl ?_ ?_ <;> (repeat (first | exact trivial | refine ⟨⟨rfl, rfl⟩, ?_⟩ | refine ⟨rfl, .inl rfl, ?_⟩ | refine ⟨rfl, .inr rfl, ?_⟩))))⟩
      · obtain rfl : k = 6 := by omega
        rw [List.take_of_length_le (by omega)] at hb
        rw [← hb] at hrj
        have hln : s ++ lineK (cs.getD (Int.toNat (i : Int)) default) i = (b ++ valT (cs.getD (Int.toNat (i : Int)) default)) ++ ⟨#[10]⟩ := by
          rw [hrj, lineK, ba_assoc]
        rw [hln] at hnx
        have hnl : (numsK (cs.getD (Int.toNat (i : Int)) default) i).length = 6 := rfl
        cases hv : hasVl (cs.getD (Int.toNat (i : Int)) default).op with
        | true =>
          rw [hv] at h6
          obtain ⟨hfv, hcv⟩ := valOfM_fine (val_some hci hv).1
          have he := l2Encode_fn _ (valOfM (cs.getD (Int.toNat (i : Int)) default).val).1 (Nat.le_refl _) hfv
          rw [← hcv] at he
          have hvt : valT (cs.getD (Int.toNat (i : Int)) default) = (valOfM (cs.getD (Int.toNat (i : Int)) default).val).1.enc := if_pos hv
          rw [hvt] at hnx hvz
          generalize (valOfM (cs.getD (Int.toNat (i : Int)) default).val).1.enc = e at *
          have z1 : (b ++ e).size = b.size + e.size := ByteArray.size_append ..
          have z2 : (⟨#[10]⟩ : ByteArray).size = 1 := rfl
          repeat' (first | refine W.seq ?_ | refine W.rg ?_ | refine W.dra' ?_ | refine W.block ?_ | refine W.skip ?_ | refine W.exit ?_ | refine W.cond_true' ?_ | refine W.cond_false' ?_ | refine WG.nil ?_ | refine WG.run' (E := env) ?_ | refine WG.gt' ?_ | refine WG.gf' ?_ | refine WG.ixm' (E := env) ?_ | refine WG.ixo' (E := env) ?_ | refine WG.legm' (E := env) ?_ | refine WG.slS' (E := env) ?_ | refine WG.slD' (E := env) ?_ | refine WG.ap' (E := env) ?_ | refine WD.nil ?_ | refine WD.bs' (E := env) ?_ | refine WD.s' (E := env) (t := .d _) ?_ | refine WD.p' ?_ | refine WD.px' ?_ | refine WD.s' (E := env) (t := .ea _ _) ?_ | refine WD.s' (E := env) (t := .lp _ _) ?_ | refine WD.s' (E := env) (t := .og _ _) ?_ | refine WD.s' (E := env) (t := .agg _) ?_ | refine WD.s' (E := env) (t := .tup _) ?_ | refine WD.s' (E := env) (t := .clo _ _) ?_ | refine WD.ixm' (E := env) ?_ | refine WD.ixo' (E := env) ?_ | refine WD.legm' (E := env) ?_ | refine WD.slS' (E := env) ?_ | refine WD.slD' (E := env) ?_ | refine WG.c (E := env) rfl rfl (h6) rfl rfl ?_ | refine WD.c (E := env) rfl rfl (h6) rfl rfl ?_ | refine WG.co (E := env) rfl rfl (h6) rfl rfl rfl rfl ?_ | refine WG.cx (E := env) rfl (h6) rfl ?_ | refine WG.c (E := env) rfl rfl (he) rfl rfl ?_ | refine WD.c (E := env) rfl rfl (he) rfl rfl ?_ | refine WG.co (E := env) rfl rfl (he) rfl rfl rfl rfl ?_ | refine WG.cx (E := env) rfl (he) rfl ?_ | ((first | refine WG.sp' (fun h => ?_) fun h => ?_ | refine W.cond' (fun h => ?_) fun h => ?_ | refine WD.sp' (fun h => ?_) fun h => ?_) <;> (try simp only [decide_eq_true_eq, decide_eq_false_iff_not, Bool.not_eq_true', Bool.not_eq_false', Bool.and_eq_true, Bool.or_eq_true, Bool.and_eq_false_iff, Bool.or_eq_false_iff, Bool.not_eq_true, Bool.not_eq_false, Int.not_lt, Int.not_le, List.length_map, beq_self_eq_true, Bool.true_eq_false, Bool.false_eq_true] at h) <;> (try (exfalso; first | contradiction | omega))))
          all_goals first | (exfalso; omega) | skip
          exact ⟨_, _, by omega, ⟨i + 1, (b ++ e) ++ ⟨#[10]⟩, rfl, ⟨by omega, hnx.symm⟩, rfl⟩, (St.imp.of_le (by (refine le_ofL rfl ?_ ?_ <;> (repeat (first | exact trivial | refine ⟨⟨rfl, rfl⟩, ?_⟩ | refine ⟨rfl, .inl rfl, ?_⟩ | refine ⟨rfl, .inr rfl, ?_⟩)))))⟩
        | false =>
          rw [hv] at h6
          have hvt : valT (cs.getD (Int.toNat (i : Int)) default) = dashS := if_neg (by rw [hv]; exact fun h => by cases h)
          rw [hvt, ba_assoc] at hnx
          have z2 : (⟨#[45, 10]⟩ : ByteArray).size = 2 := rfl
          repeat' (first | refine W.seq ?_ | refine W.rg ?_ | refine W.dra' ?_ | refine W.block ?_ | refine W.skip ?_ | refine W.exit ?_ | refine W.cond_true' ?_ | refine W.cond_false' ?_ | refine WG.nil ?_ | refine WG.run' (E := env) ?_ | refine WG.gt' ?_ | refine WG.gf' ?_ | refine WG.ixm' (E := env) ?_ | refine WG.ixo' (E := env) ?_ | refine WG.legm' (E := env) ?_ | refine WG.slS' (E := env) ?_ | refine WG.slD' (E := env) ?_ | refine WG.ap' (E := env) ?_ | refine WD.nil ?_ | refine WD.bs' (E := env) ?_ | refine WD.s' (E := env) (t := .d _) ?_ | refine WD.p' ?_ | refine WD.px' ?_ | refine WD.s' (E := env) (t := .ea _ _) ?_ | refine WD.s' (E := env) (t := .lp _ _) ?_ | refine WD.s' (E := env) (t := .og _ _) ?_ | refine WD.s' (E := env) (t := .agg _) ?_ | refine WD.s' (E := env) (t := .tup _) ?_ | refine WD.s' (E := env) (t := .clo _ _) ?_ | refine WD.ixm' (E := env) ?_ | refine WD.ixo' (E := env) ?_ | refine WD.legm' (E := env) ?_ | refine WD.slS' (E := env) ?_ | refine WD.slD' (E := env) ?_ | refine WG.c (E := env) rfl rfl (h6) rfl rfl ?_ | refine WD.c (E := env) rfl rfl (h6) rfl rfl ?_ | refine WG.co (E := env) rfl rfl (h6) rfl rfl rfl rfl ?_ | refine WG.cx (E := env) rfl (h6) rfl ?_ | ((first | refine WG.sp' (fun h => ?_) fun h => ?_ | refine W.cond' (fun h => ?_) fun h => ?_ | refine WD.sp' (fun h => ?_) fun h => ?_) <;> (try simp only [decide_eq_true_eq, decide_eq_false_iff_not, Bool.not_eq_true', Bool.not_eq_false', Bool.and_eq_true, Bool.or_eq_true, Bool.and_eq_false_iff, Bool.or_eq_false_iff, Bool.not_eq_true, Bool.not_eq_false, Int.not_lt, Int.not_le, List.length_map, beq_self_eq_true, Bool.true_eq_false, Bool.false_eq_true] at h) <;> (try (exfalso; first | contradiction | omega))))
          all_goals first | (exfalso; omega) | skip
          exact ⟨_, _, by omega, ⟨i + 1, b ++ ⟨#[45, 10]⟩, rfl, ⟨by omega, hnx.symm⟩, rfl⟩, (St.imp.of_le (by (refine le_ofL rfl ?_ ?_ <;> (repeat (first | exact trivial | refine ⟨⟨rfl, rfl⟩, ?_⟩ | refine ⟨rfl, .inl rfl, ?_⟩ | refine ⟨rfl, .inr rfl, ?_⟩)))))⟩
    · obtain rfl : i = cs.length := by omega
      subst hs
      repeat' (first | refine W.seq ?_ | refine W.rg ?_ | refine W.dra' ?_ | refine W.block ?_ | refine W.skip ?_ | refine W.exit ?_ | refine W.cond_true' ?_ | refine W.cond_false' ?_ | refine WG.nil ?_ | refine WG.run' (E := env) ?_ | refine WG.gt' ?_ | refine WG.gf' ?_ | refine WG.ixm' (E := env) ?_ | refine WG.ixo' (E := env) ?_ | refine WG.legm' (E := env) ?_ | refine WG.slS' (E := env) ?_ | refine WG.slD' (E := env) ?_ | refine WG.ap' (E := env) ?_ | refine WD.nil ?_ | refine WD.bs' (E := env) ?_ | refine WD.s' (E := env) (t := .d _) ?_ | refine WD.p' ?_ | refine WD.px' ?_ | refine WD.s' (E := env) (t := .ea _ _) ?_ | refine WD.s' (E := env) (t := .lp _ _) ?_ | refine WD.s' (E := env) (t := .og _ _) ?_ | refine WD.s' (E := env) (t := .agg _) ?_ | refine WD.s' (E := env) (t := .tup _) ?_ | refine WD.s' (E := env) (t := .clo _ _) ?_ | refine WD.ixm' (E := env) ?_ | refine WD.ixo' (E := env) ?_ | refine WD.legm' (E := env) ?_ | refine WD.slS' (E := env) ?_ | refine WD.slD' (E := env) ?_ | ((first | refine WG.sp' (fun h => ?_) fun h => ?_ | refine W.cond' (fun h => ?_) fun h => ?_ | refine WD.sp' (fun h => ?_) fun h => ?_) <;> (try simp only [decide_eq_true_eq, decide_eq_false_iff_not, Bool.not_eq_true', Bool.not_eq_false', Bool.and_eq_true, Bool.or_eq_true, Bool.and_eq_false_iff, Bool.or_eq_false_iff, Bool.not_eq_true, Bool.not_eq_false, Int.not_lt, Int.not_le, List.length_map, beq_self_eq_true, Bool.true_eq_false, Bool.false_eq_true] at h) <;> (try (exfalso; first | contradiction | omega))))
      (refine W.ret ?_; (first | refine RetQ.b' ?_ | refine RetQ.i' ?_ | refine RetQ.d' ?_ | refine RetQ.t2' ?_ ?_ | refine RetQ.t3' ?_ ?_ ?_))
      rfl
  · rw [coreR, if_neg h0]
    generalize coreM cs = c at *
    refine Fun.intro Tryz.func35 rfl (by kernel_rfl) rfl ?_
    repeat' (first | refine W.seq ?_ | refine W.rg ?_ | refine W.dra' ?_ | refine W.block ?_ | refine W.skip ?_ | refine W.exit ?_ | refine W.cond_true' ?_ | refine W.cond_false' ?_ | refine WG.nil ?_ | refine WG.run' (E := env) ?_ | refine WG.gt' ?_ | refine WG.gf' ?_ | refine WG.ixm' (E := env) ?_ | refine WG.ixo' (E := env) ?_ | refine WG.legm' (E := env) ?_ | refine WG.slS' (E := env) ?_ | refine WG.slD' (E := env) ?_ | refine WG.ap' (E := env) ?_ | refine WD.nil ?_ | refine WD.bs' (E := env) ?_ | refine WD.s' (E := env) (t := .d _) ?_ | refine WD.p' ?_ | refine WD.px' ?_ | refine WD.s' (E := env) (t := .ea _ _) ?_ | refine WD.s' (E := env) (t := .lp _ _) ?_ | refine WD.s' (E := env) (t := .og _ _) ?_ | refine WD.s' (E := env) (t := .agg _) ?_ | refine WD.s' (E := env) (t := .tup _) ?_ | refine WD.s' (E := env) (t := .clo _ _) ?_ | refine WD.ixm' (E := env) ?_ | refine WD.ixo' (E := env) ?_ | refine WD.legm' (E := env) ?_ | refine WD.slS' (E := env) ?_ | refine WD.slD' (E := env) ?_ | refine WG.c (E := env) rfl rfl (hcf) rfl rfl ?_ | refine WD.c (E := env) rfl rfl (hcf) rfl rfl ?_ | refine WG.co (E := env) rfl rfl (hcf) rfl rfl rfl rfl ?_ | refine WG.cx (E := env) rfl (hcf) rfl ?_ | ((first | refine WG.sp' (fun h => ?_) fun h => ?_ | refine W.cond' (fun h => ?_) fun h => ?_ | refine WD.sp' (fun h => ?_) fun h => ?_) <;> (try simp only [decide_eq_true_eq, decide_eq_false_iff_not, Bool.not_eq_true', Bool.not_eq_false', Bool.and_eq_true, Bool.or_eq_true, Bool.and_eq_false_iff, Bool.or_eq_false_iff, Bool.not_eq_true, Bool.not_eq_false, Int.not_lt, Int.not_le, List.length_map, beq_self_eq_true, Bool.true_eq_false, Bool.false_eq_true] at h) <;> (try (exfalso; first | contradiction | omega))))
    all_goals first | (exfalso; omega) | skip
    (refine W.ret ?_; (first | refine RetQ.b' ?_ | refine RetQ.i' ?_ | refine RetQ.d' ?_ | refine RetQ.t2' ?_ ?_ | refine RetQ.t3' ?_ ?_ ?_))
    rfl

theorem core_nou (c : Co) : ∀ x ∈ c.row, NoU x := fun x hx => by
  simp only [Co.row, List.mem_cons, List.not_mem_nil, or_false] at hx
  rcases hx with rfl | rfl | rfl | rfl | rfl | rfl
  · exact .v _ (fun n h => by cases h)
  · exact .v _ (fun n h => by cases h)
  · exact .v _ (fun n h => by cases h)
  · exact .v _ (fun n h => by cases h)
  · exact .v _ (fun n h => by cases h)
  · exact cells_nou _
theorem cores_nou (ks : List Co) : NoU (coresD ks) :=
  .sl _ _ fun r hr x hx => by
    obtain ⟨c, _, rfl⟩ := List.mem_map.1 hr
    exact core_nou c x hx

set_option maxHeartbeats 4000000 in
theorem lawCoreText_fn (q : TypeId × (Nat × Nat)) (ks : List Co) (hc : ∀ c ∈ ks, c.fit) (hm : ks.length ≤ maxLen) : FunQ env.P 8 [.d (coresD ks)] [tabO q] (just (.d (dB true)) [tabO q]) := by
  have hz := szCoreS_fn ks 1048576 hc hm (by omega) (by omega)
  refine FunQ.intro Tryz.func8 rfl (by kernel_rfl) rfl ?_
  by_cases hn : szK ks 1048576 < 0
  · repeat' (first | refine W.seq ?_ | refine W.rg ?_ | refine W.dra' ?_ | refine W.block ?_ | refine W.skip ?_ | refine W.exit ?_ | refine W.cond_true' ?_ | refine W.cond_false' ?_ | refine WG.nil ?_ | refine WG.run' (E := env) ?_ | refine WG.gt' ?_ | refine WG.gf' ?_ | refine WG.ixm' (E := env) ?_ | refine WG.ixo' (E := env) ?_ | refine WG.legm' (E := env) ?_ | refine WG.slS' (E := env) ?_ | refine WG.slD' (E := env) ?_ | refine WG.ap' (E := env) ?_ | refine WD.nil ?_ | refine WD.bs' (E := env) ?_ | refine WD.s' (E := env) (t := .d _) ?_ | refine WD.p' ?_ | refine WD.px' ?_ | refine WD.s' (E := env) (t := .ea _ _) ?_ | refine WD.s' (E := env) (t := .lp _ _) ?_ | refine WD.s' (E := env) (t := .og _ _) ?_ | refine WD.s' (E := env) (t := .agg _) ?_ | refine WD.s' (E := env) (t := .tup _) ?_ | refine WD.s' (E := env) (t := .clo _ _) ?_ | refine WD.ixm' (E := env) ?_ | refine WD.ixo' (E := env) ?_ | refine WD.legm' (E := env) ?_ | refine WD.slS' (E := env) ?_ | refine WD.slD' (E := env) ?_ | refine WG.c (E := env) rfl rfl (hz) rfl rfl ?_ | refine WD.c (E := env) rfl rfl (hz) rfl rfl ?_ | refine WG.co (E := env) rfl rfl (hz) rfl rfl rfl rfl ?_ | refine WG.cx (E := env) rfl (hz) rfl ?_ | ((first | refine WG.sp' (fun h => ?_) fun h => ?_ | refine W.cond' (fun h => ?_) fun h => ?_ | refine WD.sp' (fun h => ?_) fun h => ?_) <;> (try simp only [decide_eq_true_eq, decide_eq_false_iff_not, Bool.not_eq_true', Bool.not_eq_false', Bool.and_eq_true, Bool.or_eq_true, Bool.and_eq_false_iff, Bool.or_eq_false_iff, Bool.not_eq_true, Bool.not_eq_false, Int.not_lt, Int.not_le, List.length_map, beq_self_eq_true, Bool.true_eq_false, Bool.false_eq_true] at h) <;> (try (exfalso; first | contradiction | omega))))
    all_goals first | (exfalso; omega) | skip
    (refine W.ret ?_; refine RetR.tb' ?_)
    rfl
  · obtain ⟨hl, ht⟩ := szK_ok (Int.not_lt.1 hn)
    have d := toCoreS_fn ks hl ht
    have h1 := CoreTextS_fn ks ⟨ht, hl⟩
    have h2 := CoreText_fn q ks ⟨ht, hl⟩
    have er := eqTextRw_fn (coreM ks) (coreR ks) (coreM ks) (coreR ks)
    rw [show (decide ((coreM ks) = (coreM ks)) && decide ((coreR ks) = (coreR ks))) = true by simp] at er
    have et := eqCoreS_fn ks ks hl ht
    rw [decide_eq_true rfl] at et
    generalize coreM ks = c at *
    generalize coreR ks = s at *
    repeat' (first | refine W.seq ?_ | refine W.rg ?_ | refine W.dra' ?_ | refine W.block ?_ | refine W.skip ?_ | refine W.exit ?_ | refine W.cond_true' ?_ | refine W.cond_false' ?_ | refine WG.nil ?_ | refine WG.run' (E := env) ?_ | refine WG.gt' ?_ | refine WG.gf' ?_ | refine WG.ixm' (E := env) ?_ | refine WG.ixo' (E := env) ?_ | refine WG.legm' (E := env) ?_ | refine WG.slS' (E := env) ?_ | refine WG.slD' (E := env) ?_ | refine WG.ap' (E := env) ?_ | refine WD.nil ?_ | refine WD.bs' (E := env) ?_ | refine WD.s' (E := env) (t := .d _) ?_ | refine WD.p' ?_ | refine WD.px' ?_ | refine WD.s' (E := env) (t := .ea _ _) ?_ | refine WD.s' (E := env) (t := .lp _ _) ?_ | refine WD.s' (E := env) (t := .og _ _) ?_ | refine WD.s' (E := env) (t := .agg _) ?_ | refine WD.s' (E := env) (t := .tup _) ?_ | refine WD.s' (E := env) (t := .clo _ _) ?_ | refine WD.ixm' (E := env) ?_ | refine WD.ixo' (E := env) ?_ | refine WD.legm' (E := env) ?_ | refine WD.slS' (E := env) ?_ | refine WD.slD' (E := env) ?_ | refine WG.c (E := env) rfl rfl (hz) rfl rfl ?_ | refine WD.c (E := env) rfl rfl (hz) rfl rfl ?_ | refine WG.co (E := env) rfl rfl (hz) rfl rfl rfl rfl ?_ | refine WG.cx (E := env) rfl (hz) rfl ?_ | refine WG.c (E := env) rfl rfl (d) rfl rfl ?_ | refine WD.c (E := env) rfl rfl (d) rfl rfl ?_ | refine WG.co (E := env) rfl rfl (d) rfl rfl rfl rfl ?_ | refine WG.cx (E := env) rfl (d) rfl ?_ | refine WG.c (E := env) rfl rfl (h1) rfl rfl ?_ | refine WD.c (E := env) rfl rfl (h1) rfl rfl ?_ | refine WG.co (E := env) rfl rfl (h1) rfl rfl rfl rfl ?_ | refine WG.cx (E := env) rfl (h1) rfl ?_ | refine WG.cq (E := env) [0] [0] false rfl rfl (h2) rfl rfl rfl rfl rfl rfl rfl (by first | exact trivial | exact ⟨rfl, trivial⟩ | exact ⟨rfl, rfl, trivial⟩) (.inl rfl) rfl (fun h => nomatch h) rfl rfl ?_ | refine WG.cqx (E := env) [0] [0] false rfl (h2) rfl rfl rfl rfl rfl rfl rfl (by first | exact trivial | exact ⟨rfl, trivial⟩ | exact ⟨rfl, rfl, trivial⟩) (.inl rfl) rfl (fun h => nomatch h) rfl ?_ | refine WG.c (E := env) rfl rfl (er) rfl rfl ?_ | refine WD.c (E := env) rfl rfl (er) rfl rfl ?_ | refine WG.co (E := env) rfl rfl (er) rfl rfl rfl rfl ?_ | refine WG.cx (E := env) rfl (er) rfl ?_ | refine WG.c (E := env) rfl rfl (et) rfl rfl ?_ | refine WD.c (E := env) rfl rfl (et) rfl rfl ?_ | refine WG.co (E := env) rfl rfl (et) rfl rfl rfl rfl ?_ | refine WG.cx (E := env) rfl (et) rfl ?_ | ((first | refine WG.sp' (fun h => ?_) fun h => ?_ | refine W.cond' (fun h => ?_) fun h => ?_ | refine WD.sp' (fun h => ?_) fun h => ?_) <;> (try simp only [decide_eq_true_eq, decide_eq_false_iff_not, Bool.not_eq_true', Bool.not_eq_false', Bool.and_eq_true, Bool.or_eq_true, Bool.and_eq_false_iff, Bool.or_eq_false_iff, Bool.not_eq_true, Bool.not_eq_false, Int.not_lt, Int.not_le, List.length_map, beq_self_eq_true, Bool.true_eq_false, Bool.false_eq_true] at h) <;> (try (exfalso; first | contradiction | omega))))
    all_goals first | (exfalso; omega) | skip
    all_goals (refine W.ret ?_; refine RetR.tb' ?_)
    all_goals rfl

theorem lawCoreText_nou (xs : List D) (h : wfAs env.P [60] xs) : ∀ x ∈ xs, NoU x := by
  match xs, h with
  | [x0], ⟨h0, _⟩ =>
    obtain ⟨ks, _, _, rfl⟩ := cores_of h0
    intro x hx
    rw [List.mem_singleton] at hx
    subst hx
    exact cores_nou ks
theorem lawCoreText (q : TypeId × (Nat × Nat)) (xs : List D) (h : wfAs env.P [60] xs) : FunQ env.P 8 (xs.map .d) [tabO q] (just (.d (dB true)) [tabO q]) := by
  match xs, h with
  | [x0], ⟨h0, _⟩ =>
    obtain ⟨ks, hc, hm, rfl⟩ := cores_of h0
    exact lawCoreText_fn q ks hc hm

end Go.Proofs.YtfmhfdegkpbeiaaGreatDoor
