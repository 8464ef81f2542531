/-
  The instructions of a core, by both. Conditions: texts of at most 2^20 bytes, values of at most 2^20 cells.
-/
import Derived.Test.YtmmjbpgdkokjgaaQCompileCoreCp4
import Derived.Test.YtmmjbpgdkokjgaaQCompileCoreCpQ
set_option linter.unusedVariables false
set_option linter.unusedSimpArgs false
set_option maxRecDepth 100000
namespace Go.Proofs.Ytmmjbpgdkokjgaa
open Go.RowKit

theorem ops17 {op : Int} (h : 1 ≤ op ∧ op ≤ 17) : op = 1 ∨ op = 2 ∨ op = 3 ∨ op = 4 ∨ op = 5 ∨ op = 6 ∨ op = 7 ∨ op = 8 ∨ op = 9 ∨ op = 10 ∨ op = 11 ∨ op = 12 ∨ op = 13 ∨ op = 14 ∨ op = 15 ∨ op = 16 ∨ op = 17 := by omega

theorem l8Node_fn {cs : List Co} (hok : ∀ j, j < cs.length → CoK cs j) : ∀ (f k : Nat), k < f → k < cs.length → GoS cs (fun j r s => cmpM cs f j.toNat r s) (k : Int) (cntK cs k)
  | 0, k, h, _ => by omega
  | f + 1, k, hkf, hk => fun regs s hr hl h0 hm => by
    have hn := hok k hk
    have hce := cntK_eq hn
    have hnear := cmpM_near hok (f + 1) k regs s hkf hk
    have ih := fun (j : Int) (hj : 0 ≤ j ∧ j < k) => l8Node_fn hok f j.toNat (by omega) (by omega)
    have ih' : ∀ j : Int, 0 ≤ j ∧ j < k → GoS cs (fun j r s => cmpM cs f j.toNat r s) j (cntK cs j.toNat) := fun j hj => by
      have := ih j hj
      rwa [show ((j.toNat : Nat) : Int) = j by omega] at this
    have nr : ∀ j : Int, 0 ≤ j ∧ j < k → ∀ (regs : List Int) (s : Cst), s.near (cmpM cs f j.toNat regs s) (20 * cntK cs j.toNat) (2 * cntK cs j.toNat) := fun j hj regs s => cmpM_near hok f j.toNat regs s (by omega) (by omega)
    have ha := fun h => ih' _ (hn.a h)
    have hb := fun h => ih' _ (hn.b h)
    have hc := fun h => ih' _ (hn.c h)
    have nb := fun h => nr _ (hn.b h)
    have nc := fun h => nr _ (hn.c h)
    have hnum := hn.num
    have hval := hn.fine.2
    have hrow : Co.row (cs.getD (Int.toNat (k : Int)) default) = (cs.getD k default).row := by rw [Int.toNat_natCast]
    have e : cmpM cs (f + 1) (Int.toNat (k : Int)) regs s = cNode (fun j r s => cmpM cs f j.toNat r s) (cs.getD k default) regs s := by rw [Int.toNat_natCast]; rfl
    have e2 : cmpM cs (f + 1) k regs s = cNode (fun j r s => cmpM cs f j.toNat r s) (cs.getD k default) regs s := rfl
    rw [e2] at hnear
    show FunQ _ _ _ _ (outS cs s (cmpM cs (f + 1) (Int.toNat (k : Int)) regs s) (.tup []) (s.near (cmpM cs (f + 1) (Int.toNat (k : Int)) regs s) _ _))
    rw [e]
    have wrap : FunQ env.P 15 [.lp 0 0, .d (dI (k : Int)), .d (slotsD regs)] (mkO cs s 0) (outS cs s (cNode (fun j r s => cmpM cs f j.toNat r s) (cs.getD k default) regs s) (.tup []) True) →
      FunQ env.P 15 [.lp 0 0, .d (dI (k : Int)), .d (slotsD regs)] (mkO cs s 0) (outS cs s (cNode (fun j r s => cmpM cs f j.toNat r s) (cs.getD k default) regs s) (.tup []) (s.near (cNode (fun j r s => cmpM cs f j.toNat r s) (cs.getD k default) regs s) (20 * cntK cs k) (2 * cntK cs k))) := fun h =>
      h.mono fun t ob ⟨⟨h1, _⟩, h2⟩ => ⟨⟨h1, hnear⟩, h2⟩
    refine wrap ?_
    clear wrap hnear ih ih' nr e e2
    generalize cntK cs (cs.getD k default).a.toNat = ca at *
    generalize cntK cs (cs.getD k default).b.toNat = cb at *
    generalize cntK cs (cs.getD k default).c.toNat = cc at *
    generalize cntK cs k = ck at *
    rcases ops17 hn.op with h | h | h | h | h | h | h | h | h | h | h | h | h | h | h | h | h <;> rw [h] at hce ha hb hc nb nc
    · exact l8Node_1 hr h (by omega) h0 (by omega) k hk hrow
    · exact l8Node_2 hr h hval (by omega) h0 (by omega) k hk hrow
    · exact l8Node_3 hr h (ha (by decide)) (hb (by decide)) (by simp [arC] at hce; omega) h0 (by simp [arC] at hce; omega) k hk hrow
    · exact l8Node_4 hr h (ha (by decide)) (hb (by decide)) (by simp [arC] at hce; omega) h0 (by simp [arC] at hce; omega) k hk hrow
    · exact l8Node_5 hr h (ha (by decide)) (hb (by decide)) (by simp [arC] at hce; omega) h0 (by simp [arC] at hce; omega) k hk hrow
    · exact l8Node_6 hr h (ha (by decide)) (hb (by decide)) (by simp [arC] at hce; omega) h0 (by simp [arC] at hce; omega) k hk hrow
    · exact l8Node_7 hr h (ha (by decide)) (hb (by decide)) (by simp [arC] at hce; omega) h0 (by simp [arC] at hce; omega) k hk hrow
    · exact l8Node_8 hr h (ha (by decide)) (by simp [arC] at hce; omega) h0 (by simp [arC] at hce; omega) k hk hrow
    · exact l8Node_9 hr h (ha (by decide)) (by simp [arC] at hce; omega) h0 (by simp [arC] at hce; omega) k hk hrow
    · exact l8Node_10 hr h (ha (by decide)) (by simp [arC] at hce; omega) h0 (by simp [arC] at hce; omega) k hk hrow
    · exact l8Node_11 hr h hval (ha (by decide)) (hb (by decide)) (by simp [arC] at hce; omega) h0 (by simp [arC] at hce; omega) k hk hrow
    · exact l8Node_12 hr h (ha (by decide)) (hb (by decide)) (hc (by decide)) (by simp [arC] at hce; omega) h0 (by simp [arC] at hce; omega) k hk hrow
    · exact l8Node_13 hr h (hnum (.inl h)) (nc (by decide)) (ha (by decide)) (hb (by decide)) (hc (by decide)) (by simp [arC] at hce; omega) h0 (by simp [arC] at hce; omega) k hk hrow
    · exact l8Node_14 hr h (hnum (.inr (.inl h))) (nb (by decide)) (ha (by decide)) (hb (by decide)) (by simp [arC] at hce; omega) h0 (by simp [arC] at hce; omega) k hk hrow
    · exact l8Node_15 hr h (hnum (.inr (.inr h))) (by omega) h0 (by omega) k hk hrow
    · exact l8Node_16 hr h (by omega) h0 (by omega) k hk hrow
    · exact l8Node_17 hr h (by omega) h0 (by omega) k hk hrow

theorem cNode_fn {cs : List Co} (b : Nat) (hok : ∀ j, j < cs.length → CoK cs j) : ∀ (f k : Nat) (sl : List Int), k < f → k < cs.length → bndF cs f k sl = true → GoI cs b (fun j r s => cmpM cs f j.toNat r s) (k : Int) (cntK cs k) sl
  | 0, k, sl, h, _, _ => by omega
  | f + 1, k, sl, hkf, hk, hbd => fun regs s n2 m hr hkn hl h0 hm hn2 => by
    have hn := hok k hk
    have hce := cntK_eq hn
    obtain ⟨q15, qa, qb, qc⟩ := bndK hn hbd
    have hnear := cmpM_near hok (f + 1) k regs s hkf hk
    have ih : ∀ (j : Int) (sl : List Int), 0 ≤ j ∧ j < k → bndF cs f j.toNat sl = true → GoI cs b (fun j r s => cmpM cs f j.toNat r s) j (cntK cs j.toNat) sl := fun j sl hj hb => by
      have := cNode_fn b hok f j.toNat sl (by omega) (by omega) hb
      rwa [show ((j.toNat : Nat) : Int) = j by omega] at this
    have ha := fun h => ih _ _ (hn.a h) (qa h)
    have hb := fun h => ih _ _ (hn.b h) (qb h)
    have hc := fun h => ih _ _ (hn.c h) (qc h)
    have hnum := hn.num
    have hval := hn.fine.2
    have hrow : Co.row (cs.getD (Int.toNat (k : Int)) default) = (cs.getD k default).row := by rw [Int.toNat_natCast]
    have e : cmpM cs (f + 1) (Int.toNat (k : Int)) regs s = cNode (fun j r s => cmpM cs f j.toNat r s) (cs.getD k default) regs s := by rw [Int.toNat_natCast]; rfl
    have e2 : cmpM cs (f + 1) k regs s = cNode (fun j r s => cmpM cs f j.toNat r s) (cs.getD k default) regs s := rfl
    rw [e2] at hnear
    show FunQ _ _ _ _ (outN cs b s (cmpM cs (f + 1) (Int.toNat (k : Int)) regs s) n2 _ m (s.near (cmpM cs (f + 1) (Int.toNat (k : Int)) regs s) _ _))
    rw [e]
    have wrap : ∀ q : Nat, q ≤ 2 * cntK cs k → FunQ env.P 19 [.lp 0 0, .d (dI (k : Int))] (mi3 cs s b 0 n2 m) (outN cs b s (cNode (fun j r s => cmpM cs f j.toNat r s) (cs.getD k default) regs s) n2 q m True) →
      FunQ env.P 19 [.lp 0 0, .d (dI (k : Int))] (mi3 cs s b 0 n2 m) (outN cs b s (cNode (fun j r s => cmpM cs f j.toNat r s) (cs.getD k default) regs s) n2 (2 * cntK cs k) m (s.near (cNode (fun j r s => cmpM cs f j.toNat r s) (cs.getD k default) regs s) (20 * cntK cs k) (2 * cntK cs k))) := fun q hq h =>
      h.mono fun t ob ⟨⟨h1, _⟩, v, n', m', h2, h3, h4, h5⟩ => ⟨⟨h1, hnear⟩, v, n', m', h2, by omega, h4, h5⟩
    have in0 : inC (cs.getD k default) 0 sl = sl := by unfold inC; rw [if_neg (by omega)]
    have in1 : (cs.getD k default).op ≠ 14 → inC (cs.getD k default) 1 sl = sl := fun h => by unfold inC; rw [if_neg (by omega)]
    have in2 : (cs.getD k default).op ≠ 13 → inC (cs.getD k default) 2 sl = sl := fun h => by unfold inC; rw [if_neg (by omega)]
    have in14 : (cs.getD k default).op = 14 → inC (cs.getD k default) 1 sl = sl ++ [(cs.getD k default).num] := fun h => by unfold inC; rw [if_pos (.inl ⟨h, rfl⟩)]
    have in13 : (cs.getD k default).op = 13 → inC (cs.getD k default) 2 sl = sl ++ [(cs.getD k default).num] := fun h => by unfold inC; rw [if_pos (.inr ⟨h, rfl⟩)]
    rw [in0] at ha
    clear hnear ih e e2
    generalize cntK cs (cs.getD k default).a.toNat = ca at *
    generalize cntK cs (cs.getD k default).b.toNat = cb at *
    generalize cntK cs (cs.getD k default).c.toNat = cc at *
    generalize cntK cs k = ck at *
    rcases ops17 hn.op with h | h | h | h | h | h | h | h | h | h | h | h | h | h | h | h | h
    · rw [in1 (by omega)] at hb; rw [in2 (by omega)] at hc; rw [h] at hce ha hb hc; exact wrap _ (by simp [arC] at hce; omega) (cNode_1 hr hkn h (by omega) h0 (by omega) (by omega) k hk hrow)
    · rw [in1 (by omega)] at hb; rw [in2 (by omega)] at hc; rw [h] at hce ha hb hc; exact wrap _ (by simp [arC] at hce; omega) (cNode_2 hr hkn h hval (by omega) h0 (by omega) (by omega) k hk hrow)
    · rw [in1 (by omega)] at hb; rw [in2 (by omega)] at hc; rw [h] at hce ha hb hc; exact wrap _ (by simp [arC] at hce; omega) (cNode_3 hr hkn h (ha (by decide)) (hb (by decide)) (by simp [arC] at hce; omega) h0 (by simp [arC] at hce; omega) (by simp [arC] at hce; omega) k hk hrow)
    · rw [in1 (by omega)] at hb; rw [in2 (by omega)] at hc; rw [h] at hce ha hb hc; exact wrap _ (by simp [arC] at hce; omega) (cNode_4 hr hkn h (ha (by decide)) (hb (by decide)) (by simp [arC] at hce; omega) h0 (by simp [arC] at hce; omega) (by simp [arC] at hce; omega) k hk hrow)
    · rw [in1 (by omega)] at hb; rw [in2 (by omega)] at hc; rw [h] at hce ha hb hc; exact wrap _ (by simp [arC] at hce; omega) (cNode_5 hr hkn h (ha (by decide)) (hb (by decide)) (by simp [arC] at hce; omega) h0 (by simp [arC] at hce; omega) (by simp [arC] at hce; omega) k hk hrow)
    · rw [in1 (by omega)] at hb; rw [in2 (by omega)] at hc; rw [h] at hce ha hb hc; exact wrap _ (by simp [arC] at hce; omega) (cNode_6 hr hkn h (ha (by decide)) (hb (by decide)) (by simp [arC] at hce; omega) h0 (by simp [arC] at hce; omega) (by simp [arC] at hce; omega) k hk hrow)
    · rw [in1 (by omega)] at hb; rw [in2 (by omega)] at hc; rw [h] at hce ha hb hc; exact wrap _ (by simp [arC] at hce; omega) (cNode_7 hr hkn h (ha (by decide)) (hb (by decide)) (by simp [arC] at hce; omega) h0 (by simp [arC] at hce; omega) (by simp [arC] at hce; omega) k hk hrow)
    · rw [in1 (by omega)] at hb; rw [in2 (by omega)] at hc; rw [h] at hce ha hb hc; exact wrap _ (by simp [arC] at hce; omega) (cNode_8 hr hkn h (ha (by decide)) (by simp [arC] at hce; omega) h0 (by simp [arC] at hce; omega) (by simp [arC] at hce; omega) k hk hrow)
    · rw [in1 (by omega)] at hb; rw [in2 (by omega)] at hc; rw [h] at hce ha hb hc; exact wrap _ (by simp [arC] at hce; omega) (cNode_9 hr hkn h (ha (by decide)) (by simp [arC] at hce; omega) h0 (by simp [arC] at hce; omega) (by simp [arC] at hce; omega) k hk hrow)
    · rw [in1 (by omega)] at hb; rw [in2 (by omega)] at hc; rw [h] at hce ha hb hc; exact wrap _ (by simp [arC] at hce; omega) (cNode_10 hr hkn h (ha (by decide)) (by simp [arC] at hce; omega) h0 (by simp [arC] at hce; omega) (by simp [arC] at hce; omega) k hk hrow)
    · rw [in1 (by omega)] at hb; rw [in2 (by omega)] at hc; rw [h] at hce ha hb hc; exact wrap _ (by simp [arC] at hce; omega) (cNode_11 hr hkn h hval (ha (by decide)) (hb (by decide)) (by simp [arC] at hce; omega) h0 (by simp [arC] at hce; omega) (by simp [arC] at hce; omega) k hk hrow)
    · rw [in1 (by omega)] at hb; rw [in2 (by omega)] at hc; rw [h] at hce ha hb hc; exact wrap _ (by simp [arC] at hce; omega) (cNode_12 hr hkn h (ha (by decide)) (hb (by decide)) (hc (by decide)) (by simp [arC] at hce; omega) h0 (by simp [arC] at hce; omega) (by simp [arC] at hce; omega) k hk hrow)
    · rw [in1 (by omega)] at hb; rw [in13 h] at hc; rw [h] at hce ha hb hc; exact wrap _ (by simp [arC] at hce; omega) (cNode_13 hr hkn h (hnum (.inl h)) (ha (by decide)) (hb (by decide)) (hc (by decide)) (by simp [arC] at hce; omega) h0 (by simp [arC] at hce; omega) (by simp [arC] at hce; omega) k hk hrow)
    · rw [in14 h] at hb; rw [in2 (by omega)] at hc; rw [h] at hce ha hb hc; exact wrap _ (by simp [arC] at hce; omega) (cNode_14 hr hkn h (hnum (.inr (.inl h))) (ha (by decide)) (hb (by decide)) (by simp [arC] at hce; omega) h0 (by simp [arC] at hce; omega) (by simp [arC] at hce; omega) k hk hrow)
    · rw [in1 (by omega)] at hb; rw [in2 (by omega)] at hc; rw [h] at hce ha hb hc; exact wrap _ (by simp [arC] at hce; omega) (cNode_15 hr hkn h (q15 h) (by omega) h0 (by omega) (by omega) k hk hrow)
    · rw [in1 (by omega)] at hb; rw [in2 (by omega)] at hc; rw [h] at hce ha hb hc; exact wrap _ (by simp [arC] at hce; omega) (cNode_16 hr hkn h (by omega) h0 (by omega) (by omega) k hk hrow)
    · rw [in1 (by omega)] at hb; rw [in2 (by omega)] at hc; rw [h] at hce ha hb hc; exact wrap _ (by simp [arC] at hce; omega) (cNode_17 hr hkn h (by omega) h0 (by omega) (by omega) k hk hrow)

end Go.Proofs.Ytmmjbpgdkokjgaa
