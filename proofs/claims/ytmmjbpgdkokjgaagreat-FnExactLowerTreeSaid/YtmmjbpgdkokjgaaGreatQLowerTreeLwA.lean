/-
  Texts of this claim in one. Conditions: none.
-/
import Derived.Test.YtmmjbpgdkokjgaaGreatQLowerTreeLw1
import Derived.Test.YtmmjbpgdkokjgaaGreatQLowerTreeLw7
import Derived.Test.YtmmjbpgdkokjgaaGreatQLowerTreeLw8
import Derived.Test.YtmmjbpgdkokjgaaGreatQLowerTreeLw9
section
set_option linter.unusedVariables false
set_option linter.unusedSimpArgs false
set_option maxRecDepth 100000
namespace Go.Proofs.YtmmjbpgdkokjgaaGreat
open Go.RowKit

/-- What is known of a right tree's node. -/
structure TdK (ns : List Nd) (k : Nat) : Prop where
  op : 1 ≤ (ns.getD k default).op ∧ (ns.getD k default).op ≤ 24
  a : 1 ≤ arN (ns.getD k default).op → 0 ≤ (ns.getD k default).a ∧ (ns.getD k default).a < k
  b : 2 ≤ arN (ns.getD k default).op → 0 ≤ (ns.getD k default).b ∧ (ns.getD k default).b < k
  c : 3 ≤ arN (ns.getD k default).op → 0 ≤ (ns.getD k default).c ∧ (ns.getD k default).c < k
  tx : (ns.getD k default).op = 3 ∨ (ns.getD k default).op = 17 → okText (ns.getD k default).text = true
  num2 : (ns.getD k default).op = 2 → 0 ≤ (ns.getD k default).num ∧ (ns.getD k default).num ≤ 1000000000000000
  num4 : (ns.getD k default).op = 4 → 0 ≤ (ns.getD k default).num ∧ (ns.getD k default).num ≤ 2
  num10 : (ns.getD k default).op = 10 → 1 ≤ (ns.getD k default).num ∧ (ns.getD k default).num ≤ 11

theorem kidB_bnd {n : Nd} {k i : Nat} (h : kidB n k i = true) (hi : i < arN n.op) : 0 ≤ kidI n i ∧ kidI n i < k := by
  unfold kidB at h
  rw [if_pos hi] at h
  simp only [Bool.and_eq_true, decide_eq_true_eq] at h
  omega

theorem tdK_of {ns : List Nd} {k : Nat} (h : nodeCode ns k = 0) : TdK ns k := by
  unfold nodeCode nodeC at h
  generalize hn : ns.getD k default = n at *
  split at h
  · exact absurd h (by decide)
  rename_i h1
  have h1 := Classical.not_not.1 h1
  split at h
  · exact absurd h (by decide)
  rename_i h2
  split at h
  · exact absurd h (by decide)
  rename_i h3
  split at h
  · exact absurd h (by decide)
  rename_i h4
  have h2 : formB3 n k = true := by simpa using h2
  have h3 : txOk n = true := by simpa using h3
  have h4 : numOk n = true := by simpa using h4
  unfold formB3 at h2
  simp only [Bool.and_eq_true] at h2
  obtain ⟨⟨⟨⟨q0, q1⟩, q2⟩, _⟩, _⟩ := h2
  refine ⟨by rw [hn]; exact h1, fun h => ?_, fun h => ?_, fun h => ?_, fun h => ?_, fun h => ?_, fun h => ?_, fun h => ?_⟩
  · rw [hn] at h ⊢; exact kidB_bnd q0 (by omega)
  · rw [hn] at h ⊢; exact kidB_bnd q1 (by omega)
  · rw [hn] at h ⊢; exact kidB_bnd q2 (by omega)
  · rw [hn] at h ⊢
    unfold txOk at h3
    rwa [if_pos h] at h3
  · rw [hn] at h ⊢
    unfold numOk at h4
    rw [h] at h4
    simpa [hasNm, numLo, numHi] using h4
  · rw [hn] at h ⊢
    unfold numOk at h4
    rw [h] at h4
    simpa [hasNm, numLo, numHi] using h4
  · rw [hn] at h ⊢
    unfold numOk at h4
    rw [h] at h4
    simpa [hasNm, numLo, numHi] using h4

theorem kidsT {ns : List Nd} {k : Nat} (h : TdK ns k) : kidsOf (nmT ns) k = ([(ns.getD k default).a.toNat, (ns.getD k default).b.toNat, (ns.getD k default).c.toNat]).take (arN (ns.getD k default).op) := by
  have ha := h.a
  have hb := h.b
  have hc := h.c
  have hle := arN_le (ns.getD k default).op
  have hk : kidsOf (nmT ns) k = (([(ns.getD k default).a, (ns.getD k default).b, (ns.getD k default).c].take (arN (ns.getD k default).op)).map Int.toNat).filter (· < k) := rfl
  rw [hk]
  generalize arN (ns.getD k default).op = r at *
  generalize ns.getD k default = n at *
  have : r = 0 ∨ r = 1 ∨ r = 2 ∨ r = 3 := by omega
  rcases this with rfl | rfl | rfl | rfl
  · simp
  · have a1 := ha (by omega)
    have b1 : n.a.toNat < k := by omega
    simp [b1]
  · have a1 := ha (by omega)
    have a2 := hb (by omega)
    have b1 : n.a.toNat < k := by omega
    have b2 : n.b.toNat < k := by omega
    simp [b1, b2]
  · have a1 := ha (by omega)
    have a2 := hb (by omega)
    have a3 := hc (by omega)
    have b1 : n.a.toNat < k := by omega
    have b2 : n.b.toNat < k := by omega
    have b3 : n.c.toNat < k := by omega
    simp [b1, b2, b3]

def cntT (ns : List Nd) (k : Nat) : Nat := (full (nmT ns) k).length
theorem cntT_eq {ns : List Nd} {k : Nat} (h : TdK ns k) : cntT ns k = (if 1 ≤ arN (ns.getD k default).op then cntT ns (ns.getD k default).a.toNat else 0) + (if 2 ≤ arN (ns.getD k default).op then cntT ns (ns.getD k default).b.toNat else 0) + (if 3 ≤ arN (ns.getD k default).op then cntT ns (ns.getD k default).c.toNat else 0) + 1 := by
  have hle := arN_le (ns.getD k default).op
  unfold cntT
  rw [full_eq, List.length_append, List.length_singleton, kidsT h]
  generalize arN (ns.getD k default).op = r at *
  have : r = 0 ∨ r = 1 ∨ r = 2 ∨ r = 3 := by omega
  rcases this with rfl | rfl | rfl | rfl
  · simp
  · simp
  · simp
  · simp
    omega

/-- A tree becomes no more than five times its nodes. -/
theorem lowP_count {ns : List Nd} (hok : ∀ j, j < ns.length → TdK ns j) : ∀ (f k : Nat) (names : List ByteArray), k < f → k < ns.length → (lowP ns f k names).count ≤ 5 * cntT ns k
  | 0, k, names, h, _ => by omega
  | f + 1, k, names, h, hk => by
    have hn := hok k hk
    have h1 := lowB_count (ns.getD k default) names (lowP ns f (ns.getD k default).a.toNat (inT (ns.getD k default) 0 names)) (lowP ns f (ns.getD k default).b.toNat (inT (ns.getD k default) 1 names)) (lowP ns f (ns.getD k default).c.toNat (inT (ns.getD k default) 2 names)) hn.op.1 hn.op.2
    have h2 := cntT_eq hn
    have ha := fun h1 => lowP_count hok f (ns.getD k default).a.toNat (inT (ns.getD k default) 0 names) (by have := hn.a h1; omega) (by have := hn.a h1; omega)
    have hb := fun h1 => lowP_count hok f (ns.getD k default).b.toNat (inT (ns.getD k default) 1 names) (by have := hn.b h1; omega) (by have := hn.b h1; omega)
    have hc := fun h1 => lowP_count hok f (ns.getD k default).c.toNat (inT (ns.getD k default) 2 names) (by have := hn.c h1; omega) (by have := hn.c h1; omega)
    have el : lowP ns (f + 1) k names = lowB (ns.getD k default) names (lowP ns f (ns.getD k default).a.toNat (inT (ns.getD k default) 0 names)) (lowP ns f (ns.getD k default).b.toNat (inT (ns.getD k default) 1 names)) (lowP ns f (ns.getD k default).c.toNat (inT (ns.getD k default) 2 names)) := rfl
    rw [el]
    clear el
    generalize lowP ns f (ns.getD k default).a.toNat _ = A at *
    generalize lowP ns f (ns.getD k default).b.toNat _ = B at *
    generalize lowP ns f (ns.getD k default).c.toNat _ = C at *
    have hle := arN_le (ns.getD k default).op
    clear hn
    generalize arN (ns.getD k default).op = r at *
    generalize (lowB (ns.getD k default) names A B C).count = x at *
    generalize cntT ns k = ck at *
    generalize cntT ns (ns.getD k default).a.toNat = ca at *
    generalize cntT ns (ns.getD k default).b.toNat = cb at *
    generalize cntT ns (ns.getD k default).c.toNat = cc at *
    have : r = 0 ∨ r = 1 ∨ r = 2 ∨ r = 3 := by omega
    rcases this with rfl | rfl | rfl | rfl
    · simp at h1 h2; omega
    · have := ha (by omega); simp at h1 h2; omega
    · have := ha (by omega); have := hb (by omega); simp at h1 h2; omega
    · have := ha (by omega); have := hb (by omega); have := hc (by omega); simp at h1 h2; omega

end Go.Proofs.YtmmjbpgdkokjgaaGreat
end

section
set_option linter.unusedVariables false
set_option linter.unusedSimpArgs false
set_option maxRecDepth 100000
namespace Go.Proofs.YtmmjbpgdkokjgaaGreat
open Go.RowKit

theorem l6One_leaf {ns : List Nd} {n : Nd} {k : Nat} {names : List ByteArray} {L : List Co} {X : Pt} (hk : k < ns.length) (hat : ns.getD k default = n) (har : arN n.op = 0)
    (hleaf : FunQ env.P 28 [.lp 0 0, .d (.agg n.row), .d (namesD names)] (loS ns L 0) (just (.d (dI (plc (X.on L)))) (loS ns (X.on L) X.count))) :
    FunQ env.P 15 [.lp 0 0, .d (dI k), .d (namesD names)] (loS ns L 0) (just (.d (dI (plc (X.on L)))) (loS ns (X.on L) X.count)) := by
  have hat' : ns.getD (Int.toNat (k : Int)) default = n := by simpa using hat
  have hks : Fun env.P 27 [dI n.op] (.d (dI 0)) [] := by have := l5Kids_fn n.op; rw [har] at this; exact this
  refine FunQ.intro Tryz.func15 rfl (by kernel_rfl) rfl ?_
  unfold Go.Proofs.YtmmjbpgdkokjgaaGreat.loS
  repeat (first | refine W.seq ?_ | refine W.rg ?_ | refine W.cond_true' ?_ | refine WG.nil ?_ | refine WG.run' (E := env) ?_ | refine WG.ixm' (E := env) ?_)
  rw [hat']
  repeat' (first | refine W.seq ?_ | refine W.rg ?_ | refine W.cond_true' ?_ | refine WG.nil ?_ | refine WG.run' (E := env) ?_ | refine WG.loS rfl rfl hleaf rfl rfl ?_ | refine WG.c (E := env) rfl rfl (hks) rfl rfl ?_)
  refine W.ret ?_
  exact RetR.loS (.inl rfl) rfl (by first | trivial | exact resOK_of (E := env) rfl) rfl rfl rfl (Nat.zero_add _) rfl

theorem l6One_fn {ns : List Nd} (hok : ∀ j, j < ns.length → TdK ns j) : ∀ (f k : Nat), k < f → k < ns.length → GoL ns k (fun names => lowP ns f k names) (cntT ns k)
  | 0, k, h, _ => by omega
  | f + 1, k, h, hk => by
    have hn := hok k hk
    have hce := cntT_eq hn
    have hka : 1 ≤ arN (ns.getD k default).op → GoL ns (ns.getD k default).a (fun names => lowP ns f (ns.getD k default).a.toNat names) (cntT ns (ns.getD k default).a.toNat) := fun h1 => by
      have := hn.a h1
      have e : (((ns.getD k default).a.toNat : Nat) : Int) = (ns.getD k default).a := by omega
      have ih := l6One_fn hok f (ns.getD k default).a.toNat (by omega) (by omega)
      rwa [e] at ih
    have hkb : 2 ≤ arN (ns.getD k default).op → GoL ns (ns.getD k default).b (fun names => lowP ns f (ns.getD k default).b.toNat names) (cntT ns (ns.getD k default).b.toNat) := fun h1 => by
      have := hn.b h1
      have e : (((ns.getD k default).b.toNat : Nat) : Int) = (ns.getD k default).b := by omega
      have ih := l6One_fn hok f (ns.getD k default).b.toNat (by omega) (by omega)
      rwa [e] at ih
    have hkc : 3 ≤ arN (ns.getD k default).op → GoL ns (ns.getD k default).c (fun names => lowP ns f (ns.getD k default).c.toNat names) (cntT ns (ns.getD k default).c.toNat) := fun h1 => by
      have := hn.c h1
      have e : (((ns.getD k default).c.toNat : Nat) : Int) = (ns.getD k default).c := by omega
      have ih := l6One_fn hok f (ns.getD k default).c.toNat (by omega) (by omega)
      rwa [e] at ih
    refine ⟨fun names => lowP_count hok (f + 1) k names h hk, fun names L hnl hL => ?_⟩
    obtain ⟨A, hA⟩ : ∃ A : List ByteArray → Pt, A = fun names => lowP ns f (ns.getD k default).a.toNat names := ⟨_, rfl⟩
    obtain ⟨B, hB⟩ : ∃ B : List ByteArray → Pt, B = fun names => lowP ns f (ns.getD k default).b.toNat names := ⟨_, rfl⟩
    obtain ⟨C, hC⟩ : ∃ C : List ByteArray → Pt, C = fun names => lowP ns f (ns.getD k default).c.toNat names := ⟨_, rfl⟩
    have el : lowP ns (f + 1) k names = lowB (ns.getD k default) names (A (inT (ns.getD k default) 0 names)) (B (inT (ns.getD k default) 1 names)) (C (inT (ns.getD k default) 2 names)) := by rw [hA, hB, hC]; rfl
    show FunQ env.P 15 [.lp 0 0, .d (dI k), .d (namesD names)] (loS ns L 0) (just (.d (dI (plc ((lowP ns (f + 1) k names).on L)))) (loS ns ((lowP ns (f + 1) k names).on L) (lowP ns (f + 1) k names).count))
    rw [el]
    rw [← hA] at hka
    rw [← hB] at hkb
    rw [← hC] at hkc
    have hop := hn.op
    clear hn hA hB hC el
    generalize cntT ns k = ck at *
    generalize cntT ns (ns.getD k default).a.toNat = ca at *
    generalize cntT ns (ns.getD k default).b.toNat = cb at *
    generalize cntT ns (ns.getD k default).c.toNat = cc at *
    generalize hat : ns.getD k default = n at *
    obtain ⟨op, a, b, c, num, text⟩ := n
    simp only at hop hce hka hkb hkc
    have : op = 1 ∨ op = 2 ∨ op = 3 ∨ op = 4 ∨ op = 5 ∨ op = 6 ∨ op = 7 ∨ op = 8 ∨ op = 9 ∨ op = 10 ∨ op = 11 ∨ op = 12 ∨ op = 13 ∨ op = 14 ∨ op = 15 ∨ op = 16 ∨ op = 17 ∨ op = 18 ∨ op = 19 ∨ op = 20 ∨ op = 21 ∨ op = 22 ∨ op = 23 ∨ op = 24 := by omega
    rcases this with rfl | rfl | rfl | rfl | rfl | rfl | rfl | rfl | rfl | rfl | rfl | rfl | rfl | rfl | rfl | rfl | rfl | rfl | rfl | rfl | rfl | rfl | rfl | rfl
    · have e : arN 1 = 0 := rfl
      exact l6One_leaf hk hat rfl (l6Leaf_1 (n := ⟨1, a, b, c, num, text⟩) rfl (by omega) (by omega))
    · have e : arN 2 = 0 := rfl
      exact l6One_leaf hk hat rfl (l6Leaf_2 (n := ⟨2, a, b, c, num, text⟩) rfl (by omega) (by omega))
    · have e : arN 3 = 0 := rfl
      exact l6One_leaf hk hat rfl (l6Leaf_3 (n := ⟨3, a, b, c, num, text⟩) rfl (by omega) (by omega))
    · have e : arN 4 = 0 := rfl
      exact l6One_leaf hk hat rfl (l6Leaf_4 (n := ⟨4, a, b, c, num, text⟩) rfl (by omega) (by omega))
    · have e : arN 5 = 2 := rfl
      rw [e] at hce
      simp at hce
      exact l6One_5 hk hat rfl (hka (by decide)) (hkb (by decide)) (by omega) (by omega)
    · have e : arN 6 = 2 := rfl
      rw [e] at hce
      simp at hce
      exact l6One_6 hk hat rfl (hka (by decide)) (hkb (by decide)) (by omega) (by omega)
    · have e : arN 7 = 2 := rfl
      rw [e] at hce
      simp at hce
      exact l6One_7 hk hat rfl (hka (by decide)) (hkb (by decide)) (by omega) (by omega)
    · have e : arN 8 = 2 := rfl
      rw [e] at hce
      simp at hce
      exact l6One_8 hk hat rfl (hka (by decide)) (hkb (by decide)) (by omega) (by omega)
    · have e : arN 9 = 2 := rfl
      rw [e] at hce
      simp at hce
      exact l6One_9 hk hat rfl (hka (by decide)) (hkb (by decide)) (by omega) (by omega)
    · have e : arN 10 = 2 := rfl
      rw [e] at hce
      simp at hce
      exact l6One_10 hk hat rfl (hka (by decide)) (hkb (by decide)) (by omega) (by omega)
    · have e : arN 11 = 2 := rfl
      rw [e] at hce
      simp at hce
      exact l6One_11 hk hat rfl (hka (by decide)) (hkb (by decide)) (by omega) (by omega)
    · have e : arN 12 = 1 := rfl
      rw [e] at hce
      simp at hce
      exact l6One_12 hk hat rfl (hka (by decide)) (by omega) (by omega)
    · have e : arN 13 = 1 := rfl
      rw [e] at hce
      simp at hce
      exact l6One_13 hk hat rfl (hka (by decide)) (by omega) (by omega)
    · have e : arN 14 = 1 := rfl
      rw [e] at hce
      simp at hce
      exact l6One_14 hk hat rfl (hka (by decide)) (by omega) (by omega)
    · have e : arN 15 = 0 := rfl
      exact l6One_leaf hk hat rfl (l6Leaf_15 (n := ⟨15, a, b, c, num, text⟩) rfl (by omega) (by omega))
    · have e : arN 16 = 0 := rfl
      exact l6One_leaf hk hat rfl (l6Leaf_16 (n := ⟨16, a, b, c, num, text⟩) rfl (by omega) (by omega))
    · have e : arN 17 = 2 := rfl
      rw [e] at hce
      simp at hce
      exact l6One_17 hk hat rfl (hka (by decide)) (hkb (by decide)) (by omega) (by omega)
    · have e : arN 18 = 3 := rfl
      rw [e] at hce
      simp at hce
      exact l6One_18 hk hat rfl (hka (by decide)) (hkb (by decide)) (hkc (by decide)) (by omega) (by omega)
    · have e : arN 19 = 3 := rfl
      rw [e] at hce
      simp at hce
      exact l6One_19 hk hat rfl (hka (by decide)) (hkb (by decide)) (hkc (by decide)) (by omega) (by omega)
    · have e : arN 20 = 2 := rfl
      rw [e] at hce
      simp at hce
      exact l6One_20 hk hat rfl (hka (by decide)) (hkb (by decide)) (by omega) (by omega)
    · have e : arN 21 = 0 := rfl
      exact l6One_leaf hk hat rfl (l6Leaf_21 (n := ⟨21, a, b, c, num, text⟩) rfl (by omega) (by omega))
    · have e : arN 22 = 0 := rfl
      exact l6One_leaf hk hat rfl (l6Leaf_22 (n := ⟨22, a, b, c, num, text⟩) rfl (by omega) (by omega))
    · have e : arN 23 = 1 := rfl
      rw [e] at hce
      simp at hce
      exact l6One_23 hk hat rfl (hka (by decide)) (by omega) (by omega)
    · have e : arN 24 = 0 := rfl
      exact l6One_leaf hk hat rfl (l6Leaf_24 (n := ⟨24, a, b, c, num, text⟩) rfl (by omega) (by omega))

end Go.Proofs.YtmmjbpgdkokjgaaGreat
end
