/-
  One node of a tree: its fault, by the program and by the reference. Conditions: trees of at most 2^20 nodes, texts of at most 2^20 bytes.
-/
import Derived.Test.YtmmjbpgdkokjgaaGreatQLowerTreeTr1
import Derived.Test.YtmmjbpgdkokjgaaGreatQLowerTreePgE
set_option linter.unusedVariables false
set_option linter.unusedSimpArgs false
set_option maxRecDepth 100000
namespace Go.Proofs.YtmmjbpgdkokjgaaGreat
open Go.RowKit

set_option maxHeartbeats 1000000 in
theorem named_fn (n : Nd) : Fun env.P 72 [.agg n.row] (.d (.sl 1 (n.named.map intRow))) [] := by
  have ha := arity_fn n.op
  have hle := arN_le n.op
  refine Fun.intro Tryz.func72 rfl (by kernel_rfl) rfl ?_
  repeat' (first | refine W.seq ?_ | refine W.rg ?_ | refine W.dra' ?_ | refine WG.nil ?_ | refine WG.run' (E := env) ?_ | refine WD.nil ?_ | refine WD.bs' (E := env) ?_ | refine WD.s' (E := env) (t := .d _) ?_ | refine WD.s' (E := env) (t := .ea _ _) ?_ | refine WD.s' (E := env) (t := .lp _ _) ?_ | refine WD.s' (E := env) (t := .og _ _) ?_ | refine WD.s' (E := env) (t := .agg _) ?_ | refine WD.s' (E := env) (t := .tup _) ?_ | refine WD.s' (E := env) (t := .clo _ _) ?_ | refine WD.slD' (E := env) ?_ | refine WD.c (E := env) rfl rfl (ha) rfl rfl ?_)
  (refine W.ret ?_; (first | refine RetQ.d' ?_))
  simp [Nd.named, List.map_take]
  rfl

/-- The code of a node. -/
def nodeC (ns : List Nd) (n : Nd) (k : Nat) : Int :=
  if ¬ (1 ≤ n.op ∧ n.op ≤ 24) then 6
  else if formB3 n k = false then 1
  else if txOk n = false then 5
  else if numOk n = false then 3
  else if n.op = 17 ∧ (ns.getD n.a.toNat default).op ≠ 16 ∧ (ns.getD n.a.toNat default).op ≠ 17 then 1 else 0

def nodeCode (ns : List Nd) (k : Nat) : Int := nodeC ns (ns.getD k default) k

def Nd.abc (n : Nd) : List Int := [n.a, n.b, n.c]
theorem Nd.abc_length (n : Nd) : n.abc.length = 3 := rfl
theorem Nd.abc_at (n : Nd) (i : Nat) (h : i < 3) : n.abc.getD i default = kidI n i := by
  have : i = 0 ∨ i = 1 ∨ i = 2 := by omega
  rcases this with rfl | rfl | rfl <;> rfl

theorem formB3_of {n : Nd} {k i : Nat} (hi : i < 3) (h : kidB n k i = false) : formB3 n k = false := by
  have : i = 0 ∨ i = 1 ∨ i = 2 := by omega
  unfold formB3
  rcases this with rfl | rfl | rfl <;> simp [h]

set_option maxHeartbeats 4000000 in
theorem formsOk_fn (n : Nd) (k : Nat) (hk : k ≤ 1048576) : Fun env.P 90 [.agg n.row, dI k] (.d (dB (formB3 n k))) [] := by
  have ha := arity_fn n.op
  have hle := arN_le n.op
  have ht := hasText_fn n.op
  refine Fun.intro Tryz.func90 rfl (by kernel_rfl) rfl ?_
  repeat' (first | refine W.seq ?_ | refine W.rg ?_ | refine W.block ?_ | refine W.skip ?_ | refine W.exit ?_ | refine W.cond_true' ?_ | refine W.cond_false' ?_ | refine WG.nil ?_ | refine WG.run' (E := env) ?_ | refine WG.gt' ?_ | refine WG.gf' ?_ | refine WG.ixm' (E := env) ?_ | ((first | refine WG.sp' (fun h => ?_) fun h => ?_ | refine W.cond' (fun h => ?_) fun h => ?_) <;> (try simp only [atS, List.length_map, beq_self_eq_true] at h) <;> (try (exfalso; first | contradiction | omega))))
  refine W.pubD 1 rfl ?_
  refine W.loop (fun m S => ∃ i : Nat, m = 3 - i ∧ (i ≤ 3 ∧ ∀ j, j < i → kidB n k j = true) ∧ S = ⟨ofL [(1, vI .i64 k), (2, .lp 0 0), (14, .d (.sl 1 (n.abc.map intRow))), (15, vI .i64 3), (16, vI .i64 i)], [.pv (n.row.map .d)]⟩) _ _ ⟨0, rfl, ⟨by omega, fun j hj => by omega⟩, rfl⟩ (by (refine le_ofL rfl ?_ ?_ <;> (repeat (first | exact trivial | refine ⟨⟨rfl, rfl⟩, ?_⟩ | refine ⟨rfl, .inl rfl, ?_⟩ | refine ⟨rfl, .inr rfl, ?_⟩)))) ?_
  rintro m S ⟨i, rfl, ⟨hi, hb⟩, rfl⟩
  have hkid := n.abc_at i
  have h3 := n.abc_length
  repeat' (first | refine W.seq ?_ | refine W.rg ?_ | refine W.block ?_ | refine W.skip ?_ | refine W.exit ?_ | refine W.cond_true' ?_ | refine W.cond_false' ?_ | refine WG.nil ?_ | refine WG.run' (E := env) ?_ | refine WG.gt' ?_ | refine WG.gf' ?_ | refine WG.ixm' (E := env) ?_ | refine WG.c (E := env) rfl rfl (ha) rfl rfl ?_ | refine WG.c (E := env) rfl rfl (within_fn _ _ _) rfl rfl ?_ | refine WG.c (E := env) rfl rfl (ht) rfl rfl ?_ | ((first | refine WG.sp' (fun h => ?_) fun h => ?_ | refine W.cond' (fun h => ?_) fun h => ?_) <;> (try simp only [atS, List.length_map, beq_self_eq_true] at h) <;> (try (exfalso; first | contradiction | omega))))
  all_goals (try simp only [Int.toNat_natCast] at *)
  · have e := hkid (by omega)
    rw [e] at *
    have hf : kidB n k i = false := by
      rw [kidB, if_pos (by omega)]; simp; omega
    (refine W.ret ?_; (first | refine RetQ.b' ?_))
    rw [formB3_of (by omega) hf]
  · have e := hkid (by omega)
    rw [e] at *
    have hf : kidB n k i = true := by
      rw [kidB, if_pos (by omega)]; simp; omega
    exact ⟨_, _, by omega, ⟨i + 1, rfl, ⟨by omega, fun j hj => by
      by_cases e : j = i
      · rw [e]; exact hf
      · exact hb j (by omega)⟩, rfl⟩, (by (refine le_ofL rfl ?_ ?_ <;> (repeat (first | exact trivial | refine ⟨⟨rfl, rfl⟩, ?_⟩ | refine ⟨rfl, .inl rfl, ?_⟩ | refine ⟨rfl, .inr rfl, ?_⟩))))⟩
  · have e := hkid (by omega)
    rw [e] at *
    have hf : kidB n k i = false := by
      rw [kidB, if_neg (by omega)]; simp; omega
    (refine W.ret ?_; (first | refine RetQ.b' ?_))
    rw [formB3_of (by omega) hf]
  · have e := hkid (by omega)
    rw [e] at *
    have hf : kidB n k i = true := by
      rw [kidB, if_neg (by omega)]; simp; omega
    exact ⟨_, _, by omega, ⟨i + 1, rfl, ⟨by omega, fun j hj => by
      by_cases e : j = i
      · rw [e]; exact hf
      · exact hb j (by omega)⟩, rfl⟩, (by (refine le_ofL rfl ?_ ?_ <;> (repeat (first | exact trivial | refine ⟨⟨rfl, rfl⟩, ?_⟩ | refine ⟨rfl, .inl rfl, ?_⟩ | refine ⟨rfl, .inr rfl, ?_⟩))))⟩
  all_goals
    have hb0 := hb 0 (by omega)
    have hb1 := hb 1 (by omega)
    have hb2 := hb 2 (by omega)
    clear ha ht hb hkid
    (refine W.ret ?_; (first | refine RetQ.b' ?_))
    simp_all [formB3, hasNm]

/-- What a node of a right form names lies ahead of it. -/
theorem formB3_named {n : Nd} {k : Nat} (h : formB3 n k = true) : ∀ m ∈ n.named, 0 ≤ m ∧ m < k := by
  intro m hm
  unfold formB3 at h
  simp only [Bool.and_eq_true] at h
  obtain ⟨⟨⟨⟨h0, h1⟩, h2⟩, _⟩, _⟩ := h
  have hle := arN_le n.op
  have key : ∀ i, i < arN n.op → kidB n k i = true → 0 ≤ kidI n i ∧ kidI n i < k := fun i hi hb => by
    rw [kidB, if_pos hi] at hb
    simp only [Bool.and_eq_true, decide_eq_true_eq] at hb
    omega
  obtain ⟨i, hi, rfl⟩ := List.getElem_of_mem hm
  have hi2 : i < arN n.op := by simp [Nd.named] at hi; omega
  have e : n.named[i] = kidI n i := by
    have : i = 0 ∨ i = 1 ∨ i = 2 := by omega
    simp only [Nd.named, List.getElem_take]
    rcases this with rfl | rfl | rfl <;> rfl
  rw [e]
  have : i = 0 ∨ i = 1 ∨ i = 2 := by omega
  rcases this with rfl | rfl | rfl
  · exact key 0 hi2 h0
  · exact key 1 hi2 h1
  · exact key 2 hi2 h2

set_option maxHeartbeats 4000000 in
theorem nodeFault_fn (ns : List Nd) (k : Nat) (hk : k < ns.length) (hl : ns.length ≤ 1048576) (ht : ∀ n ∈ ns, n.text.size ≤ 1048576) : Fun env.P 69 [nodesD ns, dI k] (.d (dI (nodeCode ns k))) [] := by
  have htk := ht _ (getD_mem' hk)
  unfold nodeCode
  refine Fun.intro Tryz.func69 rfl (by kernel_rfl) rfl ?_
  repeat (first | refine W.seq ?_ | refine W.rg ?_ | refine W.block ?_ | refine W.skip ?_ | refine W.cond_true' ?_ | refine W.cond_false' ?_ | refine WG.nil ?_ | refine WG.run' (E := env) ?_ | refine WG.gf' ?_ | refine WG.ixm' (E := env) ?_)
  have hat : ns.getD (Int.toNat k) default = ns.getD k default := by simp
  rw [hat]
  generalize hn : ns.getD k default = n at htk
  have h1 := formsOk_fn n k (by omega)
  have h2 := isNodeText_fn n htk
  have h3 := isNodeNum_fn n
  have ha : formB3 n k = true → n.op = 17 → 0 ≤ n.a ∧ n.a < ns.length := fun hf h17 => by
    have := formB3_named hf n.a (by simp [Nd.named, arN, h17])
    omega
  have hin := within_fn n.op 1 24
  clear hn hat
  by_cases hf : formB3 n k = true
  · rw [hf] at h1
    by_cases h17 : n.op = 17
    · obtain ⟨ha1, ha2⟩ := ha hf h17
      repeat' (first | refine W.seq ?_ | refine W.rg ?_ | refine W.block ?_ | refine W.skip ?_ | refine W.cond_true' ?_ | refine W.cond_false' ?_ | refine WG.nil ?_ | refine WG.run' (E := env) ?_ | refine WG.gf' ?_ | refine WG.ixm' (E := env) ?_ | refine WG.c (E := env) rfl rfl (hin) rfl rfl ?_ | refine WG.c (E := env) rfl rfl (h1) rfl rfl ?_ | refine WG.c (E := env) rfl rfl (h2) rfl rfl ?_ | refine WG.c (E := env) rfl rfl (h3) rfl rfl ?_ | ((first | refine WG.sp' (fun h => ?_) fun h => ?_ | refine W.cond' (fun h => ?_) fun h => ?_) <;> (try simp only [atS, List.length_map, beq_self_eq_true] at h) <;> (try (exfalso; first | contradiction | omega))))
      all_goals (refine W.ret ?_; (first | refine RetQ.i' ?_))
      all_goals (clear h1 h2 h3 hin ha ht; unfold nodeC; simp_all; try (intros; first | omega | (exfalso; omega)))
    · repeat' (first | refine W.seq ?_ | refine W.rg ?_ | refine W.block ?_ | refine W.skip ?_ | refine W.cond_true' ?_ | refine W.cond_false' ?_ | refine WG.nil ?_ | refine WG.run' (E := env) ?_ | refine WG.gf' ?_ | refine WG.ixm' (E := env) ?_ | refine WG.c (E := env) rfl rfl (hin) rfl rfl ?_ | refine WG.c (E := env) rfl rfl (h1) rfl rfl ?_ | refine WG.c (E := env) rfl rfl (h2) rfl rfl ?_ | refine WG.c (E := env) rfl rfl (h3) rfl rfl ?_ | ((first | refine WG.sp' (fun h => ?_) fun h => ?_ | refine W.cond' (fun h => ?_) fun h => ?_) <;> (try simp only [atS, List.length_map, beq_self_eq_true] at h) <;> (try (exfalso; first | contradiction | omega))))
      all_goals (refine W.ret ?_; (first | refine RetQ.i' ?_))
      all_goals (clear h1 h2 h3 hin ha ht; unfold nodeC; simp_all; try (intros; first | omega | (exfalso; omega)))
  · rw [Bool.not_eq_true] at hf
    rw [hf] at h1
    repeat' (first | refine W.seq ?_ | refine W.rg ?_ | refine W.block ?_ | refine W.skip ?_ | refine W.cond_true' ?_ | refine W.cond_false' ?_ | refine WG.nil ?_ | refine WG.run' (E := env) ?_ | refine WG.gf' ?_ | refine WG.ixm' (E := env) ?_ | refine WG.c (E := env) rfl rfl (hin) rfl rfl ?_ | refine WG.c (E := env) rfl rfl (h1) rfl rfl ?_ | refine WG.c (E := env) rfl rfl (h2) rfl rfl ?_ | refine WG.c (E := env) rfl rfl (h3) rfl rfl ?_ | ((first | refine WG.sp' (fun h => ?_) fun h => ?_ | refine W.cond' (fun h => ?_) fun h => ?_) <;> (try simp only [atS, List.length_map, beq_self_eq_true] at h) <;> (try (exfalso; first | contradiction | omega))))
    all_goals (refine W.ret ?_; (first | refine RetQ.i' ?_))
    all_goals (clear h1 h2 h3 hin ha ht; unfold nodeC; simp_all; try (intros; first | omega | (exfalso; omega)))

/-- What the reference asks of a node, in its own order. -/
def nodeS (ns : List Nd) (n : Nd) (k : Nat) : Int :=
  if ¬ (1 ≤ n.op ∧ n.op ≤ 24) then 6
  else if (numHi n.op = 0 ∧ n.num ≠ 0) ∨ (hasTx n.op = false ∧ n.text ≠ noS) then 1
  else if kidB n k 0 = false ∨ kidB n k 1 = false ∨ kidB n k 2 = false then 1
  else if txFit n = false then 5
  else if ¬ (numLo n.op ≤ n.num ∧ n.num ≤ numHi n.op) then 3
  else if n.op = 17 ∧ (ns.getD n.a.toNat default).op ≠ 16 ∧ (ns.getD n.a.toNat default).op ≠ 17 then 1 else 0

theorem numHi_zero (op : Int) : numHi op = 0 ↔ hasNm op = false := by
  unfold numHi hasNm
  constructor
  · intro h
    repeat' split at h
    all_goals first | omega | (simp; omega)
  · intro h
    simp at h
    rw [if_neg h.1, if_neg h.2.1, if_neg h.2.2]

theorem nodeS_eq (ns : List Nd) (n : Nd) (k : Nat) : nodeS ns n k = nodeC ns n k := by
  unfold nodeS nodeC
  by_cases h0 : 1 ≤ n.op ∧ n.op ≤ 24
  · have h0' : ¬ ¬ (1 ≤ n.op ∧ n.op ≤ 24) := fun h => h h0
    rw [if_neg h0', if_neg h0']
    by_cases hf : formB3 n k = true
    · have hf' := hf
      unfold formB3 at hf
      simp only [Bool.and_eq_true, Bool.or_eq_true, decide_eq_true_eq] at hf
      obtain ⟨⟨⟨⟨f0, f1⟩, f2⟩, f3⟩, f4⟩ := hf
      have g1 : ¬ ((numHi n.op = 0 ∧ n.num ≠ 0) ∨ (hasTx n.op = false ∧ n.text ≠ noS)) := by
        rintro (⟨a, b⟩ | ⟨a, b⟩)
        · rw [numHi_zero] at a
          rcases f3 with f3 | f3
          · rw [a] at f3; cases f3
          · exact b f3
        · rcases f4 with f4 | f4
          · rw [a] at f4; cases f4
          · exact b f4
      have g2 : txFit n = txOk n := by
        unfold txFit
        by_cases ht : hasTx n.op = true
        · rw [if_pos ht]
        · rw [if_neg ht]
          rcases f4 with f4 | f4
          · exact absurd f4 ht
          · have : txOk n = true := by
              unfold hasTx at ht
              simp at ht
              unfold txOk
              rw [if_neg (by omega), if_neg (by omega), if_neg (by omega)]
            rw [this, f4]; simp
      have g3 : (¬ (numLo n.op ≤ n.num ∧ n.num ≤ numHi n.op)) ↔ numOk n = false := by
        unfold numOk
        by_cases hn : hasNm n.op = true
        · rw [if_pos hn] <;> simp <;> omega
        · rw [if_neg hn]
          have hn' : hasNm n.op = false := by simpa using hn
          rcases f3 with f3 | f3
          · exact absurd f3 hn
          · have h1 := (numHi_zero n.op).2 hn'
            have h2 : numLo n.op = 0 := by
              unfold hasNm at hn'
              simp at hn'
              unfold numLo
              rw [if_neg (by omega)]
            rw [h1, h2, f3]; simp
      rw [if_neg g1, if_neg (by simp [f0, f1, f2]), g2, if_neg (by simp [hf'] : ¬ formB3 n k = false)]
      by_cases ht : txOk n = false
      · rw [if_pos ht, if_pos ht]
      · rw [if_neg ht, if_neg ht]
        by_cases hn : numOk n = false
        · rw [if_pos (g3.2 hn), if_pos hn]
        · rw [if_neg (fun h => hn (g3.1 h)), if_neg hn]
    · rw [if_pos (show formB3 n k = false by simpa using hf)]
      by_cases g1 : (numHi n.op = 0 ∧ n.num ≠ 0) ∨ (hasTx n.op = false ∧ n.text ≠ noS)
      · rw [if_pos g1]
      · rw [if_neg g1]
        by_cases g2 : kidB n k 0 = false ∨ kidB n k 1 = false ∨ kidB n k 2 = false
        · rw [if_pos g2]
        · exfalso
          apply hf
          simp only [not_or, Bool.not_eq_false, not_and, ne_eq, Decidable.not_not] at g1 g2
          unfold formB3
          rw [g2.1, g2.2.1, g2.2.2]
          simp only [Bool.and_true, Bool.true_and, Bool.and_eq_true, Bool.or_eq_true, decide_eq_true_eq]
          refine ⟨?_, ?_⟩
          · by_cases h : hasNm n.op = true
            · exact .inl h
            · exact .inr (g1.1 ((numHi_zero _).2 (by simpa using h)))
          · by_cases h : hasTx n.op = true
            · exact .inl h
            · exact .inr (g1.2 (by simpa using h))
  · rw [if_pos h0, if_pos h0]

end Go.Proofs.YtmmjbpgdkokjgaaGreat
