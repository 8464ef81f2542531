/-
  Cells and values, in plain words: what is read at a place; a right value's cells; no program in sight. Conditions: none.
-/
import Derived.Test.YtlegadpbjccelaaQSortsOr1
import Derived.Test.YtlegadpbjccelaaQSortsV7
set_option linter.unusedVariables false
set_option linter.unusedSimpArgs false
set_option maxRecDepth 100000
namespace Go.Proofs.Ytlegadpbjccelaa
open Go.RowKit

/-! ### what is read, without fuel -/

theorem kidsM_congr {rec rec' : Nat → Option (V × Nat)} {cs : List Cell} {c : Cell} (hle : ∀ k v b, rec k = some (v, b) → k < b) : ∀ (r i : Nat) (keys : List ByteArray) (kids : List V) (next : Nat),
    (∀ n, next ≤ n → rec n = rec' n) → kidsM rec cs c r i keys kids next = kidsM rec' cs c r i keys kids next
  | 0, i, keys, kids, next, _ => rfl
  | r + 1, i, keys, kids, next, h => by
    simp only [kidsM]
    rw [← h next (Nat.le_refl _)]
    cases hr : rec next with
    | none => rfl
    | some p =>
      obtain ⟨kid, b⟩ := p
      have hb := hle _ _ _ hr
      simp only []
      split
      · rfl
      · exact kidsM_congr hle r _ _ _ b fun n hn => h n (by omega)

theorem valAtM_fuel {cs : List Cell} : ∀ (f f' k : Nat), cs.length < k + f → cs.length < k + f' → valAtM cs f k = valAtM cs f' k
  | 0, f', k, h, _ => by rw [valAtM_ge (by omega), valAtM_ge (by omega)]
  | f + 1, 0, k, _, h => by rw [valAtM_ge (by omega), valAtM_ge (by omega)]
  | f + 1, f' + 1, k, h, h' => by
    simp only [valAtM]
    split
    · rw [kidsM_congr (rec := valAtM cs f) (rec' := valAtM cs f') (fun k v b h => (valAtM_le f k v b h).1) _ _ _ _ _ fun n hn => valAtM_fuel f f' n (by omega) (by omega)]
    · rfl

/-- The value at a place, and what stands behind it. -/
def valA (cs : List Cell) (k : Nat) : Option (V × Nat) := valAtM cs (cs.length + 1) k

theorem valA_of {cs : List Cell} {f k : Nat} (h : cs.length < k + f) : valAtM cs f k = valA cs k := valAtM_fuel _ _ _ h (by omega)

theorem valA_eq (cs : List Cell) (k : Nat) : valA cs k =
    if k < cs.length then
      match kidsM (valA cs) cs (cs.getD k default) (cs.getD k default).n.toNat 0 [] [] (k + 1) with
      | none => none
      | some (keys, kids, next) => some (.mk (cs.getD k default).kind (cs.getD k default).num (cs.getD k default).text keys kids, next)
    else none := by
  rw [← valA_of (cs := cs) (f := cs.length + 2) (k := k) (by omega)]
  rw [valAtM]
  rfl

theorem valA_le {cs : List Cell} {k : Nat} {v : V} {b : Nat} (h : valA cs k = some (v, b)) : k < b ∧ b ≤ cs.length := valAtM_le _ _ _ _ h

/-! ### the cells of a value -/

mutual
def V.cellsK (key : ByteArray) : V → List Cell
  | .mk k n t ks kids => ⟨k, n, t, key, (kids.length : Int)⟩ :: V.kidsC kids ks
def V.kidsC : List V → List ByteArray → List Cell
  | [], _ => []
  | v :: r, ks => V.cellsK (ks.headD noS) v ++ V.kidsC r ks.tail
end

def V.cells (v : V) : List Cell := v.cellsK noS

mutual
def V.good : V → Prop
  | .mk k n t ks kids => (0 ≤ k ∧ k ≤ 6) ∧ (n ≠ 0 → k = 3) ∧ (t ≠ noS → k = 4) ∧ (kids ≠ [] → k = 5 ∨ k = 6) ∧ (-1000000000000000 ≤ n ∧ n ≤ 1000000000000000) ∧ okText t = true ∧
      (k = 6 → ks.length = kids.length) ∧ (k ≠ 6 → ks = []) ∧ (∀ key ∈ ks, okText key = true) ∧ incr ks ∧ V.goods kids
def V.goods : List V → Prop
  | [] => True
  | v :: r => v.good ∧ V.goods r
end

theorem V.goods_mem : ∀ {l : List V}, V.goods l → ∀ v ∈ l, v.good
  | [], _, v, h => by cases h
  | x :: r, h, v, hv => by
    rcases List.mem_cons.1 hv with rfl | hv
    · exact h.1
    · exact V.goods_mem h.2 v hv

theorem V.goods_of : ∀ {l : List V}, (∀ v ∈ l, v.good) → V.goods l
  | [], _ => trivial
  | x :: r, h => ⟨h x (List.mem_cons_self ..), V.goods_of fun v hv => h v (List.mem_cons_of_mem _ hv)⟩

mutual
theorem V.cellsK_length : ∀ (v : V) (key : ByteArray), (v.cellsK key).length = v.count
  | .mk k n t ks kids, key => by simp only [V.cellsK, List.length_cons, V.count, V.kidsC_length kids ks]
theorem V.kidsC_length : ∀ (l : List V) (ks : List ByteArray), (V.kidsC l ks).length = V.counts l
  | [], _ => rfl
  | v :: r, ks => by simp only [V.kidsC, List.length_append, V.counts, V.cellsK_length v, V.kidsC_length r]
end

theorem V.cellsK_key (v : V) (key : ByteArray) : ∃ c r, v.cellsK key = c :: r ∧ c.key = key ∧ c.kind = v.kind := by
  obtain ⟨k, n, t, ks, kids⟩ := v
  exact ⟨_, _, rfl, rfl, rfl⟩

theorem V.kidsC_app : ∀ (l : List V) (ks : List ByteArray) (v : V) (key : ByteArray), ks.length = l.length → V.kidsC (l ++ [v]) (ks ++ [key]) = V.kidsC l ks ++ v.cellsK key
  | [], ks, v, key, h => by
    have : ks = [] := List.eq_nil_of_length_eq_zero h
    subst this
    simp [V.kidsC]
  | x :: r, [], v, key, h => by simp at h
  | x :: r, a :: ks, v, key, h => by
    have := V.kidsC_app r ks v key (by simpa using h)
    simp only [List.cons_append, V.kidsC, List.headD_cons, List.tail_cons, this, List.append_assoc]

theorem V.kidsC_app0 : ∀ (l : List V) (v : V), V.kidsC (l ++ [v]) [] = V.kidsC l [] ++ v.cellsK noS
  | [], v => by simp [V.kidsC]
  | x :: r, v => by
    have := V.kidsC_app0 r v
    simp only [List.cons_append, V.kidsC, List.headD_nil, List.tail_nil, this, List.append_assoc]

theorem incr_app : ∀ (ks : List ByteArray) (key : ByteArray), incr ks → (ks = [] ∨ lessK (ks.getD (ks.length - 1) default) key = true) → incr (ks ++ [key])
  | [], key, _, _ => trivial
  | [a], key, _, h => by
    rcases h with h | h
    · cases h
    · exact ⟨by simpa using h, trivial⟩
  | a :: b :: r, key, h, hk => by
    have := incr_app (b :: r) key h.2 (.inr (by
      rcases hk with hk | hk
      · cases hk
      · simpa using hk))
    exact ⟨h.1, this⟩

/-- A right cell that holds nothing has no elements. -/
theorem cellCode_ok {c : Cell} (h : cellCode c = 0) : (0 ≤ c.kind ∧ c.kind ≤ 6) ∧ (c.num ≠ 0 → c.kind = 3) ∧ (c.text ≠ noS → c.kind = 4) ∧ (c.n ≠ 0 → c.kind = 5 ∨ c.kind = 6) ∧ (-1000000000000000 ≤ c.num ∧ c.num ≤ 1000000000000000) ∧ (0 ≤ c.n ∧ c.n ≤ 200) ∧ okText c.text = true ∧ okText c.key = true := by
  unfold cellCode at h
  split at h
  · cases h
  · rename_i h1
    split at h
    · cases h
    · rename_i h2
      split at h
      · cases h
      · rename_i h3
        split at h
        · cases h
        · rename_i h4
          simp only [Bool.not_eq_true', Bool.not_eq_false', Bool.and_eq_true, decide_eq_true_eq, Bool.or_eq_true, not_or, not_and, Bool.not_eq_true, decide_eq_false_iff_not, Bool.and_eq_false_iff, Bool.or_eq_false_iff, holdsK, Bool.not_eq_eq_eq_not, Bool.not_true, Bool.not_false] at h1 h2 h3 h4
          refine ⟨by simpa using h1, fun hn => ?_, fun hn => ?_, fun hn => ?_, by simpa using h3.1, by simpa using h3.2, by simpa using h4.1, by simpa using h4.2⟩
          · exact Decidable.not_not.1 (h2.1.1 hn)
          · exact Decidable.not_not.1 (h2.1.2 hn)
          · have h5 := h2.2 hn
            by_cases h6 : c.kind = 5
            · exact .inl h6
            · exact .inr (by simpa [h6] using h5)

theorem kids_cells {rec : Nat → Option (V × Nat)} {cs : List Cell} {c : Cell} (hc : ∀ i, i < cs.length → cellCode (cs.getD i default) = 0) (hr : ∀ k v b, rec k = some (v, b) → k < b ∧ b ≤ cs.length ∧ cs.drop k = v.cellsK (cs.getD k default).key ++ cs.drop b ∧ v.good) :
    ∀ (r i : Nat) (keys : List ByteArray) (kids : List V) (next b : Nat) (keys' : List ByteArray) (kids' : List V) (l0 : List Cell), kidsM rec cs c r i keys kids next = some (keys', kids', b) → next ≤ cs.length → (r ≠ 0 → c.kind = 5 ∨ c.kind = 6) →
      kids.length = i → (c.kind = 6 → keys.length = i) → (c.kind ≠ 6 → keys = []) → incr keys → (∀ k ∈ keys, okText k = true) → V.goods kids → V.kidsC kids keys ++ cs.drop next = l0 →
      kids'.length = i + r ∧ (c.kind = 6 → keys'.length = i + r) ∧ (c.kind ≠ 6 → keys' = []) ∧ incr keys' ∧ (∀ k ∈ keys', okText k = true) ∧ V.goods kids' ∧ V.kidsC kids' keys' ++ cs.drop b = l0
  | 0, i, keys, kids, next, b, keys', kids', l0, h, hn, hk, h1, h2, h3, h4, h5, h6, h7 => by
    simp only [kidsM, Option.some.injEq, Prod.mk.injEq] at h
    obtain ⟨rfl, rfl, rfl⟩ := h
    exact ⟨h1, h2, h3, h4, h5, h6, h7⟩
  | r + 1, i, keys, kids, next, b, keys', kids', l0, h, hn, hk, h1, h2, h3, h4, h5, h6, h7 => by
    simp only [kidsM] at h
    cases hv : rec next with
    | none => rw [hv] at h; cases h
    | some p =>
      obtain ⟨kid, b1⟩ := p
      obtain ⟨g1, g2, g3, g4⟩ := hr next kid b1 hv
      rw [hv] at h
      simp only at h
      split at h
      · cases h
      · rename_i hbad
        rw [not_or] at hbad
        have hkk := hk (by omega)
        have hok := (cellCode_ok (hc next (by omega))).2.2.2.2.2.2.2
        by_cases hk6 : c.kind = 6
        · rw [if_pos hk6] at h
          have hlast : keys = [] ∨ lessK (keys.getD (keys.length - 1) default) (cs.getD next default).key = true := by
            by_cases h0 : i = 0
            · left; exact List.eq_nil_of_length_eq_zero ((h2 hk6).trans h0)
            · right
              have := hbad.2
              simp only [hk6, true_and, not_and] at this
              have := this (by omega)
              rw [h2 hk6]
              simpa [lessK] using this
          obtain ⟨q1, q2, q3, q4, q5, q6, q7⟩ := kids_cells hc hr r (i + 1) (keys ++ [(cs.getD next default).key]) (kids ++ [kid]) b1 b keys' kids' l0 h g2 (fun _ => hkk) (by simp [h1]) (fun _ => by simp [h2 hk6]) (fun hn => absurd hk6 hn) (incr_app _ _ h4 hlast)
            (fun k hkm => by
              rcases List.mem_append.1 hkm with hkm | hkm
              · exact h5 k hkm
              · rw [List.mem_singleton.1 hkm]; exact hok) (V.goods_of fun v hv => by
              rcases List.mem_append.1 hv with hv | hv
              · exact V.goods_mem h6 v hv
              · rw [List.mem_singleton.1 hv]; exact g4) (by
              rw [V.kidsC_app _ _ _ _ ((h2 hk6).trans h1.symm), List.append_assoc, ← g3]
              exact h7)
          exact ⟨by omega, fun hh => by have := q2 hh; omega, q3, q4, q5, q6, q7⟩
        · rw [if_neg hk6] at h
          have hk5 : c.kind = 5 := hkk.resolve_right hk6
          have hnoS : (cs.getD next default).key = noS := by
            have := hbad.1
            simp only [hk5, true_and, ne_eq, Decidable.not_not] at this
            exact this
          have hkeys := h3 hk6
          subst hkeys
          rw [hnoS] at g3
          obtain ⟨q1, q2, q3, q4, q5, q6, q7⟩ := kids_cells hc hr r (i + 1) [] (kids ++ [kid]) b1 b keys' kids' l0 h g2 (fun _ => hkk) (by simp [h1]) (fun hh => absurd hh hk6) (fun _ => rfl) trivial h5
            (V.goods_of fun v hv => by
              rcases List.mem_append.1 hv with hv | hv
              · exact V.goods_mem h6 v hv
              · rw [List.mem_singleton.1 hv]; exact g4) (by
              rw [V.kidsC_app0, List.append_assoc, ← g3]
              exact h7)
          exact ⟨by omega, fun hh => absurd hh hk6, q3, q4, q5, q6, q7⟩

theorem drop_getD {cs : List Cell} {k : Nat} (h : k < cs.length) : cs.drop k = cs.getD k default :: cs.drop (k + 1) := drop_step h

/-- What is read at a place of right cells is a right value, and the cells there are its cells. -/
theorem valAtM_cells {cs : List Cell} (hc : ∀ i, i < cs.length → cellCode (cs.getD i default) = 0) : ∀ (f k : Nat) (v : V) (b : Nat), valAtM cs f k = some (v, b) → k < b ∧ b ≤ cs.length ∧ cs.drop k = v.cellsK (cs.getD k default).key ++ cs.drop b ∧ v.good
  | 0, k, v, b, h => by simp [valAtM] at h
  | f + 1, k, v, b, h => by
    have hle := valAtM_le _ _ _ _ h
    simp only [valAtM] at h
    rw [if_pos (by omega)] at h
    generalize hcell : cs.getD k default = c at h
    split at h
    · cases h
    · rename_i keys kids next hx
      simp only [Option.some.injEq, Prod.mk.injEq] at h
      obtain ⟨rfl, rfl⟩ := h
      have hcode := cellCode_ok (hc k (by omega))
      rw [hcell] at hcode
      obtain ⟨c1, c2, c3, c4, c5, c6, c7, c8⟩ := hcode
      obtain ⟨q1, q2, q3, q4, q5, q6, q7⟩ := kids_cells hc (valAtM_cells hc f) c.n.toNat 0 [] [] (k + 1) next keys kids _ hx (by omega) (fun hn => c4 (by omega)) rfl (fun _ => rfl) (fun _ => rfl) trivial (fun k hk => by cases hk) trivial rfl
      refine ⟨hle.1, hle.2, ?_, ?_⟩
      · rw [drop_getD (by omega), hcell, V.cellsK, List.cons_append, q7]
        simp only [V.kidsC, List.nil_append]
        congr 1
        have : (kids.length : Int) = c.n := by rw [q1]; omega
        rw [this]
      · exact ⟨c1, c2, c3, fun hne => by
          by_cases h0 : c.n = 0
          · exfalso
            apply hne
            apply List.eq_nil_of_length_eq_zero
            rw [q1, h0]; rfl
          · exact c4 h0, c5, c7, fun h => by rw [q2 h, q1], q3, q5, q4, q6⟩

/-- A value without fault is right, and its cells are what was read. -/
theorem valOfM_cells {cs : List Cell} (h : (valOfM cs).2 = 0) : (valOfM cs).1.good ∧ cs = (valOfM cs).1.cells ∧ (valOfM cs).1.count ≤ 200 ∧ (valOfM cs).1.depth ≤ 20 ∧ valA cs 0 = some ((valOfM cs).1, cs.length) := by
  have h0 := valOfM_kind h
  obtain ⟨_, hl1, hl2, hcc⟩ := h0
  have hc : ∀ i, i < cs.length → cellCode (cs.getD i default) = 0 := cellsCode_kind hcc
  unfold valOfM at h ⊢
  rw [if_neg (by omega), if_neg (by omega)] at h ⊢
  cases hv : valAtM cs (cs.length + 1) 0 with
  | none => rw [hv] at h; simp at h
  | some p =>
    obtain ⟨v, b⟩ := p
    rw [hv] at h
    simp only at h ⊢
    obtain ⟨g1, g2, g3, g4⟩ := valAtM_cells hc _ _ _ _ hv
    by_cases hb : b ≠ cs.length ∨ (cs.getD 0 default).key ≠ noS
    · rw [if_pos hb] at h; simp at h
    · rw [if_neg hb] at h ⊢
      rw [not_or, Decidable.not_not, Decidable.not_not] at hb
      by_cases hd : 20 < v.depth
      · rw [if_pos hd] at h; simp at h
      · rw [if_neg hd]
        simp only []
        have hcells : cs = v.cells := by
          have := g3
          rw [List.drop_zero, hb.1, List.drop_length, List.append_nil, hb.2] at this
          exact this
        refine ⟨g4, hcells, ?_, by omega, ?_⟩
        · have : cs.length = v.count := by
            conv => lhs; rw [hcells]
            exact V.cellsK_length v noS
          omega
        · unfold valA; rw [hv, hb.1]
/-! ### a value's cells are read as it -/

theorem getD_at {pre l : List Cell} {c : Cell} {cs : List Cell} (h : cs = pre ++ c :: l) : cs.getD pre.length default = c := by
  subst h
  simp

theorem kidsM_read {cs : List Cell} {c : Cell} {rec : Nat → Option (V × Nat)} (post : List Cell) : ∀ (l : List V) (ks : List ByteArray) (i : Nat) (keys : List ByteArray) (kids : List V) (pre : List Cell),
    (∀ v ∈ l, ∀ (key : ByteArray) (pre post : List Cell), cs = pre ++ v.cellsK key ++ post → rec pre.length = some (v, pre.length + v.count)) →
    cs = pre ++ V.kidsC l ks ++ post → (c.kind = 6 → ks.length = l.length) → (c.kind ≠ 6 → ks = []) → (c.kind = 6 → keys.length = i) → incr (keys ++ ks) →
    kidsM rec cs c l.length i keys kids pre.length = some (keys ++ ks, kids ++ l, pre.length + V.counts l)
  | [], ks, i, keys, kids, pre, _, _, h1, h2, _, _ => by
    have : ks = [] := by
      by_cases h : c.kind = 6
      · exact List.eq_nil_of_length_eq_zero (h1 h)
      · exact h2 h
    subst this
    simp [kidsM, V.counts]
  | v :: l, ks, i, keys, kids, pre, hr, hcs, h1, h2, h3, h4 => by
    simp only [V.kidsC] at hcs
    have hv := hr v (List.mem_cons_self ..) (ks.headD noS) pre (V.kidsC l ks.tail ++ post) (by rw [hcs]; simp [List.append_assoc])
    obtain ⟨c0, r0, e0, k0, _⟩ := V.cellsK_key v (ks.headD noS)
    have hcell : cs.getD pre.length default = c0 := getD_at (l := r0 ++ (V.kidsC l ks.tail ++ post)) (by rw [hcs, e0]; simp [List.append_assoc])
    have hlen : (pre ++ v.cellsK (ks.headD noS)).length = pre.length + v.count := by simp [V.cellsK_length]
    simp only [List.length_cons, kidsM, hv, hcell, k0]
    by_cases h6 : c.kind = 6
    · have hkl := h1 h6
      cases ks with
      | nil => simp at hkl
      | cons a ks =>
        have hinc : ¬ (0 < i ∧ Op.bytesLess (keys.getD (i - 1) default).data.toList a.data.toList = false) := fun ⟨hi, hb⟩ => by
          have key : ∀ (l1 : List ByteArray) (a : ByteArray) (l2 : List ByteArray), incr (l1 ++ a :: l2) → 0 < l1.length → lessK (l1.getD (l1.length - 1) default) a = true := by
            intro l1
            induction l1 with
            | nil => intro a l2 _ h; simp at h
            | cons x l1 ih =>
              intro a l2 h _
              cases l1 with
              | nil => simpa [incr] using h.1
              | cons y l1 =>
                have := ih a l2 h.2 (by simp)
                simpa using this
          have := key keys a ks h4 (by rw [h3 h6]; exact hi)
          rw [h3 h6] at this
          simp only [lessK] at this
          rw [this] at hb; cases hb
        rw [if_neg (by
          rintro (⟨h5, _⟩ | ⟨_, h⟩)
          · omega
          · exact hinc (by simpa using h))]
        rw [if_pos h6, ← hlen]
        have := kidsM_read post l ks (i + 1) (keys ++ [a]) (kids ++ [v]) (pre ++ v.cellsK a) (fun v hv => hr v (List.mem_cons_of_mem _ hv)) (by rw [hcs]; simp [List.append_assoc]) (fun _ => by simpa using hkl) (fun h => absurd h6 h) (fun _ => by simp [h3 h6]) (by simpa [List.append_assoc] using h4)
        simp only [List.headD_cons] at this ⊢
        rw [this]
        simp [V.counts, V.cellsK_length]
        omega
    · have hk0 := h2 h6
      subst hk0
      rw [if_neg (by
        rintro (⟨_, h⟩ | ⟨h, _⟩)
        · exact h rfl
        · exact h6 h)]
      rw [if_neg h6, ← hlen]
      have := kidsM_read post l [] (i + 1) keys (kids ++ [v]) (pre ++ v.cellsK noS) (fun v hv => hr v (List.mem_cons_of_mem _ hv)) (by rw [hcs]; simp [List.append_assoc]) (fun h => absurd h h6) (fun _ => rfl) (fun h => absurd h h6) h4
      simp only [List.headD_nil] at this ⊢
      rw [this]
      simp [V.counts, V.cellsK_length]
      omega

mutual
theorem V.read_at {cs : List Cell} : ∀ (v : V), v.good → ∀ (key : ByteArray) (pre post : List Cell), cs = pre ++ v.cellsK key ++ post → valA cs pre.length = some (v, pre.length + v.count)
  | .mk k n t ks kids, hg, key, pre, post, hcs => by
    obtain ⟨g1, g2, g3, g4, g5, g6, g7, g8, g9, g10, g11⟩ := hg
    have ih := V.reads_at (cs := cs) kids g11
    simp only [V.cellsK] at hcs
    rw [valA_eq, if_pos (by rw [hcs]; simp)]
    have hcell : cs.getD pre.length default = ⟨k, n, t, key, (kids.length : Int)⟩ := getD_at (l := V.kidsC kids ks ++ post) (by rw [hcs]; simp)
    rw [hcell]
    have hk := kidsM_read (c := ⟨k, n, t, key, (kids.length : Int)⟩) (rec := valA cs) (cs := cs) post kids ks 0 [] [] (pre ++ [⟨k, n, t, key, (kids.length : Int)⟩]) ih (by rw [hcs]; simp) g7 g8 (fun _ => rfl) (by simpa using g10)
    simp only [List.length_append, List.length_singleton] at hk
    simp only [Int.toNat_natCast, hk]
    simp [V.count]
    omega
theorem V.reads_at {cs : List Cell} : ∀ (l : List V), V.goods l → ∀ v ∈ l, ∀ (key : ByteArray) (pre post : List Cell), cs = pre ++ v.cellsK key ++ post → valA cs pre.length = some (v, pre.length + v.count)
  | [], _, v, hv, _, _, _, _ => by cases hv
  | x :: r, hg, v, hv, key, pre, post, hcs => by
    by_cases h : v ∈ r
    · exact V.reads_at r hg.2 v h key pre post hcs
    · have e : v = x := (List.mem_cons.1 hv).resolve_right h
      have hx := V.read_at (cs := cs) x hg.1 key pre post (by rw [← e]; exact hcs)
      rw [e]; exact hx
end

mutual
/-- At every cell of a right value stands a value. -/
theorem V.every_at {cs : List Cell} : ∀ (v : V), v.good → ∀ (key : ByteArray) (pre post : List Cell), cs = pre ++ v.cellsK key ++ post → ∀ j, j < v.count → ∃ p, valA cs (pre.length + j) = some p
  | .mk k n t ks kids, hg, key, pre, post, hcs, j, hj => by
    cases j with
    | zero => exact ⟨_, V.read_at _ hg key pre post hcs⟩
    | succ j =>
      have hg' := hg.2.2.2.2.2.2.2.2.2.2
      have := V.everys_at (cs := cs) kids hg' ks (pre ++ [⟨k, n, t, key, (kids.length : Int)⟩]) post (by rw [hcs]; simp [V.cellsK]) j (by simp only [V.count] at hj; omega)
      simp only [List.length_append, List.length_singleton] at this
      rw [show pre.length + (j + 1) = pre.length + 1 + j by omega]
      exact this
theorem V.everys_at {cs : List Cell} : ∀ (l : List V), V.goods l → ∀ (ks : List ByteArray) (pre post : List Cell), cs = pre ++ V.kidsC l ks ++ post → ∀ j, j < V.counts l → ∃ p, valA cs (pre.length + j) = some p
  | [], _, _, _, _, _, j, hj => by simp [V.counts] at hj
  | x :: r, hg, ks, pre, post, hcs, j, hj => by
    simp only [V.kidsC] at hcs
    by_cases h : j < x.count
    · exact V.every_at x hg.1 (ks.headD noS) pre (V.kidsC r ks.tail ++ post) (by rw [hcs]; simp [List.append_assoc]) j h
    · have := V.everys_at (cs := cs) r hg.2 ks.tail (pre ++ x.cellsK (ks.headD noS)) post (by rw [hcs]; simp [List.append_assoc]) (j - x.count) (by simp only [V.counts] at hj; omega)
      simp only [List.length_append, V.cellsK_length] at this
      rwa [show pre.length + x.count + (j - x.count) = pre.length + j by omega] at this
end

theorem valOfM_every {cs : List Cell} (h : (valOfM cs).2 = 0) (k : Nat) (hk : k < cs.length) : ∃ p, valA cs k = some p := by
  obtain ⟨h1, h2, _⟩ := valOfM_cells h
  have := V.every_at (cs := cs) _ h1 noS [] [] (by rw [List.nil_append, List.append_nil]; exact h2) k (by
    have := V.cellsK_length (valOfM cs).1 noS
    rw [← show cs = (valOfM cs).1.cellsK noS from h2] at this
    omega)
  simpa using this

end Go.Proofs.Ytlegadpbjccelaa
