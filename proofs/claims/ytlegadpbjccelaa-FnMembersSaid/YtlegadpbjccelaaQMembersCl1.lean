/-
  Texts of this claim in one. Conditions: none.
-/
import Derived.Test.YtlegadpbjccelaaQMembersP1
import Derived.Test.YtlegadpbjccelaaQMembersPgE
section
set_option linter.unusedVariables false
set_option linter.unusedSimpArgs false
namespace Go.Proofs.Ytlegadpbjccelaa
open Go.RowKit

theorem V.kidsC_split : ∀ (l : List V) (ks : List ByteArray) (j : Nat), j < l.length →
    V.kidsC l ks = V.kidsC (l.take j) ks ++ ((l.getD j default).cellsK (ks.getD j noS) ++ V.kidsC (l.drop (j + 1)) (ks.drop (j + 1)))
  | [], _, j, h => by simp at h
  | v :: r, ks, 0, _ => by cases ks <;> simp [V.kidsC]
  | v :: r, ks, j + 1, h => by
    have := V.kidsC_split r ks.tail j (by simpa using h)
    simp only [V.kidsC, List.take_succ_cons, List.getD_cons_succ, List.drop_succ_cons, this, List.append_assoc]
    cases ks <;> simp

theorem V.counts_cons (l : List V) (j : Nat) (h : j < l.length) : V.counts (l.take (j + 1)) = V.counts (l.take j) + (l.getD j default).count := by
  induction l generalizing j with
  | nil => simp at h
  | cons x r ih =>
    cases j with
    | zero => simp [V.counts]
    | succ j =>
      have := ih j (by simpa using h)
      simp only [List.take_succ_cons, V.counts, List.getD_cons_succ]
      omega

/-- Where part j of a value at k begins. -/
def V.at (v : V) (k j : Nat) : Nat := k + 1 + V.counts (v.kids.take j)

theorem V.at_zero (v : V) (k : Nat) : v.at k 0 = k + 1 := by simp [V.at, V.counts]
theorem V.at_succ (v : V) (k j : Nat) (h : j < v.kids.length) : v.at k (j + 1) = v.at k j + (v.kids.getD j default).count := by
  simp only [V.at, V.counts_cons _ _ h]; omega

/-- The cells from one place up to another. -/
def cut (cs : List Cell) (a b : Nat) : List Cell := (cs.drop a).take (b - a)

theorem valA_split {cs : List Cell} (hc : ∀ i, i < cs.length → cellCode (cs.getD i default) = 0) {k : Nat} {v : V} {b : Nat} (h : valA cs k = some (v, b)) :
    v.good ∧ b = k + v.count ∧ b ≤ cs.length ∧ cs = cs.take k ++ (v.cellsK (cs.getD k default).key ++ cs.drop b) := by
  obtain ⟨h1, h2, h3, h4⟩ := valAtM_cells hc _ _ _ _ h
  refine ⟨h4, ?_, h2, ?_⟩
  · have := congrArg List.length h3
    simp only [List.length_append, List.length_drop, V.cellsK_length] at this
    omega
  · rw [← h3, List.take_append_drop]

theorem valA_head {cs : List Cell} (hc : ∀ i, i < cs.length → cellCode (cs.getD i default) = 0) {k : Nat} {v : V} {b : Nat} (h : valA cs k = some (v, b)) :
    (cs.getD k default).kind = v.kind ∧ (cs.getD k default).num = v.num ∧ (cs.getD k default).text = v.text ∧ (cs.getD k default).n = (v.kids.length : Int) := by
  obtain ⟨h1, h2, h3, h4⟩ := valA_split hc h
  have hl := valA_le h
  have hk : (cs.take k).length = k := by rw [List.length_take]; omega
  obtain ⟨vk, vn, vt, vks, vkids⟩ := v
  generalize hkey : (cs.getD k default).key = key at h4
  have hcell : cs.getD (cs.take k).length default = ⟨vk, vn, vt, key, (vkids.length : Int)⟩ := getD_at (l := V.kidsC vkids vks ++ cs.drop b) h4
  rw [hk] at hcell
  rw [hcell]
  exact ⟨rfl, rfl, rfl, rfl⟩

/-- Part j of the value at k: it begins where it should, ends where the next begins, has its key. -/
theorem kid_at {cs : List Cell} (hc : ∀ i, i < cs.length → cellCode (cs.getD i default) = 0) {k : Nat} {v : V} {b : Nat} (h : valA cs k = some (v, b)) {j : Nat} (hj : j < v.kids.length) :
    valA cs (v.at k j) = some (v.kids.getD j default, v.at k (j + 1)) ∧ (cs.getD (v.at k j) default).key = v.keys.getD j noS ∧
      cut cs (v.at k j) (v.at k (j + 1)) = (v.kids.getD j default).cellsK (v.keys.getD j noS) ∧ v.at k (j + 1) ≤ b := by
  obtain ⟨h1, h2, h3, h4⟩ := valA_split hc h
  have hl := valA_le h
  have hk : (cs.take k).length = k := by rw [List.length_take]; omega
  have hs := V.at_succ v k j hj
  rw [hs]
  obtain ⟨vk, vn, vt, vks, vkids⟩ := v
  simp only [V.kids] at hj hs ⊢
  simp only [V.keys]
  have hg : (vkids.getD j default).good := V.goods_mem h1.2.2.2.2.2.2.2.2.2.2 _ (getD_mem' hj)
  have hsp := V.kidsC_split vkids vks j hj
  generalize hkey : (cs.getD k default).key = key at h4
  have hcs : cs = (cs.take k ++ ⟨vk, vn, vt, key, (vkids.length : Int)⟩ :: V.kidsC (vkids.take j) vks) ++ (vkids.getD j default).cellsK (vks.getD j noS) ++ (V.kidsC (vkids.drop (j + 1)) (vks.drop (j + 1)) ++ cs.drop b) := by
    conv => lhs; rw [h4]
    simp only [V.cellsK, hsp, List.append_assoc, List.cons_append]
  have hpl : (cs.take k ++ ⟨vk, vn, vt, key, (vkids.length : Int)⟩ :: V.kidsC (vkids.take j) vks).length = V.at (.mk vk vn vt vks vkids) k j := by
    simp only [List.length_append, List.length_cons, V.kidsC_length, V.at, V.kids]
    omega
  have hr := V.read_at _ hg _ _ _ hcs
  rw [hpl] at hr
  refine ⟨hr, ?_, ?_, ?_⟩
  · obtain ⟨c0, r0, e0, k0, _⟩ := V.cellsK_key (vkids.getD j default) (vks.getD j noS)
    rw [e0] at hcs
    rw [← hpl, getD_at (c := c0) (l := r0 ++ (V.kidsC (vkids.drop (j + 1)) (vks.drop (j + 1)) ++ cs.drop b)) (by rw [List.append_assoc, List.cons_append] at hcs; exact hcs)]
    exact k0
  · have hd : cs.drop (V.at (.mk vk vn vt vks vkids) k j) = (vkids.getD j default).cellsK (vks.getD j noS) ++ (V.kidsC (vkids.drop (j + 1)) (vks.drop (j + 1)) ++ cs.drop b) := by
      rw [← hpl]
      generalize cs.take k ++ ⟨vk, vn, vt, key, (vkids.length : Int)⟩ :: V.kidsC (vkids.take j) vks = pre at hcs
      generalize (vkids.getD j default).cellsK (vks.getD j noS) = mid at hcs ⊢
      generalize V.kidsC (vkids.drop (j + 1)) (vks.drop (j + 1)) ++ cs.drop b = post at hcs ⊢
      rw [hcs, List.append_assoc, List.drop_left]
    rw [cut, hd, Nat.add_sub_cancel_left, List.take_append_of_le_length (by rw [V.cellsK_length]; exact Nat.le_refl _), List.take_of_length_le (by rw [V.cellsK_length]; exact Nat.le_refl _)]
  · have := V.counts_cons vkids j hj
    have h6 : V.counts (vkids.take (j + 1)) ≤ V.counts vkids := by
      have : ∀ (l : List V) (j : Nat), V.counts (l.take j) ≤ V.counts l := by
        intro l
        induction l with
        | nil => intro j; simp
        | cons x r ih => intro j; cases j <;> simp [V.counts, List.take]; have := ih ‹_›; omega
      exact this vkids (j + 1)
    simp only [V.count] at h2
    simp only [V.at, V.kids]
    omega

/-- A right value's own cells. -/
theorem V.valA_cells (v : V) (hg : v.good) : valA v.cells 0 = some (v, v.count) := by
  have hr := V.read_at (cs := v.cells) v hg noS [] [] (by rw [List.nil_append, List.append_nil]; rfl)
  simpa using hr

end Go.Proofs.Ytlegadpbjccelaa
end

section
set_option linter.unusedVariables false
set_option linter.unusedSimpArgs false
set_option maxRecDepth 100000
namespace Go.Proofs.Ytlegadpbjccelaa
open Go.RowKit

def orI (p q : Int) : Int := if p = 0 then q else p
def cmpI (a b : Int) : Int := if a < b then -1 else if b < a then 1 else 0
def cmpS (a b : ByteArray) : Int := if lessK a b = true then -1 else if lessK b a = true then 1 else 0
def cmpKs : List ByteArray → List ByteArray → Int
  | [], [] => 0
  | [], _ :: _ => -1
  | _ :: _, [] => 1
  | a :: r, b :: s => orI (cmpS a b) (cmpKs r s)

mutual
def V.cmp : V → V → Int
  | .mk k n t ks kids, w => orI (cmpI k w.kind) (orI (cmpI n w.num) (orI (cmpS t w.text) (orI (cmpKs ks w.keys) (V.cmps kids w.kids))))
def V.cmps : List V → List V → Int
  | [], [] => 0
  | [], _ :: _ => -1
  | _ :: _, [] => 1
  | a :: r, b :: s => orI (V.cmp a b) (V.cmps r s)
end

theorem V.cmp_eq (v w : V) : V.cmp v w = orI (cmpI v.kind w.kind) (orI (cmpI v.num w.num) (orI (cmpS v.text w.text) (orI (cmpKs v.keys w.keys) (V.cmps v.kids w.kids)))) := by
  cases v; rfl

/-! ### bytes -/

/-! ### an order's laws, for three results -/

theorem orI_neg (p q : Int) : orI (-p) (-q) = - orI p q := by unfold orI; (repeat' split) <;> omega

theorem cmpI_neg (a b : Int) : cmpI b a = - cmpI a b := by unfold cmpI; (repeat' split) <;> omega
theorem cmpS_neg (a b : ByteArray) : cmpS b a = - cmpS a b := by
  unfold cmpS
  by_cases h1 : lessK a b = true <;> by_cases h2 : lessK b a = true
  · have := less_trans _ _ _ h1 h2
    rw [less_irrefl] at this; cases this
  · simp [h1, h2]
  · simp [h1, h2]
  · simp [h1, h2]

theorem cmpKs_neg : ∀ a b : List ByteArray, cmpKs b a = - cmpKs a b
  | [], [] => rfl
  | [], _ :: _ => rfl
  | _ :: _, [] => rfl
  | a :: r, b :: s => by rw [cmpKs, cmpKs, cmpKs_neg r s, cmpS_neg a b, orI_neg]

mutual
theorem V.cmp_neg : ∀ a b : V, V.cmp b a = - V.cmp a b
  | .mk k n t ks kids, .mk k' n' t' ks' kids' => by
    have h := V.cmps_neg kids kids'
    simp only [V.cmp, V.kind, V.num, V.text, V.keys, V.kids]
    rw [h, cmpI_neg k k', cmpI_neg n n', cmpS_neg t t', cmpKs_neg ks ks', orI_neg, orI_neg, orI_neg, orI_neg]
theorem V.cmps_neg : ∀ a b : List V, V.cmps b a = - V.cmps a b
  | [], [] => rfl
  | [], _ :: _ => by simp [V.cmps]
  | _ :: _, [] => by simp [V.cmps]
  | a :: r, b :: s => by rw [V.cmps, V.cmps, V.cmps_neg r s, V.cmp_neg a b, orI_neg]
end

theorem V.cmp_self (v : V) : V.cmp v v = 0 := by
  have := V.cmp_neg v v
  omega

/-- Two lists from a place on. -/
theorem V.cmps_at (a b : List V) (i : Nat) (ha : i < a.length) (hb : i < b.length) : V.cmps (a.drop i) (b.drop i) = orI (V.cmp (a.getD i default) (b.getD i default)) (V.cmps (a.drop (i + 1)) (b.drop (i + 1))) := by
  rw [drop_step ha, drop_step hb, V.cmps]
theorem V.cmps_end (a b : List V) (i : Nat) (h : a.length ≤ i ∨ b.length ≤ i) (ha : i ≤ a.length) (hb : i ≤ b.length) : V.cmps (a.drop i) (b.drop i) = cmpI a.length b.length := by
  unfold cmpI
  rcases Nat.lt_trichotomy a.length b.length with h1 | h1 | h1
  · obtain rfl : i = a.length := by omega
    rw [List.drop_length, drop_step h1, V.cmps, if_pos (by omega)]
  · obtain rfl : i = a.length := by omega
    rw [List.drop_length, h1, List.drop_length, V.cmps, if_neg (by omega), if_neg (by omega)]
  · obtain rfl : i = b.length := by omega
    rw [List.drop_length, drop_step h1, V.cmps, if_neg (by omega), if_pos (by omega)]
theorem cmpKs_at (a b : List ByteArray) (i : Nat) (ha : i < a.length) (hb : i < b.length) : cmpKs (a.drop i) (b.drop i) = orI (cmpS (a.getD i default) (b.getD i default)) (cmpKs (a.drop (i + 1)) (b.drop (i + 1))) := by
  rw [drop_step ha, drop_step hb, cmpKs]
theorem cmpKs_end (a b : List ByteArray) (i : Nat) (h : a.length ≤ i ∨ b.length ≤ i) (ha : i ≤ a.length) (hb : i ≤ b.length) : cmpKs (a.drop i) (b.drop i) = cmpI a.length b.length := by
  unfold cmpI
  rcases Nat.lt_trichotomy a.length b.length with h1 | h1 | h1
  · obtain rfl : i = a.length := by omega
    rw [List.drop_length, drop_step h1, cmpKs, if_pos (by omega)]
  · obtain rfl : i = a.length := by omega
    rw [List.drop_length, h1, List.drop_length, cmpKs, if_neg (by omega), if_neg (by omega)]
  · obtain rfl : i = b.length := by omega
    rw [List.drop_length, drop_step h1, cmpKs, if_neg (by omega), if_pos (by omega)]

end Go.Proofs.Ytlegadpbjccelaa
end

section
set_option linter.unusedVariables false
set_option linter.unusedSimpArgs false
namespace Go.Proofs.Ytlegadpbjccelaa
open Go.RowKit

section
variable {E : Env} {N : Nm} {Q : Exit → St → Prop} {ops l : List Oper} {ty : TypeId} {pos : String} {after : Array Edge} {gd : Option (Nat × Bool)} {d : Nat} {tm : Nat → T} {ob : List Ob} {G : List Nat}

theorem WG.cL {f : FuncId} {xs : List Operand} {tys : List TypeId} {args : List D} {t : T} (hw : St.want ⟨tm, ob⟩ ops ⟨some d, .call ⟨.value (.func f), xs.toArray, tys.toArray⟩, ty, pos, after, gd⟩ = some true) (hd : Nat.blt d N.n = true)
    (hc : Fun E.P f args t []) (ha : argsT E ⟨tm, ob⟩ true xs tys ++ [] = T.renL ⟨[], [], ob.length⟩ (args.map T.d)) (hlp : T.lpOKL ⟨[], [], ob.length⟩ (args.map T.d) = true) (hfl : t.flat = true) (hu : t.under 0 = true)
    (k : WG G E.P N ops l Q ⟨upd tm d t, ob⟩) : WG G E.P N ops (⟨some d, .call ⟨.value (.func f), xs.toArray, tys.toArray⟩, ty, pos, after, gd⟩ :: l) Q ⟨tm, ob⟩ :=
  WG.cq (E := E) [] [] true hw hd hc rfl rfl ha hlp rfl rfl rfl trivial (.inr rfl) rfl (fun _ => ⟨hfl, by intro o ho; cases ho⟩) (T.ren_under t hu) (by simp [mergeO, renFrom]) k
end
end Go.Proofs.Ytlegadpbjccelaa
end
