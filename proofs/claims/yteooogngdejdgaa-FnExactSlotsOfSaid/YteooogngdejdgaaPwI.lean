/-
  The small logic, ninth part: names of objects turned; a call by its contract; the contract with the callee's entry; forgetting in one step. Conditions: none.
-/
import Derived.Test.YteooogngdejdgaaPwH
set_option linter.unusedVariables false
set_option linter.unusedSimpArgs false
namespace Go.Proofs.Yteooogngdejdgaa
open Go.RowKit

/-! ### names turned -/

/-- Object i is 'idx[i]' there, its versions counted from 'off[i]' on; what is new follows from K on. -/
structure Rn where
  idx : List Nat
  off : List Nat
  K : Nat

def Rn.ix (r : Rn) (i : Nat) : Nat := match r.idx[i]? with | some j => j | none => i - r.idx.length + r.K
def Rn.of (r : Rn) (i : Nat) : Nat := match r.idx[i]? with | some _ => r.off.getD i 0 | none => 0

mutual
def T.ren (r : Rn) : T → T
  | .d x => .d x
  | .agg cs => .agg (T.renL r cs)
  | .tup cs => .tup (T.renL r cs)
  | .lp l off => bif Nat.beq (r.of l) 0 then .lp (r.ix l) off else .any
  | .og k n => .og (r.ix k) (r.of k + n)
  | .ea x off => .ea x off
  | .eg k n z i off => .eg (r.ix k) (r.of k + n) z i off
  | .clo f cs => .clo f (T.renL r cs)
  | .any => .any
def T.renL (r : Rn) : List T → List T
  | [] => []
  | t :: s => T.ren r t :: T.renL r s
end

mutual
def T.lpOK (r : Rn) : T → Bool
  | .agg cs => T.lpOKL r cs
  | .tup cs => T.lpOKL r cs
  | .lp l _ => Nat.beq (r.of l) 0
  | .clo _ cs => T.lpOKL r cs
  | _ => true
def T.lpOKL (r : Rn) : List T → Bool
  | [] => true
  | t :: s => T.lpOK r t && T.lpOKL r s
end

theorem T.renL_map (r : Rn) : ∀ cs, T.renL r cs = cs.map (T.ren r)
  | [] => by simp [T.renL]
  | t :: s => by simp [T.renL, T.renL_map r s]

theorem T.lpOKL_at {r : Rn} : ∀ {cs : List T}, T.lpOKL r cs = true → ∀ (i : Nat) (x : T), cs[i]? = some x → x.lpOK r = true
  | [], _, i, x, hx => by simp at hx
  | t :: s, h, i, x, hx => by
    simp only [T.lpOKL, Bool.and_eq_true] at h
    cases i with
    | zero => simp at hx; subst hx; exact h.1
    | succ i => exact T.lpOKL_at h.2 i x (by simpa using hx)

def Ob.ren (r : Rn) (i : Nat) : Ob → Ob
  | .pv cs => bif Nat.beq (r.of i) 0 then .pv (T.renL r cs) else .dead
  | .gr z e rows n pub => .gr z e rows (r.of i + n) pub
  | .x X n => .x X (r.of i + n)
  | .dead => .dead
  | .new => .dead

def Ob.renOK (r : Rn) (i : Nat) : Ob → Bool
  | .pv cs => Nat.beq (r.of i) 0 && T.lpOKL r cs
  | .gr _ _ _ _ _ => true
  | .x _ _ => true
  | .dead => false
  | .new => false

theorem RT.push {g g' : Gh} {r : Rn} (hσ : ∀ b o u, g.σ b o = some u → g'.σ b o = some u) (hγ : ∀ k n, n < g.lim k → r.of k + n < g'.lim (r.ix k) ∧ g'.γ (r.ix k) (r.of k + n) = g.γ k n) {t : T} {v : Value} (h : RT g t v) :
    RT g' (t.ren r) v := by
  induction h with
  | d x u h => simp only [T.ren]; exact .d x u (h.mono hσ)
  | agg cs vs hlen h ih =>
    simp only [T.ren, T.renL_map]
    refine .agg _ vs (by simpa using hlen) fun i x u hx hu => ?_
    simp only [List.getElem?_map, Option.map_eq_some_iff] at hx
    obtain ⟨y, hy, rfl⟩ := hx
    exact ih i y u hy hu
  | tup cs vs hlen h ih =>
    simp only [T.ren, T.renL_map]
    refine .tup _ vs (by simpa using hlen) fun i x u hx hu => ?_
    simp only [List.getElem?_map, Option.map_eq_some_iff] at hx
    obtain ⟨y, hy, rfl⟩ := hx
    exact ih i y u hy hu
  | lp l off b h0 h =>
    simp only [T.ren]
    by_cases e : r.of l = 0
    · obtain ⟨h1, h2⟩ := hγ l 0 h0
      rw [e] at h1 h2 ⊢
      exact .lp _ off b (by simpa using h1) (by simpa using h2.trans h)
    · rw [nbeq e]; exact .any _
  | og k n h =>
    simp only [T.ren]
    obtain ⟨h1, h2⟩ := hγ k n h
    have := RT.og (g := g') _ _ h1
    rwa [h2] at this
  | ea x off b o U hc hr => simp only [T.ren]; exact .ea x off b o U (fun j hj => ⟨hσ _ _ _ (hc j hj).1, (hc j hj).2⟩) fun j x hx => (hr j x hx).mono hσ
  | eg k n z i off b len cap h hg =>
    simp only [T.ren]
    obtain ⟨h1, h2⟩ := hγ k n h
    exact .eg _ _ z i off b len cap h1 (h2.trans hg)
  | clo f cs vs hlen h ih =>
    simp only [T.ren, T.renL_map]
    refine .clo f _ vs (by simpa using hlen) fun i x u hx hu => ?_
    simp only [List.getElem?_map, Option.map_eq_some_iff] at hx
    obtain ⟨y, hy, rfl⟩ := hx
    exact ih i y u hy hu
  | any u => simp only [T.ren]; exact .any u

def Gh.pull (g : Gh) (r : Rn) : Gh := { σ := g.σ, γ := fun k n => g.γ (r.ix k) (r.of k + n), lim := fun k => if k < r.idx.length then g.lim (r.ix k) - r.of k else 0, foot := fun k => g.foot (r.ix k) }

theorem Gh.pull_lim {g : Gh} {r : Rn} (hK : ∀ k, r.K ≤ k → g.lim k = 0) {k n : Nat} (h : r.of k + n < g.lim (r.ix k)) : n < (g.pull r).lim k := by
  simp only [Gh.pull]
  by_cases hk : k < r.idx.length
  · rw [if_pos hk]; omega
  · have : r.ix k = k - r.idx.length + r.K := by simp [Rn.ix, List.getElem?_eq_none (Nat.le_of_not_lt hk)]
    rw [this, hK _ (by omega)] at h
    omega

mutual
theorem RT.pull {g : Gh} {r : Rn} (hK : ∀ k, r.K ≤ k → g.lim k = 0) : ∀ (t : T) (v : Value), t.lpOK r = true → RT g (t.ren r) v → RT (g.pull r) t v
  | .d x, v, _, h => by
    rw [show T.ren r (.d x) = .d x by simp [T.ren]] at h
    exact .d x v h.inv_d
  | .agg cs, v, ho, h => by
    rw [show T.ren r (.agg cs) = .agg (T.renL r cs) by simp [T.ren]] at h
    obtain ⟨vs, rfl, hl, hr⟩ := h.inv_agg
    obtain ⟨h1, h2⟩ := RT.pullL hK cs vs (by simpa [T.lpOK] using ho) hl hr
    exact .agg cs vs h1 h2
  | .tup cs, v, ho, h => by
    rw [show T.ren r (.tup cs) = .tup (T.renL r cs) by simp [T.ren]] at h
    obtain ⟨vs, rfl, hl, hr⟩ := h.inv_tup
    obtain ⟨h1, h2⟩ := RT.pullL hK cs vs (by simpa [T.lpOK] using ho) hl hr
    exact .tup cs vs h1 h2
  | .clo f cs, v, ho, h => by
    rw [show T.ren r (.clo f cs) = .clo f (T.renL r cs) by simp [T.ren]] at h
    obtain ⟨vs, rfl, hl, hr⟩ := h.inv_clo
    obtain ⟨h1, h2⟩ := RT.pullL hK cs vs (by simpa [T.lpOK] using ho) hl hr
    exact .clo f cs vs h1 h2
  | .og k n, v, _, h => by
    rw [show T.ren r (.og k n) = .og (r.ix k) (r.of k + n) by simp [T.ren]] at h
    obtain ⟨h1, hv⟩ := h.inv_og
    rw [hv]
    exact RT.og (g := g.pull r) k n (Gh.pull_lim hK h1)
  | .lp l off, v, ho, h => by
    have e : r.of l = 0 := Nat.eq_of_beq_eq_true (by simpa [T.lpOK] using ho)
    rw [show T.ren r (.lp l off) = .lp (r.ix l) off by simp [T.ren, e]] at h
    obtain ⟨b, h0, hγ, rfl⟩ := h.inv_lp
    exact .lp l off b (Gh.pull_lim hK (by rw [e]; simpa using h0)) (by simp only [Gh.pull, e]; simpa using hγ)
  | .ea x off, v, _, h => by
    rw [show T.ren r (.ea x off) = .ea x off by simp [T.ren]] at h
    obtain ⟨b, o, U, rfl, h1, h2⟩ := h.inv_ea
    exact .ea x off b o U h1 h2
  | .eg k n z i off, v, _, h => by
    rw [show T.ren r (.eg k n z i off) = .eg (r.ix k) (r.of k + n) z i off by simp [T.ren]] at h
    obtain ⟨b, len, cap, h1, h2, rfl⟩ := h.inv_eg
    exact .eg k n z i off b len cap (Gh.pull_lim hK h1) h2
  | .any, v, _, _ => .any v
theorem RT.pullL {g : Gh} {r : Rn} (hK : ∀ k, r.K ≤ k → g.lim k = 0) : ∀ (cs : List T) (vs : List Value), T.lpOKL r cs = true → (T.renL r cs).length = vs.length →
    (∀ (i : Nat) (x : T) (u : Value), (T.renL r cs)[i]? = some x → vs[i]? = some u → RT g x u) →
    cs.length = vs.length ∧ ∀ (i : Nat) (x : T) (u : Value), cs[i]? = some x → vs[i]? = some u → RT (g.pull r) x u
  | [], vs, _, hl, _ => by
    rw [show T.renL r [] = [] by simp [T.renL]] at hl
    exact ⟨hl, fun i x u hx => by simp at hx⟩
  | t :: s, vs, ho, hl, hr => by
    rw [show T.renL r (t :: s) = T.ren r t :: T.renL r s by simp [T.renL]] at hl hr
    simp only [T.lpOKL, Bool.and_eq_true] at ho
    cases vs with
    | nil => simp at hl
    | cons v vs =>
      obtain ⟨h1, h2⟩ := RT.pullL hK s vs ho.2 (by simpa using hl) (fun i x u hx hu => hr (i + 1) x u (by simpa using hx) (by simpa using hu))
      refine ⟨by simp [h1], fun i x u hx hu => ?_⟩
      cases i with
      | zero => simp at hx hu; subst hx; subst hu; exact RT.pull hK t v ho.1 (hr 0 _ v rfl rfl)
      | succ i => exact h2 i x u (by simpa using hx) (by simpa using hu)
end

theorem ObOK.pull {mine : Nat → Prop} {g : Gh} {w : World} {r : Rn} (hK : ∀ k, r.K ≤ k → g.lim k = 0) {k : Nat} (hk : k < r.idx.length) {o : Ob} (ho : o.renOK r k = true) (h : ObOK mine g w (r.ix k) (o.ren r k)) :
    ObOK mine (g.pull r) w k o ∧ ∀ b, (g.pull r).at k o b ↔ g.at (r.ix k) (o.ren r k) b := by
  have hl : (g.pull r).lim k = g.lim (r.ix k) - r.of k := by simp [Gh.pull, hk]
  cases o with
  | pv cs =>
    simp only [Ob.renOK, Bool.and_eq_true] at ho
    have e : r.of k = 0 := Nat.eq_of_beq_eq_true ho.1
    simp only [Ob.ren, e] at h ⊢
    obtain ⟨h1, b, vs, e', h2, h3, h4, h5, h6, h7, h8⟩ := h
    obtain ⟨p1, p2⟩ := RT.pullL hK cs vs ho.2 h5 h6
    refine ⟨⟨by rw [hl, h1, e], b, vs, e', by simp only [Gh.pull, e]; simpa using h2, h3, h4, p1, p2, h7, h8⟩, fun b' => ?_⟩
    simp [Gh.at, Gh.pull, e]
  | gr z e rows n pub =>
    simp only [Ob.ren] at h ⊢
    obtain ⟨h1, h2⟩ := h
    exact ⟨⟨by rw [hl, h1]; omega, h2⟩, fun b' => Iff.rfl⟩
  | x X n =>
    simp only [Ob.ren] at h ⊢
    obtain ⟨h1, h2⟩ := h
    exact ⟨⟨by rw [hl, h1]; omega, h2⟩, fun b' => Iff.rfl⟩
  | dead => simp [Ob.renOK] at ho
  | new => simp [Ob.renOK] at ho

theorem ObOK.push {mine : Nat → Prop} {g g' : Gh} {w : World} {r : Rn} (hσ : ∀ b o, g'.σ b o = g.σ b o) (hγ : ∀ k n, n < g.lim k → r.of k + n < g'.lim (r.ix k) ∧ g'.γ (r.ix k) (r.of k + n) = g.γ k n) {k : Nat} (hf : g'.foot (r.ix k) = g.foot k)
    (hl : 0 < g.lim k → g'.lim (r.ix k) = r.of k + g.lim k) {o : Ob} (h : ObOK mine g w k o) :
    ObOK mine g' w (r.ix k) (o.ren r k) ∧ ∀ b, g'.at (r.ix k) (o.ren r k) b → g.at k o b := by
  have hσ' : ∀ b o u, g.σ b o = some u → g'.σ b o = some u := fun b o u h => (hσ b o).trans h
  cases o with
  | pv cs =>
    obtain ⟨h1, b, vs, e', h2, h3, h4, h5, h6, h7, h8⟩ := h
    simp only [Ob.ren]
    by_cases e : r.of k = 0
    · have hg := (hγ k 0 (by omega)).2
      rw [e] at hg ⊢
      simp only [Nat.add_zero] at hg
      refine ⟨⟨by rw [hl (by omega), e, h1], b, vs, e', hg.trans h2, h3, h4, by rw [T.renL_map]; simpa using h5, fun i x u hx hu => ?_, h7, fun o => (hσ b o).trans (h8 o)⟩, fun b' hb' => by simpa [Gh.at, hg] using hb'⟩
      rw [T.renL_map] at hx
      simp only [List.getElem?_map, Option.map_eq_some_iff] at hx
      obtain ⟨y, hy, rfl⟩ := hx
      exact (h6 i y u hy hu).push hσ' hγ
    · rw [nbeq e]
      exact ⟨trivial, fun b' hb' => hb'.elim⟩
  | gr z e rows n pub =>
    obtain ⟨h1, xs, h2, h3, h4, h5, h6⟩ := h
    have hg := (hγ k n (by omega)).2
    simp only [Ob.ren]
    refine ⟨⟨by rw [hl (by omega), h1]; omega, xs, by rw [hg]; exact h2, h3, fun i j r x hr hx => let ⟨u, hu, hd⟩ := h4 i j r x hr hx; ⟨u, hu, hd.mono hσ'⟩, h5, fun b hb => ?_⟩, fun b' hb' => by simpa [Gh.at, hg] using hb'⟩
    rw [hg] at hb
    have := h6 b hb
    cases pub with
    | true => simp only [if_true] at this ⊢; exact fun o => (hσ b o).trans (this o)
    | false => simp only [Bool.false_eq_true, if_false] at this ⊢; exact fun o => (hσ b o).trans (this o)
  | x X n =>
    obtain ⟨h1, h2, h3⟩ := h
    have hg := (hγ k n (by omega)).2
    simp only [Ob.ren]
    refine ⟨⟨by rw [hl (by omega), h1]; omega, ?_, fun b hb => ?_⟩, fun b' hb' => by simpa [Gh.at, hf] using hb'⟩
    · rw [hg, hf]
      exact X.mono hσ' (fun _ _ => rfl) h2
    · rw [hf] at hb
      obtain ⟨p1, p2, p3⟩ := h3 b hb
      exact ⟨p1, p2, fun o => (hσ b o).trans (p3 o)⟩
  | dead => exact ⟨trivial, fun b' hb' => hb'.elim⟩
  | new => exact ⟨trivial, fun b' hb' => hb'.elim⟩

theorem ObOK.mine {mine mine' : Nat → Prop} {g : Gh} {w : World} {k : Nat} {o : Ob} (h : ObOK mine g w k o) (hm : ∀ b, g.at k o b → mine b → mine' b) : ObOK mine' g w k o := by
  cases o with
  | pv cs =>
    obtain ⟨h1, b, vs, e', h2, h3, rest⟩ := h
    exact ⟨h1, b, vs, e', h2, hm b h2 h3, rest⟩
  | gr z e rows n pub =>
    obtain ⟨h1, xs, ⟨h2, h2m⟩, rest⟩ := h
    exact ⟨h1, xs, ⟨h2, fun b hb => hm b hb (h2m b hb)⟩, rest⟩
  | x X n =>
    obtain ⟨h1, h2, h3⟩ := h
    exact ⟨h1, h2, fun b hb => ⟨hm b hb (h3 b hb).1, (h3 b hb).2⟩⟩
  | dead => trivial
  | new => exact h

/-- The cells that are known become others. -/
theorem ObOK.sig {mine : Nat → Prop} {g : Gh} {w : World} {k : Nat} {o : Ob} (h : ObOK mine g w k o) (σ' : Sto) (hσ : ∀ b o u, g.σ b o = some u → σ' b o = some u) (ha : ∀ b, g.at k o b → ∀ x, σ' b x = g.σ b x) : ObOK mine { g with σ := σ' } w k o := by
  have hle : g.le { g with σ := σ' } := ⟨hσ, fun _ _ h => ⟨h, rfl⟩⟩
  exact h.mono hle rfl rfl (fun b hb => ⟨rfl, ha b hb⟩) (Nat.le_refl _)

/-! ### what does not hang on the cells that are known -/

mutual
def D.flat : D → Bool
  | .v _ => true
  | .nl _ => true
  | .sl _ [] => true
  | .sl _ (_ :: _) => false
  | .agg cs => D.flatL cs
def D.flatL : List D → Bool
  | [] => true
  | d :: r => D.flat d && D.flatL r
end

mutual
theorem RD.flat {σ σ' : Sto} : ∀ (d : D) (u : Value), d.flat = true → RD σ d u → RD σ' d u
  | .v x, u, _, h => by cases h; exact RD.v _
  | .nl z, u, _, h => by cases h; exact RD.nl _
  | .sl z [], u, _, h => by
    cases h with
    | nil z A => exact .nil z A
    | sl z rows b off cap U hcap hm hz hc hr => exact .sl z [] b off cap U hcap hm hz (fun i j hi => by simp at hi) (fun i j r x hr => by simp at hr)
  | .sl _ (_ :: _), u, hf, _ => by simp [D.flat] at hf
  | .agg cs, u, hf, h => by
    obtain ⟨vs, rfl, hl, hr⟩ := h.inv_agg
    exact .agg cs vs hl (RD.flatL cs vs (by simpa [D.flat] using hf) hr)
theorem RD.flatL {σ σ' : Sto} : ∀ (cs : List D) (vs : List Value), D.flatL cs = true → (∀ (i : Nat) (x : D) (u : Value), cs[i]? = some x → vs[i]? = some u → RD σ x u) → ∀ (i : Nat) (x : D) (u : Value), cs[i]? = some x → vs[i]? = some u → RD σ' x u
  | [], vs, _, _, i, x, u, hx, _ => by simp at hx
  | d :: r, [], _, _, i, x, u, _, hu => by simp at hu
  | d :: r, y :: vs, hf, hr, i, x, u, hx, hu => by
    simp only [D.flatL, Bool.and_eq_true] at hf
    cases i with
    | zero => simp at hx hu; subst hx; subst hu; exact RD.flat d y hf.1 (hr 0 d y rfl rfl)
    | succ i => exact RD.flatL r vs hf.2 (fun i x u hx hu => hr (i + 1) x u (by simpa using hx) (by simpa using hu)) i x u (by simpa using hx) (by simpa using hu)
end

mutual
def T.flat : T → Bool
  | .d x => x.flat
  | .agg cs => T.flatL cs
  | .tup cs => T.flatL cs
  | .clo _ cs => T.flatL cs
  | .ea _ _ => false
  | _ => true
def T.flatL : List T → Bool
  | [] => true
  | t :: r => T.flat t && T.flatL r
end

theorem T.flatL_at : ∀ {cs : List T}, T.flatL cs = true → ∀ (i : Nat) (x : T), cs[i]? = some x → x.flat = true
  | [], _, i, x, hx => by simp at hx
  | t :: r, h, i, x, hx => by
    simp only [T.flatL, Bool.and_eq_true] at h
    cases i with
    | zero => simp at hx; subst hx; exact h.1
    | succ i => exact T.flatL_at h.2 i x (by simpa using hx)

theorem RT.flat {g : Gh} {t : T} {u : Value} (h : RT g t u) (hf : t.flat = true) (σ' : Sto) : RT { g with σ := σ' } t u := by
  induction h with
  | d x u h => exact .d x u (RD.flat x u (by simpa [T.flat] using hf) h)
  | agg cs vs hl h ih => exact .agg cs vs hl fun i x u hx hu => ih i x u hx hu (T.flatL_at (by simpa [T.flat] using hf) i x hx)
  | tup cs vs hl h ih => exact .tup cs vs hl fun i x u hx hu => ih i x u hx hu (T.flatL_at (by simpa [T.flat] using hf) i x hx)
  | lp l off b h0 h => exact .lp l off b h0 h
  | og k n h => exact .og (g := { g with σ := σ' }) k n h
  | ea r off b o U hc hr => simp [T.flat] at hf
  | eg k n z i off b len cap h hg => exact .eg k n z i off b len cap h hg
  | clo f cs vs hl h ih => exact .clo f cs vs hl fun i x u hx hu => ih i x u hx hu (T.flatL_at (by simpa [T.flat] using hf) i x hx)
  | any u => exact .any u

def Ob.flat : Ob → Prop
  | .pv cs => T.flatL cs = true
  | .gr _ _ rows _ _ => ∀ r ∈ rows, D.flatL r = true
  | .x X _ => ∀ (σ σ' : Sto) h F v, X.ok σ h F v → X.ok σ' h F v
  | .dead => True
  | .new => True

theorem ObOK.flat {mine : Nat → Prop} {g : Gh} {w : World} {k : Nat} {o : Ob} (h : ObOK mine g w k o) (hf : o.flat) (σ' : Sto) (ha : ∀ b, g.at k o b → ∀ x, σ' b x = g.σ b x) : ObOK mine { g with σ := σ' } w k o := by
  cases o with
  | pv cs =>
    obtain ⟨h1, b, vs, e', h2, h3, h4, h5, h6, h7, h8⟩ := h
    exact ⟨h1, b, vs, e', h2, h3, h4, h5, fun i x u hx hu => (h6 i x u hx hu).flat (T.flatL_at hf i x hx) σ', h7, fun o => (ha b h2 o).trans (h8 o)⟩
  | gr z e rows n pub =>
    obtain ⟨h1, xs, h2, h3, h4, h5, h6⟩ := h
    refine ⟨h1, xs, h2, h3, fun i j r x hr hx => ?_, h5, fun b hb => ?_⟩
    · obtain ⟨u, hu, hd⟩ := h4 i j r x hr hx
      refine ⟨u, hu, RD.flat x u ?_ hd⟩
      have := hf r (List.mem_of_getElem? hr)
      have key : ∀ (l : List D), D.flatL l = true → ∀ (j : Nat) (x : D), l[j]? = some x → x.flat = true := by
        intro l
        induction l with
        | nil => intro _ j x hx; simp at hx
        | cons d l ih =>
          intro h j x hx
          simp only [D.flatL, Bool.and_eq_true] at h
          cases j with
          | zero => simp at hx; subst hx; exact h.1
          | succ j => exact ih h.2 j x (by simpa using hx)
      exact key r this j x hx
    · have := h6 b hb
      cases pub with
      | true => simp only [if_true] at this ⊢; exact fun o => (ha b hb o).trans (this o)
      | false => simp only [Bool.false_eq_true, if_false] at this ⊢; exact fun o => (ha b hb o).trans (this o)
  | x X n =>
    obtain ⟨h1, h2, h3⟩ := h
    exact ⟨h1, hf _ _ _ _ _ h2, fun b hb => ⟨(h3 b hb).1, (h3 b hb).2.1, fun o => (ha b hb o).trans ((h3 b hb).2.2 o)⟩⟩
  | dead => trivial
  | new => exact h

/-! ### before a call and behind it -/

def renFrom (r : Rn) : Nat → List Ob → List Ob
  | _, [] => []
  | i, o :: l => o.ren r i :: renFrom r (i + 1) l

def mergeO (r : Rn) : Nat → List Ob → List Nat → List Ob → List Ob
  | i, obC, [], rest => obC ++ renFrom r i rest
  | i, obC, j :: js, [] => mergeO r (i + 1) (obC.set j .dead) js []
  | i, obC, j :: js, o :: rest => mergeO r (i + 1) (obC.set j (o.ren r i)) js rest

theorem renFrom_at (r : Rn) : ∀ (l : List Ob) (i k : Nat), (renFrom r i l)[k]? = (l[k]?).map (Ob.ren r (i + k))
  | [], i, k => by simp [renFrom]
  | o :: l, i, 0 => by simp [renFrom]
  | o :: l, i, k + 1 => by
    simp only [renFrom, List.getElem?_cons_succ]
    rw [renFrom_at r l (i + 1) k, show i + 1 + k = i + (k + 1) by omega]

theorem mergeO_at (r : Rn) : ∀ (js : List Nat) (i : Nat) (obC rest : List Ob), js.length ≤ rest.length → js.Nodup → (∀ j ∈ js, j < obC.length) →
    (∀ (p j : Nat), js[p]? = some j → (mergeO r i obC js rest)[j]? = (rest[p]?).map (Ob.ren r (i + p))) ∧
    (∀ k, k < obC.length → k ∉ js → (mergeO r i obC js rest)[k]? = obC[k]?) ∧
    (∀ k, obC.length ≤ k → (mergeO r i obC js rest)[k]? = (rest[k - obC.length + js.length]?).map (Ob.ren r (i + (k - obC.length + js.length))))
  | [], i, obC, rest, _, _, _ => by
    refine ⟨fun p j h => by simp at h, fun k hk _ => by simp only [mergeO]; rw [List.getElem?_append_left hk], fun k hk => ?_⟩
    simp only [mergeO]
    rw [List.getElem?_append_right hk, renFrom_at]
    simp
  | j :: js, i, obC, [], h, _, _ => by simp at h
  | j :: js, i, obC, o :: rest, h, hnd, hlt => by
    simp only [mergeO]
    have hnd' := List.nodup_cons.1 hnd
    obtain ⟨h1, h2, h3⟩ := mergeO_at r js (i + 1) (obC.set j (o.ren r i)) rest (by simpa using h) hnd'.2 (fun k hk => by simpa using hlt k (List.mem_cons_of_mem _ hk))
    simp only [List.length_set] at h2 h3
    have hj := hlt j (List.mem_cons_self ..)
    refine ⟨fun p k hp => ?_, fun k hk hn => ?_, fun k hk => ?_⟩
    · cases p with
      | zero =>
        simp at hp
        subst hp
        rw [h2 _ hj hnd'.1, List.getElem?_set_self hj]
        simp
      | succ p =>
        have := h1 p k (by simpa using hp)
        rw [this, show i + 1 + p = i + (p + 1) by omega]
        simp
    · rw [List.mem_cons, not_or] at hn
      rw [h2 k hk hn.2, List.getElem?_set_ne (fun e => hn.1 e.symm)]
    · rw [h3 k hk]
      simp only [List.length_cons]
      rw [show k - obC.length + (js.length + 1) = k - obC.length + js.length + 1 by omega, List.getElem?_cons_succ, show i + 1 + (k - obC.length + js.length) = i + (k - obC.length + js.length + 1) by omega]

def Ob.start (r : Rn) (i : Nat) (o : Ob) : Bool := o.renOK r i && (match o with | .gr _ _ _ n pub => Nat.beq n 0 && !pub | .x _ n => Nat.beq n 0 | _ => true)

def startL (r : Rn) : Nat → List Ob → Bool
  | _, [] => true
  | i, o :: l => o.start r i && startL r (i + 1) l

def matchO (r : Rn) (ob : List Ob) : Nat → List Ob → Prop
  | _, [] => True
  | i, o :: l => ob[r.ix i]? = some (o.ren r i) ∧ matchO r ob (i + 1) l

theorem startL_at {r : Rn} : ∀ {l : List Ob} {i : Nat}, startL r i l = true → ∀ (k : Nat) (o : Ob), l[k]? = some o → o.start r (i + k) = true
  | [], i, _, k, o, h => by simp at h
  | p :: l, i, h, k, o, hk => by
    simp only [startL, Bool.and_eq_true] at h
    cases k with
    | zero => simp at hk; subst hk; exact h.1
    | succ k =>
      have := startL_at h.2 k o (by simpa using hk)
      rwa [show i + 1 + k = i + (k + 1) by omega] at this

theorem matchO_at {r : Rn} {ob : List Ob} : ∀ {l : List Ob} {i : Nat}, matchO r ob i l → ∀ (k : Nat) (o : Ob), l[k]? = some o → ob[r.ix (i + k)]? = some (o.ren r (i + k))
  | [], i, _, k, o, h => by simp at h
  | p :: l, i, h, k, o, hk => by
    cases k with
    | zero => simp at hk; subst hk; exact h.1
    | succ k =>
      have := matchO_at h.2 k o (by simpa using hk)
      rwa [show i + 1 + k = i + (k + 1) by omega] at this

def nodupB : List Nat → Bool
  | [] => true
  | x :: l => !(l.any (Nat.beq x)) && nodupB l

theorem nodupB_ok : ∀ {l : List Nat}, nodupB l = true → l.Nodup
  | [], _ => List.nodup_nil
  | x :: l, h => by
    simp only [nodupB, Bool.and_eq_true, Bool.not_eq_true', List.any_eq_false] at h
    exact List.nodup_cons.2 ⟨fun hm => h.1 x hm (by simp), nodupB_ok h.2⟩

theorem Rn.ix_lt {r : Rn} {i k : Nat} (h : r.idx[i]? = some k) : r.ix i = k := by simp [Rn.ix, h]

/-- What was lent has a place behind the call (where it may be dead). -/
def aliveN (n : Nat) (l : List Ob) : Bool := Nat.ble n l.length

section
variable {w0 : World} {σ0 : Bs} {ob : List Ob} {w : World} {g : Gh}

/-- Where a callee begins. -/
def baseA (obA : List Ob) (g1 : Gh) : Bs := baseOf obA g1

theorem Inv.start (I : Inv w0 σ0 ob w g) {r : Rn} (hK : r.K = ob.length) (hnd : r.idx.Nodup) {obA : List Ob} (hA : obA.length = r.idx.length) (hs : startL r 0 obA = true) (hmt : matchO r ob 0 obA)
    (σ' : Sto) (hσ : ∀ b o u, g.σ b o = some u → σ' b o = some u) (hcon : ∀ b o u, σ' b o = some u → w.cell? ⟨b, o, none⟩ = some u) (hown : ∀ i o b, obA[i]? = some o → (g.pull r).at i o b → ∀ x, σ' b x = none) :
    Inv w (baseOf obA { g.pull r with σ := σ' }) obA w { g.pull r with σ := σ' } := by
  have hK' : ∀ k, r.K ≤ k → g.lim k = 0 := fun k hk => I.lim k (by omega)
  have hobs : ∀ (k : Nat) (o : Ob), obA[k]? = some o → ObOK (mineB w0 σ0) (g.pull r) w k o ∧ (∀ b, (g.pull r).at k o b ↔ g.at (r.ix k) (o.ren r k) b) ∧ ob[r.ix k]? = some (o.ren r k) := fun k o hk => by
    have h1 := startL_at hs k o hk
    have h2 := matchO_at hmt k o hk
    rw [Nat.zero_add] at h1 h2
    simp only [Ob.start, Bool.and_eq_true] at h1
    have hlt : k < r.idx.length := by rw [← hA]; exact (List.getElem?_eq_some_iff.1 hk).1
    obtain ⟨p1, p2⟩ := (I.obs _ _ h2).pull hK' hlt h1.1
    exact ⟨p1, p2, h2⟩
  have hat : ∀ (k : Nat) (o : Ob) (b : Nat), Gh.at { g.pull r with σ := σ' } k o b ↔ (g.pull r).at k o b := fun k o b => by cases o <;> exact Iff.rfl
  have hnp : ∀ (k : Nat) (o : Ob), obA[k]? = some o → ∀ z e rows n, o ≠ .gr z e rows n true := fun k o hk z e rows n he => by
    have h1 := startL_at hs k o hk
    subst he
    simp [Ob.start] at h1
  refine ⟨.refl _ _, fun _ _ _ _ => rfl, hcon, fun k o hk => ?_, fun k hk => ?_, fun k k' o o' b hne ho ho' hb hb' => ?_, fun k _ => .inr rfl⟩
  · obtain ⟨p1, _, _⟩ := hobs k o hk
    refine (p1.sig σ' hσ fun b hb x => ?_).mine fun b hb _ => .inr ⟨k, o, hk, hb⟩
    rw [hown k o b hk hb x, p1.hid (hnp k o hk) hb x]
  · simp only [Gh.pull]
    rw [if_neg (by omega)]
  · rw [hat] at hb hb'
    obtain ⟨_, q1, q2⟩ := hobs k o ho
    obtain ⟨_, q1', q2'⟩ := hobs k' o' ho'
    have hlt : k < r.idx.length := by rw [← hA]; exact (List.getElem?_eq_some_iff.1 ho).1
    have hlt' : k' < r.idx.length := by rw [← hA]; exact (List.getElem?_eq_some_iff.1 ho').1
    have e1 := Rn.ix_lt (r := r) (List.getElem?_eq_getElem hlt)
    have e2 := Rn.ix_lt (r := r) (List.getElem?_eq_getElem hlt')
    refine I.dis _ _ _ _ b (fun e => hne ?_) q2 q2' ((q1 b).1 hb) ((q1' b).1 hb')
    rw [e1, e2] at e
    exact (List.getElem_inj hnd).1 e

open Classical in
theorem Inv.behind (I : Inv w0 σ0 ob w g) {r : Rn} (hK : r.K = ob.length) (hm : σ0.m ≤ ob.length) (hnd : r.idx.Nodup) {obA : List Ob} (hA : obA.length = r.idx.length) (hs : startL r 0 obA = true) (hmt : matchO r ob 0 obA)
    (σ' : Sto) {obB : List Ob} {w' : World} {g1 : Gh} (J : Inv w (baseOf obA { g.pull r with σ := σ' }) obB w' g1) (hfl : (∀ b o, σ' b o = g.σ b o) ∨ ∀ o ∈ obB, o.flat) (hal : aliveN r.idx.length obB = true) :
    ∃ g', g.le g' ∧ Inv w0 σ0 (mergeO r 0 ob r.idx obB) w' g' ∧ ∀ t v, RT g1 t v → ((∀ b o, σ' b o = g.σ b o) ∨ t.flat = true) → RT g' (t.ren r) v := by
  have hK' : ∀ k, r.K ≤ k → g.lim k = 0 := fun k hk => I.lim k (by omega)
  have hobs : ∀ (k : Nat) (o : Ob), obA[k]? = some o → ObOK (mineB w0 σ0) (g.pull r) w k o ∧ (∀ b, (g.pull r).at k o b ↔ g.at (r.ix k) (o.ren r k) b) ∧ ob[r.ix k]? = some (o.ren r k) ∧ g.lim (r.ix k) = r.of k + 1 := fun k o hk => by
    have h1 := startL_at hs k o hk
    have h2 := matchO_at hmt k o hk
    rw [Nat.zero_add] at h1 h2
    simp only [Ob.start, Bool.and_eq_true] at h1
    have hlt : k < r.idx.length := by rw [← hA]; exact (List.getElem?_eq_some_iff.1 hk).1
    have hok := I.obs _ _ h2
    obtain ⟨p1, p2⟩ := hok.pull hK' hlt h1.1
    refine ⟨p1, p2, h2, ?_⟩
    cases o with
    | pv cs =>
      have e : r.of k = 0 := by
        have := h1.1
        simp only [Ob.renOK, Bool.and_eq_true] at this
        exact Nat.eq_of_beq_eq_true this.1
      simp only [Ob.ren, e, show Nat.beq 0 0 = true from rfl, cond_true] at hok
      rw [hok.1, e]
    | gr z e rows n pub =>
      have : n = 0 := by
        have := h1.2
        simp only [Bool.and_eq_true] at this
        exact Nat.eq_of_beq_eq_true this.1
      subst this
      exact hok.1
    | x X n =>
      have : n = 0 := Nat.eq_of_beq_eq_true h1.2
      subst this
      exact hok.1
    | dead => simp [Ob.renOK] at h1
    | new => simp [Ob.renOK] at h1
  have hnp : ∀ (k : Nat) (o : Ob), obA[k]? = some o → ∀ z e rows n, o.ren r k ≠ .gr z e rows n true := fun k o hk z e rows n he => by
    have h1 := startL_at hs k o hk
    cases o with
    | pv cs => simp only [Ob.ren] at he; cases h : Nat.beq (r.of k) 0 <;> rw [h] at he <;> simp at he
    | gr z' e' rows' n' pub =>
      simp only [Ob.ren, Ob.gr.injEq] at he
      obtain ⟨_, _, _, _, rfl⟩ := he
      simp [Ob.start] at h1
    | x X n => simp [Ob.ren] at he
    | dead => simp [Ob.ren] at he
    | new => simp [Ob.ren] at he
  let own : Nat → Prop := (baseOf obA { g.pull r with σ := σ' }).own
  have hown : ∀ b, own b → ∃ k o, obA[k]? = some o ∧ ob[r.ix k]? = some (o.ren r k) ∧ g.at (r.ix k) (o.ren r k) b := fun b ⟨k, o, hk, hb⟩ => by
    obtain ⟨_, q1, q2, _⟩ := hobs k o hk
    exact ⟨k, o, hk, q2, (q1 b).1 (by cases o <;> exact hb)⟩
  have hownσ : ∀ b, own b → ∀ x, g.σ b x = none := fun b hb x => by
    obtain ⟨k, o, hk, q2, hb⟩ := hown b hb
    exact (I.obs _ _ q2).hid (hnp k o hk) hb x
  have hownM : ∀ b, own b → mineB w0 σ0 b := fun b hb => by
    obtain ⟨k, o, hk, q2, hb⟩ := hown b hb
    exact ((I.obs _ _ q2).at_lt hb).1
  -- the callee's cells without what it was shown
  let τ : Sto := fun b o => if b < w.heap.size ∧ ¬ own b then g.σ b o else g1.σ b o
  have hτ : (∀ b o, σ' b o = g.σ b o) → ∀ b o, τ b o = g1.σ b o := fun h b o => by
    simp only [τ]
    by_cases hb : b < w.heap.size ∧ ¬ own b
    · rw [if_pos hb, J.old b o hb.1 hb.2]; exact (h b o).symm
    · rw [if_neg hb]
  have hτat : ∀ (k : Nat) (o : Ob), obB[k]? = some o → ∀ b, g1.at k o b → ∀ x, τ b x = g1.σ b x := fun k o hk b hb x => by
    simp only [τ]
    rcases ((J.obs k o hk).at_lt hb).1 with h | h
    · rw [if_neg (by omega)]
    · rw [if_neg (fun h' => h'.2 h)]
  let g2 : Gh := { g1 with σ := τ }
  have hobB : ∀ (k : Nat) (o : Ob), obB[k]? = some o → ObOK (mineB w0 σ0) g2 w' k o := fun k o hk => by
    have hmine : ∀ b, g2.at k o b → mineB w (baseOf obA { g.pull r with σ := σ' }) b → mineB w0 σ0 b := fun b _ h => by
      rcases h with h | h
      · exact .inl (by have := I.below.size; omega)
      · exact hownM b h
    refine ObOK.mine ?_ hmine
    rcases hfl with h | h
    · have e : g2 = g1 := by
        have : τ = g1.σ := funext fun b => funext fun o => hτ h b o
        simp only [g2, this]
      rw [e]
      exact J.obs k o hk
    · exact (J.obs k o hk).flat (h o (List.mem_of_getElem? hk)) τ (hτat k o hk)
  have hRT : ∀ t v, RT g1 t v → ((∀ b o, σ' b o = g.σ b o) ∨ t.flat = true) → RT g2 t v := fun t v h hf => by
    rcases hf with hf | hf
    · have e : g2 = g1 := by
        have : τ = g1.σ := funext fun b => funext fun o => hτ hf b o
        simp only [g2, this]
      rw [e]; exact h
    · exact h.flat hf τ
  have hlenB : r.idx.length ≤ obB.length := Nat.le_of_ble_eq_true hal
  have hidx : ∀ (i k : Nat), r.idx[i]? = some k → k < ob.length := fun i k hi => by
    have hlt : i < obA.length := by rw [hA]; exact (List.getElem?_eq_some_iff.1 hi).1
    obtain ⟨_, _, q2, _⟩ := hobs i _ (List.getElem?_eq_getElem hlt)
    rw [Rn.ix_lt hi] at q2
    exact (List.getElem?_eq_some_iff.1 q2).1
  have hlimA : ∀ (i k : Nat), r.idx[i]? = some k → g.lim k = r.of i + 1 := fun i k hi => by
    have hlt : i < obA.length := by rw [hA]; exact (List.getElem?_eq_some_iff.1 hi).1
    obtain ⟨_, _, _, q3⟩ := hobs i _ (List.getElem?_eq_getElem hlt)
    rwa [Rn.ix_lt hi] at q3
  have hextA : ∀ (i k : Nat), r.idx[i]? = some k → 0 < g1.lim i → g1.γ i 0 = g.γ k (r.of i) := fun i k hi hl0 => by
    have hlt : i < r.idx.length := (List.getElem?_eq_some_iff.1 hi).1
    rcases J.ext i (by show i < obA.length; omega) with h | h
    · omega
    · rw [h]
      show g.γ (r.ix i) (r.of i + 0) = _
      rw [Rn.ix_lt hi, Nat.add_zero]
  have huniq : ∀ (i j k : Nat), r.idx[i]? = some k → r.idx[j]? = some k → i = j := fun i j k hi hj => by
    obtain ⟨h1, e1⟩ := List.getElem?_eq_some_iff.1 hi
    obtain ⟨h2, e2⟩ := List.getElem?_eq_some_iff.1 hj
    exact (List.getElem_inj hnd).1 (e1.trans e2.symm)
  -- the ghost behind the call
  let g' : Gh :=
    { σ := τ
      γ := fun k n => if h : ∃ i : Nat, r.idx[i]? = some k then (if n < r.of h.choose + 1 then g.γ k n else g1.γ h.choose (n - r.of h.choose)) else if k < ob.length then g.γ k n else g1.γ (k - ob.length + r.idx.length) n
      lim := fun k => if h : ∃ i : Nat, r.idx[i]? = some k then max (r.of h.choose + 1) (r.of h.choose + g1.lim h.choose) else if k < ob.length then g.lim k else g1.lim (k - ob.length + r.idx.length)
      foot := fun k => if h : ∃ i : Nat, r.idx[i]? = some k then g1.foot h.choose else if k < ob.length then g.foot k else g1.foot (k - ob.length + r.idx.length) }
  have hIn : ∀ (i k : Nat), r.idx[i]? = some k → g'.lim k = max (r.of i + 1) (r.of i + g1.lim i) ∧ g'.foot k = g1.foot i ∧ ∀ n, g'.γ k n = if n < r.of i + 1 then g.γ k n else g1.γ i (n - r.of i) := fun i k hi => by
    have hex : ∃ i : Nat, r.idx[i]? = some k := ⟨i, hi⟩
    have e : hex.choose = i := huniq _ _ k hex.choose_spec hi
    simp only [g', dif_pos hex, e]
    exact ⟨trivial, trivial, fun _ => trivial⟩
  have hOut : ∀ k, k < ob.length → k ∉ r.idx → g'.lim k = g.lim k ∧ g'.foot k = g.foot k ∧ ∀ n, g'.γ k n = g.γ k n := fun k hk hn => by
    have hex : ¬ ∃ i : Nat, r.idx[i]? = some k := fun ⟨i, hi⟩ => hn (List.mem_of_getElem? hi)
    simp only [g', dif_neg hex, if_pos hk]
    exact ⟨trivial, trivial, fun _ => trivial⟩
  have hNew : ∀ k, ob.length ≤ k → g'.lim k = g1.lim (k - ob.length + r.idx.length) ∧ g'.foot k = g1.foot (k - ob.length + r.idx.length) ∧ ∀ n, g'.γ k n = g1.γ (k - ob.length + r.idx.length) n := fun k hk => by
    have hex : ¬ ∃ i : Nat, r.idx[i]? = some k := fun ⟨i, hi⟩ => by have := hidx i k hi; omega
    simp only [g', dif_neg hex, if_neg (Nat.not_lt.2 hk)]
    exact ⟨trivial, trivial, fun _ => trivial⟩
  have hix : ∀ i, (∃ k, r.idx[i]? = some k ∧ r.ix i = k) ∨ (r.idx.length ≤ i ∧ r.ix i = i - r.idx.length + ob.length) := fun i => by
    cases h : r.idx[i]? with
    | some k => exact .inl ⟨k, rfl, Rn.ix_lt h⟩
    | none => exact .inr ⟨by simpa using h, by simp [Rn.ix, h, hK]⟩
  have hof : ∀ i, r.idx.length ≤ i → r.of i = 0 := fun i hi => by simp [Rn.of, List.getElem?_eq_none hi]
  have hγ : ∀ k n, n < g2.lim k → r.of k + n < g'.lim (r.ix k) ∧ g'.γ (r.ix k) (r.of k + n) = g2.γ k n := fun k n hn => by
    rcases hix k with ⟨j, hj, e⟩ | h
    · obtain ⟨p1, _, p3⟩ := hIn k j hj
      have hn1 : n < g1.lim k := hn
      rw [e, p1, p3]
      refine ⟨by omega, ?_⟩
      by_cases h0 : n = 0
      · subst h0
        rw [Nat.add_zero, if_pos (by omega)]
        exact (hextA k j hj (by omega)).symm
      · rw [if_neg (by omega), Nat.add_sub_cancel_left]
    · obtain ⟨p1, _, p3⟩ := hNew (r.ix k) (by omega)
      have e2 : r.ix k - ob.length + r.idx.length = k := by omega
      rw [p1, p3, e2, hof k h.1, Nat.zero_add]
      exact ⟨hn, rfl⟩
  have hft : ∀ k, g'.foot (r.ix k) = g2.foot k ∧ (0 < g2.lim k → g'.lim (r.ix k) = r.of k + g2.lim k) := fun k => by
    rcases hix k with ⟨j, hj, e⟩ | h
    · obtain ⟨p1, p2, _⟩ := hIn k j hj
      rw [e]
      exact ⟨p2, fun h0 => by have : 0 < g1.lim k := h0; show g'.lim j = r.of k + g1.lim k; rw [p1]; omega⟩
    · obtain ⟨p1, p2, _⟩ := hNew (r.ix k) (by omega)
      have e2 : r.ix k - ob.length + r.idx.length = k := by omega
      rw [e2] at p1 p2
      rw [hof k h.1, Nat.zero_add]
      exact ⟨p2, fun _ => p1⟩
  have hpush : ∀ (k : Nat) (o : Ob), obB[k]? = some o → ObOK (mineB w0 σ0) g' w' (r.ix k) (o.ren r k) ∧ ∀ b, g'.at (r.ix k) (o.ren r k) b → g1.at k o b := fun k o hk => by
    obtain ⟨q1, q2⟩ := ObOK.push (g := g2) (g' := g') (r := r) (fun _ _ => rfl) hγ (hft k).1 (hft k).2 (hobB k o hk)
    exact ⟨q1, fun b hb => by have := q2 b hb; cases o <;> exact this⟩
  have hle : g.le g' := ⟨fun b o u hu => by
    have hn : ¬ own b := fun h => by rw [hownσ b h o] at hu; cases hu
    have hb := I.lt_of_σ hu
    show τ b o = some u
    simp only [τ]
    rw [if_pos ⟨hb, hn⟩]; exact hu, fun k n hn => by
    by_cases hk : k < ob.length
    · by_cases hi : k ∈ r.idx
      · obtain ⟨i, hi⟩ := List.getElem?_of_mem hi
        obtain ⟨p1, _, p3⟩ := hIn i k hi
        have hl := hlimA i k hi
        refine ⟨by omega, ?_⟩
        rw [p3, if_pos (by omega)]
      · obtain ⟨p1, _, p3⟩ := hOut k hk hi
        exact ⟨by omega, p3 n⟩
    · have := I.lim k (by omega); omega⟩
  obtain ⟨m1, m2, m3⟩ := mergeO_at r r.idx 0 ob obB hlenB hnd (fun j hj => by obtain ⟨i, hi⟩ := List.getElem?_of_mem hj; exact hidx i j hi)
  have hcase : ∀ (k : Nat) (p : Ob), (mergeO r 0 ob r.idx obB)[k]? = some p → (∃ i o, obB[i]? = some o ∧ k = r.ix i ∧ p = o.ren r i) ∨ (k < ob.length ∧ k ∉ r.idx ∧ ob[k]? = some p) := fun k p hp => by
    by_cases hk : k < ob.length
    · by_cases hi : k ∈ r.idx
      · obtain ⟨i, hi⟩ := List.getElem?_of_mem hi
        rw [m1 i k hi] at hp
        obtain ⟨o, ho, rfl⟩ := Option.map_eq_some_iff.1 hp
        exact .inl ⟨i, o, ho, (Rn.ix_lt hi).symm, by rw [Nat.zero_add]⟩
      · rw [m2 k hk hi] at hp
        exact .inr ⟨hk, hi, hp⟩
    · rw [m3 k (by omega)] at hp
      obtain ⟨o, ho, rfl⟩ := Option.map_eq_some_iff.1 hp
      refine .inl ⟨_, o, ho, ?_, by rw [Nat.zero_add]⟩
      rcases hix (k - ob.length + r.idx.length) with ⟨j, hj, _⟩ | h
      · have := (List.getElem?_eq_some_iff.1 hj).1; omega
      · omega
  have hkept : ∀ (k : Nat) (p : Ob), k ∉ r.idx → ob[k]? = some p → ∀ b, g.at k p b → b < w.heap.size ∧ ¬ own b := fun k p hk hp b hb => by
    refine ⟨((I.obs k p hp).at_lt hb).2, fun h => ?_⟩
    obtain ⟨i, o, hi, q2, hb'⟩ := hown b h
    have hlt : i < r.idx.length := by rw [← hA]; exact (List.getElem?_eq_some_iff.1 hi).1
    have e := Rn.ix_lt (r := r) (List.getElem?_eq_getElem hlt)
    refine I.dis k (r.ix i) p _ b (fun h => hk ?_) hp q2 hb hb'
    rw [h, e]; exact List.getElem_mem hlt
  refine ⟨g', hle, ⟨I.below.then J.below.os J.below.tape J.below.output J.below.size fun b hb hn => ?_, fun b o hb hn => ?_, fun b o u hu => ?_, fun k p hp => ?_, fun k hk => ?_, fun k k' p p' b hne hp hp' hb hb' => ?_, fun k hk => ?_⟩, fun t v h hf => ?_⟩
  · refine J.below.block b (by have := I.below.size; omega) fun h => ?_
    rcases hownM b h with h | h
    · omega
    · exact hn h
  · have hn' : ¬ own b := fun h => by
      rcases hownM b h with h | h
      · omega
      · exact hn h
    show τ b o = _
    simp only [τ]
    rw [if_pos ⟨by have := I.below.size; omega, hn'⟩]
    exact I.old b o hb hn
  · have hu' : τ b o = some u := hu
    simp only [τ] at hu'
    by_cases hb : b < w.heap.size ∧ ¬ own b
    · rw [if_pos hb] at hu'
      rw [World.cell?_of_block (w := w) (w' := w') (J.below.block b hb.1 hb.2)]
      exact I.con b o u hu'
    · rw [if_neg hb] at hu'
      exact J.con b o u hu'
  · rcases hcase k p hp with ⟨i, o, ho, rfl, rfl⟩ | ⟨hk, hi, hp⟩
    · exact (hpush i o ho).1
    · obtain ⟨q1, q2, q3⟩ := hOut k hk hi
      refine (I.obs k p hp).mono hle q1 q2 (fun b hb => ?_) J.below.size
      obtain ⟨h1, h2⟩ := hkept k p hi hp b hb
      exact ⟨J.below.block b h1 h2, fun x => by show τ b x = _; simp only [τ]; rw [if_pos ⟨h1, h2⟩]⟩
  · have hlen : ∀ k, (mergeO r 0 ob r.idx obB).length ≤ k → ob.length ≤ k := fun k hk => by
      by_cases h : ob.length ≤ k
      · exact h
      · have hn : (mergeO r 0 ob r.idx obB)[k]? = none := List.getElem?_eq_none hk
        by_cases hi : k ∈ r.idx
        · obtain ⟨i, hi⟩ := List.getElem?_of_mem hi
          rw [m1 i k hi] at hn
          have := (List.getElem?_eq_some_iff.1 hi).1
          rw [List.getElem?_eq_getElem (show i < obB.length by omega)] at hn
          simp at hn
        · rw [m2 k (by omega) hi, List.getElem?_eq_getElem (show k < ob.length by omega)] at hn
          cases hn
    have h1 := hlen k hk
    obtain ⟨q1, _, _⟩ := hNew k h1
    rw [q1]
    refine J.lim _ ?_
    have hn : (mergeO r 0 ob r.idx obB)[k]? = none := List.getElem?_eq_none hk
    rw [m3 k h1] at hn
    simpa using hn
  · have both : ∀ (k k' : Nat) (p p' : Ob), (∃ i o, obB[i]? = some o ∧ k = r.ix i ∧ p = o.ren r i) → k' ∉ r.idx → k' < ob.length → ob[k']? = some p' → g'.at k p b → g'.at k' p' b → False := fun k k' p p' ⟨i, o, ho, hk, hp⟩ hn hlt hp' hb hb' => by
      subst hk; subst hp
      have h1 := (hpush i o ho).2 b hb
      rw [Gh.at_mono hle (I.obs k' p' hp') (hOut k' hlt hn).2.1] at hb'
      obtain ⟨h2, h3⟩ := hkept k' p' hn hp' b hb'
      rcases ((J.obs i o ho).at_lt h1).1 with h | h
      · omega
      · exact h3 h
    rcases hcase k p hp with hA | ⟨hk, hi, hp2⟩
    · rcases hcase k' p' hp' with hB | ⟨hk', hi', hp2'⟩
      · obtain ⟨i, o, ho, rfl, rfl⟩ := hA
        obtain ⟨i', o', ho', rfl, rfl⟩ := hB
        exact J.dis i i' o o' b (fun e => hne (by rw [e])) ho ho' ((hpush i o ho).2 b hb) ((hpush i' o' ho').2 b hb')
      · exact both k k' p p' hA hi' hk' hp2' hb hb'
    · rcases hcase k' p' hp' with hB | ⟨hk', hi', hp2'⟩
      · exact both k' k p' p hB hi hk hp2 hb' hb
      · rw [Gh.at_mono hle (I.obs k p hp2) (hOut k hk hi).2.1] at hb
        rw [Gh.at_mono hle (I.obs k' p' hp2') (hOut k' hk' hi').2.1] at hb'
        exact I.dis k k' p p' b hne hp2 hp2' hb hb'
  · have hkl : k < ob.length := by omega
    by_cases hi : k ∈ r.idx
    · obtain ⟨i, hi⟩ := List.getElem?_of_mem hi
      have hl := hlimA i k hi
      rcases I.ext k hk with h | h
      · omega
      · exact .inr (((hle.γ k 0 (by omega)).2).trans h)
    · obtain ⟨q1, _, q3⟩ := hOut k hkl hi
      rw [q1, q3]
      exact I.ext k hk
  · exact RT.push (g := g2) (g' := g') (r := r) (fun _ _ _ h => h) hγ (hRT t v h hf)
end

section
variable {N : Nm} {S : St} {w0 : World} {σ0 : Bs} {ob : List Ob} {a : Act} {w : World} {g : Gh}

/-! ### arguments -/

def argsOf (E : Env) (S : St) : List Operand → List TypeId → Option (List D)
  | [], _ => some []
  | x :: r, ts => match norm S.ob (fixNil E (ts.headD 0) (S.ev x)), argsOf E S r ts.tail with
    | .d d, some ds => some (d.fix :: ds)
    | _, _ => none

theorem Rel.args {E : Env} (r : Rel N w0 σ0 S a w g) : ∀ {xs : List Operand} {ts : List TypeId} {ds : List D}, argsOf E S xs ts = some ds →
    (xs.map a.eval).length = ds.length ∧ ∀ (i : Nat) (x : D) (u : Value), ds[i]? = some x → (xs.map a.eval)[i]? = some u → RD g.σ x u
  | [], ts, ds, h => by
    simp only [argsOf, Option.some.injEq] at h
    subst h
    exact ⟨rfl, fun i x u hx => by simp at hx⟩
  | x :: xs, ts, ds, h => by
    simp only [argsOf] at h
    split at h
    · rename_i d ds' hd hds
      simp only [Option.some.injEq] at h
      subst h
      obtain ⟨h1, h2⟩ := Rel.args r hds
      refine ⟨by simpa using h1, fun i y u hy hu => ?_⟩
      cases i with
      | zero =>
        simp at hy hu
        subst hy; subst hu
        have := r.inv.norm ((r.ev x).fixNil E (ts.headD 0))
        rw [hd] at this
        exact this.inv_d.fix
      | succ i => exact h2 i y u (by simpa using hy) (by simpa using hu)
    · cases h
end

/-- The contract of a function that a call enters. -/
structure FunQ (P : Program) (f : FuncId) (args : List T) (ob : List Ob) (R : T → List Ob → Prop) : Prop where
  enter : ∀ (vals : Array Value) (w : World), (callFunc f vals).run P w = .ok (.enter f vals) w
  calls : FnQ P f args ob R

/-- The contract of a function of data. -/
abbrev Fun (P : Program) (f : FuncId) (args : List D) (t : T) (ob : List Ob) : Prop := FunQ P f (args.map .d) [] (just t ob)

theorem FunQ.intro {P : Program} {f : FuncId} {fn : Func} {c : Code} {args : List T} {ob : List Ob} {R : T → List Ob → Prop} (hf : P.funcs[f]? = some fn) (hb : fn.body = some c) (hname : (fn.name == "runtime.NumGoroutine") = false)
    (hn : Nat.ble args.length fn.ntmps = true) (h : W P ⟨fn.ntmps, ob.length⟩ c (RetR P fn ob.length R) ⟨argT args, ob⟩) : FunQ P f args ob R :=
  ⟨fun vals w => by
    unfold callFunc
    simp only [Sem.run_bind, run_program, Result.andThen_ok, hf, hname, hb, Bool.false_eq_true, if_false, Option.isNone_some, Sem.run_pure], FnQ.intro hf hb (Nat.le_of_ble_eq_true hn) h⟩

theorem FunQ.mono {P : Program} {f : FuncId} {args : List T} {ob : List Ob} {R R' : T → List Ob → Prop} (h : FunQ P f args ob R) (hR : ∀ t ob', R t ob' → R' t ob') : FunQ P f args ob R' :=
  ⟨h.enter, fun w g vals hI hl hr => (h.calls w g vals hI hl hr).mono fun e w' ⟨v, t, ob', g', h1, h2, h3⟩ => ⟨v, t, ob', g', h1, hR t ob' h2, h3⟩⟩

theorem FunQ.cast {P : Program} {f : FuncId} {args args' : List T} {ob ob' : List Ob} {R R' : T → List Ob → Prop} (h : FunQ P f args ob R) (ha : args = args') (ho : ob = ob') (hR : R = R') : FunQ P f args' ob' R' := by
  subst ha; subst ho; subst hR; exact h

/-- The slots of a call of data. -/
def argD (l : List D) (i : Nat) : T := match l[i]? with | some x => .d x | none => .any

theorem argD_eq (l : List D) : argD l = argT (l.map .d) := by
  funext i
  simp only [argD, argT, List.getElem?_map]
  cases l[i]? <;> rfl

theorem Fun.intro {P : Program} {f : FuncId} {fn : Func} {c : Code} {args : List D} {t : T} {ob : List Ob} (hf : P.funcs[f]? = some fn) (hb : fn.body = some c) (hname : (fn.name == "runtime.NumGoroutine") = false)
    (hn : Nat.ble args.length fn.ntmps = true) (h : W P ⟨fn.ntmps, 0⟩ c (RetR P fn 0 (just t ob)) ⟨argD args, []⟩) : Fun P f args t ob := by
  refine FunQ.intro hf hb hname (by simpa using hn) ?_
  rw [← argD_eq]
  exact h

theorem Fun.cast {P : Program} {f : FuncId} {args args' : List D} {t t' : T} {ob ob' : List Ob} (h : Fun P f args t ob) (ha : args = args') (ht : t = t') (ho : ob = ob') : Fun P f args' t' ob' := by
  subst ha; subst ht; subst ho; exact h

/-! ### what is called; what it is handed -/

def cloOf : T → Option (FuncId × List T)
  | .clo f cs => some (f, cs)
  | .d (.v (.func (.func f) first cap)) => match first.toList, cap.toList with | [], [] => some (f, []) | _, _ => none
  | _ => none

theorem RT.clo_of {g : Gh} {t : T} {u : Value} {f : FuncId} {cs : List T} (h : RT g t u) (hc : cloOf t = some (f, cs)) :
    ∃ vs : List Value, u = .func (.func f) #[] vs.toArray ∧ cs.length = vs.length ∧ ∀ (i : Nat) (x : T) (u : Value), cs[i]? = some x → vs[i]? = some u → RT g x u := by
  unfold cloOf at hc
  split at hc
  · simp only [Option.some.injEq, Prod.mk.injEq] at hc
    obtain ⟨rfl, rfl⟩ := hc
    exact h.inv_clo
  · rename_i f' first cap
    split at hc
    · rename_i h1 h2
      simp only [Option.some.injEq, Prod.mk.injEq] at hc
      obtain ⟨rfl, rfl⟩ := hc
      have e1 : first = #[] := by rw [← Array.toArray_toList (xs := first), h1]
      have e2 : cap = #[] := by rw [← Array.toArray_toList (xs := cap), h2]
      subst e1; subst e2
      exact ⟨[], h.inv_v, rfl, fun i x u hx => by simp at hx⟩
    · cases hc
  · cases hc

/-- What lies in a slice of the call's own, for the time of a call. -/
def lendC (ob : List Ob) : T → T
  | .og k n => match ob[k]? with
    | some (.gr z _ rows m _) => bif Nat.beq m n then .d (.sl z rows) else .og k n
    | some (.x X m) => match X.dat with
      | some d => bif Nat.beq m n then .d d else .og k n
      | none => .og k n
    | _ => .og k n
  | .d x => .d x.fix1
  | t => t

def lend1 (ob : List Ob) : T → T
  | .agg cs => mkAgg (cs.map (lendC ob))
  | .d x => .d x.fix
  | .clo f cs => .clo f (cs.map (lendC ob))
  | t => lendC ob t

section
variable {N : Nm} {S : St} {w0 : World} {σ0 : Bs} {ob : List Ob} {a : Act} {w : World} {g : Gh}

open Classical in
/-- The cells that are known, and those of the call's own slices. -/
noncomputable def lentσ (ob : List Ob) (w : World) (g : Gh) : Sto := fun b o =>
  if (∃ k z e rows n, ob[k]? = some (.gr z e rows n false) ∧ (g.γ k n).ownBlock = some b) ∨ (∃ k X n, ob[k]? = some (.x X n) ∧ g.foot k b) then w.cell? ⟨b, o, none⟩ else g.σ b o

theorem lentσ_le (I : Inv w0 σ0 ob w g) : (∀ b o u, g.σ b o = some u → lentσ ob w g b o = some u) ∧ ∀ b o u, lentσ ob w g b o = some u → w.cell? ⟨b, o, none⟩ = some u := by
  refine ⟨fun b o u hu => ?_, fun b o u hu => ?_⟩
  · unfold lentσ
    split
    · exact I.con b o u hu
    · exact hu
  · unfold lentσ at hu
    split at hu
    · exact hu
    · exact I.con b o u hu

theorem Inv.readL (I : Inv w0 σ0 ob w g) {k z : Nat} {e : TypeId} {rows : List (List D)} {n : Nat} {pub : Bool} (hk : ob[k]? = some (.gr z e rows n pub)) : RD (lentσ ob w g) (.sl z rows) (g.γ k n) := by
  cases pub with
  | true => exact (I.read hk).mono (lentσ_le I).1
  | false =>
    obtain ⟨h1, xs, ⟨h2, h2m⟩, h3, h4, h5, h6⟩ := I.obs k _ hk
    rcases h2.2 with ⟨hv, hn⟩ | ⟨b, cap, cur, hv, hb, hh, hcap, hm, hcs, hxs⟩
    · rw [hv]
      have : rows = [] := List.eq_nil_of_length_eq_zero hn
      subst this
      exact .nil z none
    · rw [hv]
      have hlen := h2.1
      have hin : ∀ i j, i < rows.length → j < z → i * z + j < xs.length := fun i j hi hj => by
        rw [hlen]
        calc i * z + j < i * z + z := by omega
          _ = (i + 1) * z := by rw [Nat.add_mul]; omega
          _ ≤ rows.length * z := Nat.mul_le_mul_right _ hi
      have hcell : ∀ i j, i < rows.length → j < z → lentσ ob w g b (i * z + j) = xs[i * z + j]? := fun i j hi hj => by
        have hlt := hin i j hi hj
        unfold lentσ
        rw [if_pos (.inl ⟨k, z, e, rows, n, hk, by rw [hv]; rfl⟩)]
        have := h2.cells (g := b) (by rw [hv]; rfl) (i * z + j) _ (List.getElem?_eq_getElem hlt)
        rw [Addr.add_lit, Nat.zero_add] at this
        rw [this, List.getElem?_eq_getElem hlt]
      refine .sl z rows b 0 cap (fun i j => (xs[i * z + j]?).getD undef) hcap hm h3 (fun i j hi hj => ?_) (fun i j r x hr hx => ?_)
      · have hlt := hin i j hi hj
        rw [Nat.zero_add, hcell i j hi hj, List.getElem?_eq_getElem hlt]
        exact ⟨rfl, h5 _ (List.getElem_mem hlt)⟩
      · obtain ⟨u, hu, hd⟩ := h4 i j r x hr hx
        rw [hu]
        exact hd.mono (lentσ_le I).1

theorem Inv.readX (I : Inv w0 σ0 ob w g) {k n : Nat} {X : ObX} {d : D} (hk : ob[k]? = some (.x X n)) (hd : X.dat = some d) : RD (lentσ ob w g) d (g.γ k n) := by
  obtain ⟨h1, h2, h3⟩ := I.obs k _ hk
  refine X.read hd h2 (lentσ_le I).1 fun b o cur e u hb hh hu => ?_
  unfold lentσ
  rw [if_pos (.inr ⟨k, X, n, hk, hb⟩)]
  obtain ⟨cur⟩ := cur
  have hh : w.heap[b]? = some (.cells cur.toArray e (0, 0)) := hh
  rw [cell_of_heap hh o]
  simpa using hu

theorem Inv.lendC (I : Inv w0 σ0 ob w g) {t : T} {v : Value} (h : RT g t v) : RT { g with σ := lentσ ob w g } (lendC ob t) v := by
  have hle : g.le { g with σ := lentσ ob w g } := ⟨(lentσ_le I).1, fun _ _ h => ⟨h, rfl⟩⟩
  cases t with
  | og k n =>
    simp only [Go.Proofs.Yteooogngdejdgaa.lendC]
    split
    · rename_i z e rows m pub hk
      by_cases e' : m = n
      · subst e'
        rw [show Nat.beq m m = true by simp]
        simp only [cond_true]
        obtain ⟨_, hv⟩ := h.inv_og
        rw [hv]
        exact .d _ _ (I.readL hk)
      · rw [nbeq e']; exact h.mono hle
    · rename_i X m hk
      split
      · rename_i d hd
        by_cases e' : m = n
        · subst e'
          rw [show Nat.beq m m = true by simp]
          simp only [cond_true]
          obtain ⟨_, hv⟩ := h.inv_og
          rw [hv]
          exact .d _ _ (I.readX hk hd)
        · rw [nbeq e']; exact h.mono hle
      · exact h.mono hle
    · exact h.mono hle
  | d x => exact .d _ _ (h.inv_d.fix1.mono (lentσ_le I).1)
  | _ => exact h.mono hle

theorem Inv.lend1 (I : Inv w0 σ0 ob w g) {t : T} {v : Value} (h : RT g t v) : RT { g with σ := lentσ ob w g } (lend1 ob t) v := by
  cases t with
  | agg cs =>
    obtain ⟨vs, rfl, hl, hh⟩ := h.inv_agg
    refine RT.mkAgg (by simpa using hl) fun i x u hx hu => ?_
    simp only [List.getElem?_map, Option.map_eq_some_iff] at hx
    obtain ⟨y, hy, rfl⟩ := hx
    exact I.lendC (hh i y u hy hu)
  | clo f cs =>
    obtain ⟨vs, rfl, hl, hh⟩ := h.inv_clo
    refine .clo f _ vs (by simpa using hl) fun i x u hx hu => ?_
    simp only [List.getElem?_map, Option.map_eq_some_iff] at hx
    obtain ⟨y, hy, rfl⟩ := hx
    exact I.lendC (hh i y u hy hu)
  | d x => exact .d _ _ (h.inv_d.fix.mono (lentσ_le I).1)
  | _ => exact I.lendC h

def fixT : T → T
  | .d x => .d x.fix
  | t => t

theorem RT.fixT {g : Gh} {t : T} {v : Value} (h : RT g t v) : RT g (fixT t) v := by
  cases t with
  | d x => exact .d _ _ h.inv_d.fix
  | _ => exact h

def argsT (E : Env) (S : St) (lend : Bool) : List Operand → List TypeId → List T
  | [], _ => []
  | x :: r, ts => (bif lend then lend1 S.ob (fixNil E (ts.headD 0) (S.ev x)) else fixT (norm S.ob (fixNil E (ts.headD 0) (S.ev x)))) :: argsT E S lend r ts.tail

theorem Rel.argsL {E : Env} (r : Rel N w0 σ0 S a w g) (lend : Bool) : ∀ (xs : List Operand) (ts : List TypeId), (argsT E S lend xs ts).length = xs.length ∧
    ∀ (i : Nat) (x : T) (u : Value), (argsT E S lend xs ts)[i]? = some x → (xs.map a.eval)[i]? = some u → RT { g with σ := bif lend then lentσ S.ob w g else g.σ } x u
  | [], ts => ⟨rfl, fun i x u hx => by simp [argsT] at hx⟩
  | x :: xs, ts => by
    obtain ⟨h1, h2⟩ := Rel.argsL (E := E) r lend xs ts.tail
    refine ⟨by simp [argsT, h1], fun i y u hy hu => ?_⟩
    cases i with
    | zero =>
      simp only [argsT, List.getElem?_cons_zero, Option.some.injEq, List.map_cons] at hy hu
      subst hy; subst hu
      cases lend with
      | true => exact r.inv.lend1 ((r.ev x).fixNil E (ts.headD 0))
      | false => exact (r.inv.norm ((r.ev x).fixNil E (ts.headD 0))).fixT
    | succ i => exact h2 i y u (by simpa [argsT] using hy) (by simpa using hu)

theorem app_at {g : Gh} {xs ys : List T} {us vs : List Value} (h1 : xs.length = us.length) (h2 : ∀ (i : Nat) (x : T) (u : Value), xs[i]? = some x → us[i]? = some u → RT g x u)
    (h3 : ∀ (i : Nat) (x : T) (u : Value), ys[i]? = some x → vs[i]? = some u → RT g x u) (i : Nat) (x : T) (u : Value) (hx : (xs ++ ys)[i]? = some x) (hu : (us ++ vs)[i]? = some u) : RT g x u := by
  by_cases hi : i < xs.length
  · rw [List.getElem?_append_left hi] at hx
    rw [List.getElem?_append_left (by omega)] at hu
    exact h2 i x u hx hu
  · rw [List.getElem?_append_right (by omega)] at hx
    rw [List.getElem?_append_right (by omega), ← h1] at hu
    exact h3 _ x u hx hu

/-- What the callee is told of what was lent to be read. -/
theorem Inv.sigma (I : Inv w0 σ0 ob w g) (lend : Bool) : (∀ b o u, g.σ b o = some u → (bif lend then lentσ ob w g else g.σ) b o = some u) ∧ ∀ b o u, (bif lend then lentσ ob w g else g.σ) b o = some u → w.cell? ⟨b, o, none⟩ = some u := by
  cases lend with
  | true => exact lentσ_le I
  | false => exact ⟨fun _ _ _ h => h, I.con⟩
end

section
variable {E : Env} {N : Nm} {Q : Exit → St → Prop} {S : St} {ops l : List Oper} {ty : TypeId} {pos : String} {after : Array Edge} {gd : Option (Nat × Bool)}

theorem run_callV {P : Program} {w : World} {a : Act} {f : FuncId} {fop : Operand} {xs : List Operand} {tys : Array TypeId} {vs : List Value} {dst : Option Nat} (hv : a.eval fop = .func (.func f) #[] vs.toArray)
    (h : ∀ (vals : Array Value) (w : World), (callFunc f vals).run P w = .ok (.enter f vals) w) :
    (execOp a.eval ⟨dst, .call ⟨.value fop, xs.toArray, tys⟩, ty, pos, after, gd⟩).run P w = .ok (.enter f (xs.map a.eval ++ vs).toArray) w := by
  simp [execOp, resolve, hv, Deferred.ofValue, invoke, h]

theorem run_call {P : Program} {w : World} {a : Act} {f : FuncId} {xs : List Operand} {tys : Array TypeId} {dst : Option Nat} (h : ∀ (vals : Array Value) (w : World), (callFunc f vals).run P w = .ok (.enter f vals) w) :
    (execOp a.eval ⟨dst, .call ⟨.value (.func f), xs.toArray, tys⟩, ty, pos, after, gd⟩).run P w = .ok (.enter f (xs.map a.eval).toArray) w := by
  simp [execOp, resolve, Deferred.ofValue, Act.eval, invoke, h]

/-- A call: objects are lent to be written (r), all other slices of the call's own to be read (lend). -/
theorem Rel.call {w0 : World} {σ0 : Bs} {a : Act} {w : World} {g : Gh} (R : Rel N w0 σ0 S a w g) {f : FuncId} {fop : Operand} {xs : List Operand} {tys : List TypeId} {cap args : List T} {obA : List Ob} {Rr : T → List Ob → Prop} (r : Rn) (lend : Bool)
    (hc : FunQ E.P f args obA Rr) (hclo : cloOf (norm S.ob (S.ev fop)) = some (f, cap)) (ha : argsT E S lend xs tys ++ cap = T.renL r args) (hlp : T.lpOKL r args = true) (hK : r.K = S.ob.length) (hnd : nodupB r.idx = true)
    (hA : Nat.beq obA.length r.idx.length = true) (hs : startL r 0 obA = true) (hmt : matchO r S.ob 0 obA) (hno : lend = false ∨ r.idx = []) (hal : ∀ t obB, Rr t obB → aliveN r.idx.length obB = true ∧ (lend = true → t.flat = true ∧ ∀ o ∈ obB, o.flat))
    {dst : Option Nat} (K : Act → World → Prop) (QQ : Exit → Act → World → Prop)
    (k : ∀ t obB, Rr t obB → ∀ v w' g', g.le g' → Inv w0 σ0 (mergeO r 0 S.ob r.idx obB) w' g' → RT g' (t.ren r) v → K (a.put dst v) w') :
    Oper.wp E.P ⟨dst, .call ⟨.value fop, xs.toArray, tys.toArray⟩, ty, pos, after, gd⟩ a w K QQ := by
  have I := R.inv
  obtain ⟨vs, hv, hvl, hvr⟩ := (I.norm (R.ev fop)).clo_of hclo
  obtain ⟨h1, h2⟩ := R.argsL (E := E) lend xs tys
  have hlen : obA.length = r.idx.length := Nat.eq_of_beq_eq_true hA
  have hK' : ∀ k, r.K ≤ k → g.lim k = 0 := fun k hk => I.lim k (by omega)
  have hsg := I.sigma lend
  generalize hσ' : (bif lend then lentσ S.ob w g else g.σ) = σ' at hsg h2
  have hown : ∀ i o b, obA[i]? = some o → (g.pull r).at i o b → ∀ x, σ' b x = none := fun i o b hi hb x => by
    have h3 := startL_at hs i o hi
    have h4 := matchO_at hmt i o hi
    rw [Nat.zero_add] at h3 h4
    simp only [Ob.start, Bool.and_eq_true] at h3
    have hlt : i < r.idx.length := by rw [← hlen]; exact (List.getElem?_eq_some_iff.1 hi).1
    rcases hno with hno | hno
    · subst hno
      rw [← hσ']
      obtain ⟨p1, p2⟩ := (I.obs _ _ h4).pull hK' hlt h3.1
      refine p1.hid (fun z e rows n he => ?_) hb x
      subst he
      simp at h3
    · rw [hno] at hlt; simp at hlt
  have hst := I.start hK (nodupB_ok hnd) hlen hs hmt σ' hsg.1 hsg.2 hown
  unfold Oper.wp
  rw [run_callV hv hc.enter, Oper.upon_enter]
  have hg2 : ∀ k, r.K ≤ k → ({ g with σ := σ' } : Gh).lim k = 0 := hK'
  obtain ⟨p1, p2⟩ := RT.pullL (g := { g with σ := σ' }) (r := r) hg2 args (xs.map a.eval ++ vs) hlp (by rw [← ha]; simp [h1, hvl]) (by
    rw [← ha]
    exact app_at (by simp [h1]) h2 fun i x u hx hu => (hvr i x u hx hu).mono (g' := { g with σ := σ' }) ⟨hsg.1, fun _ _ h => ⟨h, rfl⟩⟩)
  refine (hc.calls w _ (xs.map a.eval ++ vs) hst p1.symm p2).mono fun e w' ⟨v, t, obB, g1, he, hR, J, hv⟩ => ?_
  subst he
  obtain ⟨ha1, ha2⟩ := hal t obB hR
  have hno2 : (∀ b o, σ' b o = g.σ b o) ∨ lend = true := by
    cases lend with
    | true => exact .inr rfl
    | false => rw [← hσ']; exact .inl fun _ _ => rfl
  obtain ⟨g', hle, I', hmap⟩ := I.behind hK (by rw [R.hm]; exact R.hl) (nodupB_ok hnd) hlen hs hmt σ' J (hno2.imp id fun h => (ha2 h).2) ha1
  exact k t obB hR v w' g' hle I' (hmap t v hv (hno2.imp id fun h => (ha2 h).1))

theorem mergeO_length (r : Rn) : ∀ (js : List Nat) (i : Nat) (obC rest : List Ob), obC.length ≤ (mergeO r i obC js rest).length
  | [], i, obC, rest => by simp [mergeO]
  | j :: js, i, obC, [] => by
    simp only [mergeO]
    have := mergeO_length r js (i + 1) (obC.set j .dead) []
    simpa using this
  | j :: js, i, obC, o :: rest => by
    simp only [mergeO]
    have := mergeO_length r js (i + 1) (obC.set j (o.ren r i)) rest
    simpa using this

theorem WL.callQ {d : Nat} {f : FuncId} {fop : Operand} {xs : List Operand} {tys : List TypeId} {cap args : List T} {obA : List Ob} {Rr : T → List Ob → Prop} (r : Rn) (lend : Bool) (hw : S.want ops ⟨some d, .call ⟨.value fop, xs.toArray, tys.toArray⟩, ty, pos, after, gd⟩ = some true) (hd : Nat.blt d N.n = true)
    (hc : FunQ E.P f args obA Rr) (hclo : cloOf (norm S.ob (S.ev fop)) = some (f, cap)) (ha : argsT E S lend xs tys ++ cap = T.renL r args) (hlp : T.lpOKL r args = true) (hK : r.K = S.ob.length) (hnd : nodupB r.idx = true)
    (hA : Nat.beq obA.length r.idx.length = true) (hs : startL r 0 obA = true) (hmt : matchO r S.ob 0 obA) (hno : lend = false ∨ r.idx = []) (hal : ∀ t obB, Rr t obB → aliveN r.idx.length obB = true ∧ (lend = true → t.flat = true ∧ ∀ o ∈ obB, o.flat))
    (k : ∀ t obB, Rr t obB → WL E.P N ops l Q ⟨(S.set d (t.ren r)).tm, mergeO r 0 S.ob r.idx obB⟩) : WL E.P N ops (⟨some d, .call ⟨.value fop, xs.toArray, tys.toArray⟩, ty, pos, after, gd⟩ :: l) Q S :=
  WL.oper hw fun w0 σ0 a w g R => R.call r lend hc hclo ha hlp hK hnd hA hs hmt hno hal _ _ fun t obB hR v w' g' hle I' hv => by
    have r' : Rel N w0 σ0 ⟨S.tm, mergeO r 0 S.ob r.idx obB⟩ a w' g' := ⟨I', R.defers, R.size, R.hm, Nat.le_trans R.hl (mergeO_length ..), fun i => (R.tm i).mono hle⟩
    exact k t obB hR w0 σ0 _ w' g' (r'.set (by simpa using hd) hv)

theorem WL.callQx {f : FuncId} {fop : Operand} {xs : List Operand} {tys : List TypeId} {cap args : List T} {obA : List Ob} {Rr : T → List Ob → Prop} (r : Rn) (lend : Bool) (hw : S.want ops ⟨none, .call ⟨.value fop, xs.toArray, tys.toArray⟩, ty, pos, after, gd⟩ = some true)
    (hc : FunQ E.P f args obA Rr) (hclo : cloOf (norm S.ob (S.ev fop)) = some (f, cap)) (ha : argsT E S lend xs tys ++ cap = T.renL r args) (hlp : T.lpOKL r args = true) (hK : r.K = S.ob.length) (hnd : nodupB r.idx = true)
    (hA : Nat.beq obA.length r.idx.length = true) (hs : startL r 0 obA = true) (hmt : matchO r S.ob 0 obA) (hno : lend = false ∨ r.idx = []) (hal : ∀ t obB, Rr t obB → aliveN r.idx.length obB = true ∧ (lend = true → t.flat = true ∧ ∀ o ∈ obB, o.flat))
    (k : ∀ t obB, Rr t obB → WL E.P N ops l Q ⟨S.tm, mergeO r 0 S.ob r.idx obB⟩) : WL E.P N ops (⟨none, .call ⟨.value fop, xs.toArray, tys.toArray⟩, ty, pos, after, gd⟩ :: l) Q S :=
  WL.oper hw fun w0 σ0 a w g R => R.call r lend hc hclo ha hlp hK hnd hA hs hmt hno hal _ _ fun t obB hR v w' g' hle I' hv =>
    k t obB hR w0 σ0 _ w' g' ⟨I', R.defers, R.size, R.hm, Nat.le_trans R.hl (mergeO_length ..), fun i => (R.tm i).mono hle⟩

theorem argsT_of {xs : List Operand} : ∀ {ts : List TypeId} {ds : List D} (r : Rn), argsOf E S xs ts = some ds → argsT E S false xs ts = T.renL r (ds.map .d) := by
  induction xs with
  | nil =>
    intro ts ds r h
    simp only [argsOf, Option.some.injEq] at h
    subst h
    simp [argsT, T.renL]
  | cons x xs ih =>
    intro ts ds r h
    simp only [argsOf] at h
    split at h
    · rename_i d ds' hd hds
      simp only [Option.some.injEq] at h
      subst h
      simp only [argsT, List.map_cons, T.renL, T.ren, ih r hds, cond_false, hd, fixT]
    · cases h
/-- A call by a contract of data: what the callee has made follows. -/
def pushT (K : Nat) : T → T := T.ren ⟨[], [], K⟩
def pushO (K : Nat) : List Ob → List Ob := renFrom ⟨[], [], K⟩ 0

theorem WL.call {d : Nat} {f : FuncId} {xs : List Operand} {tys : List TypeId} {args : List D} {t : T} {ob1 : List Ob} (hw : S.want ops ⟨some d, .call ⟨.value (.func f), xs.toArray, tys.toArray⟩, ty, pos, after, gd⟩ = some true) (hd : Nat.blt d N.n = true)
    (hc : Fun E.P f args t ob1) (ha : argsOf E S xs tys = some args)
    (k : WL E.P N ops l Q ⟨(S.set d (pushT S.ob.length t)).tm, S.ob ++ pushO S.ob.length ob1⟩) : WL E.P N ops (⟨some d, .call ⟨.value (.func f), xs.toArray, tys.toArray⟩, ty, pos, after, gd⟩ :: l) Q S := by
  refine WL.callQ (cap := []) ⟨[], [], S.ob.length⟩ false hw hd hc rfl (by rw [List.append_nil]; exact argsT_of _ ha) ?_ rfl rfl rfl rfl trivial (.inl rfl) (fun t obB h => ⟨rfl, fun h => by cases h⟩) fun t' obB ⟨h1, h2⟩ => ?_
  · clear ha hc
    induction args with
    | nil => rfl
    | cons x r ih => simp [T.lpOKL, T.lpOK, ih]
  · subst h1; subst h2
    exact k

theorem WL.callx {f : FuncId} {xs : List Operand} {tys : List TypeId} {args : List D} {t : T} {ob1 : List Ob} (hw : S.want ops ⟨none, .call ⟨.value (.func f), xs.toArray, tys.toArray⟩, ty, pos, after, gd⟩ = some true)
    (hc : Fun E.P f args t ob1) (ha : argsOf E S xs tys = some args)
    (k : WL E.P N ops l Q ⟨S.tm, S.ob ++ pushO S.ob.length ob1⟩) : WL E.P N ops (⟨none, .call ⟨.value (.func f), xs.toArray, tys.toArray⟩, ty, pos, after, gd⟩ :: l) Q S := by
  refine WL.callQx (cap := []) ⟨[], [], S.ob.length⟩ false hw hc rfl (by rw [List.append_nil]; exact argsT_of _ ha) ?_ rfl rfl rfl rfl trivial (.inl rfl) (fun t obB h => ⟨rfl, fun h => by cases h⟩) fun t' obB ⟨h1, h2⟩ => ?_
  · clear ha hc
    induction args with
    | nil => rfl
    | cons x r ih => simp [T.lpOKL, T.lpOK, ih]
  · subst h1; subst h2
    exact k
end

/-! ### states written out -/

def ofL : List (Nat × T) → Nat → T
  | [], _ => .any
  | (i, t) :: r, j => bif Nat.beq j i then t else ofL r j

def leL (n : Nat) (f : Nat → T) : List (Nat × T) → Prop
  | [] => True
  | (i, t) :: r => (f i = t ∧ t.under n = true) ∧ leL n f r

theorem le_ofL {N : Nm} {S : St} {L : List (Nat × T)} {ob : List Ob} (hm : Nat.ble N.m ob.length = true) (ho : obsLe ob.length ob S.ob) (h : leL ob.length S.tm L) : St.le N S ⟨ofL L, ob⟩ := by
  refine ⟨Nat.le_of_ble_eq_true hm, ho, fun i => ?_⟩
  show ofL L i = .any ∨ (S.tm i = ofL L i ∧ (ofL L i).under ob.length = true)
  induction L with
  | nil => exact .inl rfl
  | cons p r ih =>
    obtain ⟨j, t⟩ := p
    obtain ⟨h1, h2⟩ := h
    unfold ofL
    by_cases e : i = j
    · subst e
      rw [show Nat.beq i i = true by simp, cond_true]
      exact .inr h1
    · rw [nbeq e, cond_false]
      exact ih h2

theorem obsLe_refl {ob : List Ob} (h : ∀ o ∈ ob, o.under ob.length = true) : obsLe ob.length ob ob := by
  have : ∀ (n : Nat) (l : List Ob), (∀ o ∈ l, o.under n = true) → obsLe n l l := by
    intro n l
    induction l with
    | nil => intro _; trivial
    | cons o r ih => exact fun h => ⟨h o (List.mem_cons_self ..), .inl rfl, ih fun p hp => h p (List.mem_cons_of_mem _ hp)⟩
  exact this _ _ h

end Go.Proofs.Yteooogngdejdgaa
