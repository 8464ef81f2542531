/-
  The small logic, seventeenth part: one state follows from another; a slice's versions counted anew; loops by that. Conditions: none.
-/
import Derived.Test.YteooogngdejdgaaPwP
set_option linter.unusedVariables false
set_option linter.unusedSimpArgs false
namespace Go.Proofs.Yteooogngdejdgaa
open Go.RowKit

/-- Whatever stands to S stands to S' (under another ghost). -/
def St.imp (N : Nm) (S S' : St) : Prop := ∀ w0 σ0 a w g, Rel N w0 σ0 S a w g → ∃ g', Rel N w0 σ0 S' a w g'

theorem St.imp.of_le {N : Nm} {S S' : St} (h : St.le N S S') : St.imp N S S' := fun _ _ _ _ _ r => r.weaken h
theorem St.imp.trans {N : Nm} {S S' S2 : St} (h : St.imp N S S') (k : St.imp N S' S2) : St.imp N S S2 := fun w0 σ0 a w g r =>
  let ⟨g', r'⟩ := h w0 σ0 a w g r; k w0 σ0 a w g' r'

theorem W.imp {P : Program} {N : Nm} {c : Code} {Q : Exit → St → Prop} {S S' : St} (h : St.imp N S S') (k : W P N c Q S') : W P N c Q S := fun w0 σ0 a w g r =>
  let ⟨g', r'⟩ := h w0 σ0 a w g r; k w0 σ0 a w g' r'

mutual
def T.rev (k n : Nat) : T → T
  | .d x => .d x
  | .agg cs => .agg (T.revL k n cs)
  | .tup cs => .tup (T.revL k n cs)
  | .clo f cs => .clo f (T.revL k n cs)
  | .lp l off => bif Nat.beq l k then .any else .lp l off
  | .og j m => bif Nat.beq j k then (bif Nat.beq m n then .og k 0 else .any) else .og j m
  | .ea r off => .ea r off
  | .eg j m z i off => bif Nat.beq j k then (bif Nat.beq m n then .eg k 0 z i off else .any) else .eg j m z i off
  | .any => .any
def T.revL (k n : Nat) : List T → List T
  | [] => []
  | t :: r => T.rev k n t :: T.revL k n r
end

theorem T.revL_map (k n : Nat) : ∀ cs, T.revL k n cs = cs.map (T.rev k n)
  | [] => by simp [T.revL]
  | t :: r => by simp [T.revL, T.revL_map k n r]

def Ob.rev (k n : Nat) : Ob → Ob
  | .pv cs => .pv (T.revL k n cs)
  | o => o

/-- The objects with k's versions counted anew. -/
def revObs (k n : Nat) : List Ob → Nat → List Ob
  | [], _ => []
  | o :: r, i => (bif Nat.beq i k then (match o with | .gr z e rows m pub => (bif Nat.beq m n then .gr z e rows 0 pub else .dead) | _ => .dead) else Ob.rev k n o) :: revObs k n r (i + 1)

theorem revObs_at (k n : Nat) : ∀ (l : List Ob) (i j : Nat), (revObs k n l i)[j]? = (l[j]?).map fun o => (bif Nat.beq (i + j) k then (match o with | .gr z e rows m pub => (bif Nat.beq m n then .gr z e rows 0 pub else .dead) | _ => .dead) else Ob.rev k n o)
  | [], i, j => by simp [revObs]
  | o :: r, i, 0 => by simp [revObs]
  | o :: r, i, j + 1 => by
    simp only [revObs, List.getElem?_cons_succ]
    rw [revObs_at k n r (i + 1) j, show i + 1 + j = i + (j + 1) by omega]

theorem revObs_length (k n : Nat) : ∀ (l : List Ob) (i : Nat), (revObs k n l i).length = l.length
  | [], i => rfl
  | o :: r, i => by simp [revObs, revObs_length k n r]

def Gh.rev (g : Gh) (k n : Nat) : Gh := { σ := g.σ, foot := g.foot, γ := fun j m => if j = k then g.γ k n else g.γ j m, lim := fun j => if j = k then 1 else g.lim j }

theorem RT.rev {g : Gh} {k n : Nat} {t : T} {u : Value} (h : RT g t u) : RT (g.rev k n) (t.rev k n) u := by
  induction h with
  | d x u h => exact .d x u h
  | agg cs vs hl h ih =>
    simp only [T.rev, T.revL_map]
    refine .agg _ vs (by simpa using hl) fun i x u hx hu => ?_
    simp only [List.getElem?_map, Option.map_eq_some_iff] at hx
    obtain ⟨y, hy, rfl⟩ := hx
    exact ih i y u hy hu
  | tup cs vs hl h ih =>
    simp only [T.rev, T.revL_map]
    refine .tup _ vs (by simpa using hl) fun i x u hx hu => ?_
    simp only [List.getElem?_map, Option.map_eq_some_iff] at hx
    obtain ⟨y, hy, rfl⟩ := hx
    exact ih i y u hy hu
  | lp l off b h0 h =>
    simp only [T.rev]
    by_cases hj : l = k
    · subst hj
      rw [show Nat.beq l l = true by simp, cond_true]
      exact .any _
    · rw [nbeq hj, cond_false]
      exact .lp l off b (by simpa [Gh.rev, hj] using h0) (by simpa [Gh.rev, hj] using h)
  | og j m h =>
    simp only [T.rev]
    by_cases hj : j = k
    · subst hj
      rw [show Nat.beq j j = true by simp, cond_true]
      by_cases hm : m = n
      · subst hm
        rw [show Nat.beq m m = true by simp, cond_true]
        have := RT.og (g := g.rev j m) j 0 (by simp [Gh.rev])
        simpa [Gh.rev] using this
      · rw [nbeq hm, cond_false]; exact .any _
    · rw [nbeq hj, cond_false]
      have := RT.og (g := g.rev k n) j m (by simpa [Gh.rev, hj] using h)
      simpa [Gh.rev, hj] using this
  | ea r off b o U hc hr => exact .ea r off b o U hc hr
  | eg j m z i off b len cap h hg =>
    simp only [T.rev]
    by_cases hj : j = k
    · subst hj
      rw [show Nat.beq j j = true by simp, cond_true]
      by_cases hm : m = n
      · subst hm
        rw [show Nat.beq m m = true by simp, cond_true]
        exact .eg j 0 z i off b len cap (by simp [Gh.rev]) (by simpa [Gh.rev] using hg)
      · rw [nbeq hm, cond_false]; exact .any _
    · rw [nbeq hj, cond_false]
      exact .eg j m z i off b len cap (by simpa [Gh.rev, hj] using h) (by simpa [Gh.rev, hj] using hg)
  | clo f cs vs hl h ih =>
    simp only [T.rev, T.revL_map]
    refine .clo f _ vs (by simpa using hl) fun i x u hx hu => ?_
    simp only [List.getElem?_map, Option.map_eq_some_iff] at hx
    obtain ⟨y, hy, rfl⟩ := hx
    exact ih i y u hy hu
  | any u => exact .any u

theorem St.imp.rev {N : Nm} {S : St} (k n : Nat) {z : Nat} {e : TypeId} {rows : List (List D)} {pub : Bool} (hk : S.ob[k]? = some (.gr z e rows n pub)) (hm : Nat.ble N.m k = true := by rfl) :
    St.imp N S ⟨fun i => (S.tm i).rev k n, revObs k n S.ob 0⟩ := fun w0 σ0 a w g r => by
  have I := r.inv
  have hlt : k < S.ob.length := (List.getElem?_eq_some_iff.1 hk).1
  have hget : ∀ (j : Nat) (p : Ob), (revObs k n S.ob 0)[j]? = some p → (j = k ∧ p = .gr z e rows 0 pub) ∨ (j ≠ k ∧ ∃ q, S.ob[j]? = some q ∧ p = q.rev k n) := by
    intro j p hp
    rw [revObs_at, Nat.zero_add] at hp
    by_cases hj : j = k
    · subst hj
      rw [hk] at hp
      simp only [Option.map_some, Option.some.injEq, show Nat.beq j j = true by simp, cond_true, show Nat.beq n n = true by simp] at hp
      exact .inl ⟨rfl, hp.symm⟩
    · cases hq : S.ob[j]? with
      | none => rw [hq] at hp; simp at hp
      | some q =>
        rw [hq] at hp
        simp only [Option.map_some, Option.some.injEq, nbeq hj, cond_false] at hp
        exact .inr ⟨hj, q, rfl, hp.symm⟩
  have hat : ∀ (j : Nat) (q : Ob) (b : Nat), j ≠ k → ((g.rev k n).at j (q.rev k n) b ↔ g.at j q b) := fun j q b hj => by
    cases q <;> simp [Gh.at, Ob.rev, Gh.rev, hj]
  have hobk := I.obs k _ hk
  have hm' := Nat.le_of_ble_eq_true hm
  refine ⟨g.rev k n, ⟨I.below, I.old, I.con, fun j p hp => ?_, fun j hj => ?_, fun j j' p p' b hne hp hp' hb hb' => ?_, fun j hj => ?_⟩, r.defers, r.size, r.hm, by rw [revObs_length]; exact r.hl, fun i => (r.tm i).rev⟩
  · rcases hget j p hp with ⟨rfl, rfl⟩ | ⟨hj, q, hq, rfl⟩
    · obtain ⟨h1, xs, h2, h3, h4, h5, h6⟩ := hobk
      exact ⟨by simp [Gh.rev], xs, by simpa [Gh.rev] using h2, h3, h4, h5, by simpa [Gh.rev] using h6⟩
    · have := I.obs j q hq
      cases q with
      | pv cs =>
        obtain ⟨h1, b, vs, e', h2, h3, h4, h5, h6, h7, h8⟩ := this
        refine ⟨by simpa [Gh.rev, hj] using h1, b, vs, e', by simpa [Gh.rev, hj] using h2, h3, h4, by rw [T.revL_map]; simpa using h5, fun i x u hx hu => ?_, h7, h8⟩
        rw [T.revL_map] at hx
        simp only [List.getElem?_map, Option.map_eq_some_iff] at hx
        obtain ⟨y, hy, rfl⟩ := hx
        exact (h6 i y u hy hu).rev
      | gr z' e' rows' n' pub' =>
        obtain ⟨h1, xs, h2, h3, h4, h5, h6⟩ := this
        exact ⟨by simpa [Gh.rev, hj] using h1, xs, by simpa [Gh.rev, hj] using h2, h3, h4, h5, by simpa [Gh.rev, hj] using h6⟩
      | x X n' =>
        obtain ⟨h1, h2⟩ := this
        exact ⟨by simpa [Gh.rev, hj] using h1, by simpa [Gh.rev, hj] using h2⟩
      | dead => trivial
      | new => simpa [ObOK, Ob.rev, Gh.rev, hj] using this
  · rw [revObs_length] at hj
    have : ¬ j = k := by omega
    simp [Gh.rev, this, I.lim j hj]
  · have same : ∀ (i : Nat) (p : Ob), (revObs k n S.ob 0)[i]? = some p → ∃ q, S.ob[i]? = some q ∧ ∀ b, (g.rev k n).at i p b → g.at i q b := fun i p hp => by
      rcases hget i p hp with ⟨rfl, rfl⟩ | ⟨hi, q, hq, rfl⟩
      · exact ⟨_, hk, fun b hb => by simpa [Gh.at, Gh.rev] using hb⟩
      · exact ⟨q, hq, fun b hb => (hat i q b hi).1 hb⟩
    obtain ⟨q, hq, hqb⟩ := same j p hp
    obtain ⟨q', hq', hqb'⟩ := same j' p' hp'
    exact I.dis j j' q q' b hne hq hq' (hqb b hb) (hqb' b hb')
  · have : ¬ j = k := by have := r.hm; omega
    simpa [Gh.rev, this] using I.ext j hj

/-! ### an object goes to another place -/

mutual
def T.mov (k n K : Nat) : T → T
  | .d x => .d x
  | .agg cs => .agg (T.movL k n K cs)
  | .tup cs => .tup (T.movL k n K cs)
  | .clo f cs => .clo f (T.movL k n K cs)
  | .lp l off => bif Nat.beq l k || Nat.beq l K then .any else .lp l off
  | .og j m => bif Nat.beq j k then (bif Nat.beq m n then .og K 0 else .any) else bif Nat.beq j K then .any else .og j m
  | .ea r off => .ea r off
  | .eg j m z i off => bif Nat.beq j k || Nat.beq j K then .any else .eg j m z i off
  | .any => .any
def T.movL (k n K : Nat) : List T → List T
  | [] => []
  | t :: r => T.mov k n K t :: T.movL k n K r
end

theorem T.movL_map (k n K : Nat) : ∀ cs, T.movL k n K cs = cs.map (T.mov k n K)
  | [] => by simp [T.movL]
  | t :: r => by simp [T.movL, T.movL_map k n K r]

def Ob.mov (k n K : Nat) : Ob → Ob
  | .pv cs => .pv (T.movL k n K cs)
  | o => o

/-- The objects when k has gone; what stands at K is G. -/
def movObs (k n K : Nat) (G : Ob) : List Ob → Nat → List Ob
  | [], _ => []
  | o :: r, i => (bif Nat.beq i k then .dead else bif Nat.beq i K then G else Ob.mov k n K o) :: movObs k n K G r (i + 1)

theorem movObs_at (k n K : Nat) (G : Ob) : ∀ (l : List Ob) (i j : Nat), (movObs k n K G l i)[j]? = (l[j]?).map fun o => (bif Nat.beq (i + j) k then .dead else bif Nat.beq (i + j) K then G else Ob.mov k n K o)
  | [], i, j => by simp [movObs]
  | o :: r, i, 0 => by simp [movObs]
  | o :: r, i, j + 1 => by
    simp only [movObs, List.getElem?_cons_succ]
    rw [movObs_at k n K G r (i + 1) j, show i + 1 + j = i + (j + 1) by omega]

theorem movObs_length (k n K : Nat) (G : Ob) : ∀ (l : List Ob) (i : Nat), (movObs k n K G l i).length = l.length
  | [], i => rfl
  | o :: r, i => by simp [movObs, movObs_length k n K G r]

def Gh.mov (g : Gh) (k n K : Nat) : Gh := { σ := g.σ, foot := g.foot, γ := fun j m => if j = K then g.γ k n else g.γ j m, lim := fun j => if j = K then 1 else g.lim j }

theorem RT.mov {g : Gh} {k n K : Nat} {t : T} {u : Value} (h : RT g t u) : RT (g.mov k n K) (t.mov k n K) u := by
  induction h with
  | d x u h => exact .d x u h
  | agg cs vs hl h ih =>
    simp only [T.mov, T.movL_map]
    refine .agg _ vs (by simpa using hl) fun i x u hx hu => ?_
    simp only [List.getElem?_map, Option.map_eq_some_iff] at hx
    obtain ⟨y, hy, rfl⟩ := hx
    exact ih i y u hy hu
  | tup cs vs hl h ih =>
    simp only [T.mov, T.movL_map]
    refine .tup _ vs (by simpa using hl) fun i x u hx hu => ?_
    simp only [List.getElem?_map, Option.map_eq_some_iff] at hx
    obtain ⟨y, hy, rfl⟩ := hx
    exact ih i y u hy hu
  | lp l off b h0 h =>
    simp only [T.mov]
    by_cases hj : l = k ∨ l = K
    · rw [show (Nat.beq l k || Nat.beq l K) = true by rcases hj with rfl | rfl <;> simp, cond_true]
      exact .any _
    · rw [not_or] at hj
      rw [nbeq hj.1, nbeq hj.2, Bool.or_false, cond_false]
      exact .lp l off b (by simpa [Gh.mov, hj.2] using h0) (by simpa [Gh.mov, hj.2] using h)
  | og j m h =>
    simp only [T.mov]
    by_cases hj : j = k
    · subst hj
      rw [show Nat.beq j j = true by simp, cond_true]
      by_cases hm : m = n
      · subst hm
        rw [show Nat.beq m m = true by simp, cond_true]
        have := RT.og (g := g.mov j m K) K 0 (by simp [Gh.mov])
        simpa [Gh.mov] using this
      · rw [nbeq hm, cond_false]; exact .any _
    · rw [nbeq hj, cond_false]
      by_cases hne : j = K
      · subst hne
        rw [show Nat.beq j j = true by simp, cond_true]; exact .any _
      · rw [nbeq hne, cond_false]
        have := RT.og (g := g.mov k n K) j m (by simpa [Gh.mov, hne] using h)
        simpa [Gh.mov, hne] using this
  | ea r off b o U hc hr => exact .ea r off b o U hc hr
  | eg j m z i off b len cap h hg =>
    simp only [T.mov]
    by_cases hj : j = k ∨ j = K
    · rw [show (Nat.beq j k || Nat.beq j K) = true by rcases hj with rfl | rfl <;> simp, cond_true]
      exact .any _
    · rw [not_or] at hj
      rw [nbeq hj.1, nbeq hj.2, Bool.or_false, cond_false]
      exact .eg j m z i off b len cap (by simpa [Gh.mov, hj.2] using h) (by simpa [Gh.mov, hj.2] using hg)
  | clo f cs vs hl h ih =>
    simp only [T.mov, T.movL_map]
    refine .clo f _ vs (by simpa using hl) fun i x u hx hu => ?_
    simp only [List.getElem?_map, Option.map_eq_some_iff] at hx
    obtain ⟨y, hy, rfl⟩ := hx
    exact ih i y u hy hu
  | any u => exact .any u

theorem Rel.mov {N : Nm} {S : St} {w0 : World} {σ0 : Bs} {a : Act} {w : World} {g : Gh} (r : Rel N w0 σ0 S a w g) {k n K : Nat} {z : Nat} {e : TypeId} {rows : List (List D)} {pub : Bool} (hk : S.ob[k]? = some (.gr z e rows n pub)) (hkK : k ≠ K) (hKm : N.m ≤ K)
    (L' : List Ob) (hget : ∀ (j : Nat) (p : Ob), L'[j]? = some p → (j = K ∧ p = .gr z e rows 0 pub) ∨ (j = k ∧ p = .dead) ∨ (j ≠ k ∧ j ≠ K ∧ ∃ q, S.ob[j]? = some q ∧ p = q.mov k n K)) (hlen : S.ob.length ≤ L'.length) (hKl : K < L'.length) :
    Rel N w0 σ0 ⟨fun i => (S.tm i).mov k n K, L'⟩ a w (g.mov k n K) := by
  have I := r.inv
  have hobk := I.obs k _ hk
  have hat : ∀ (j : Nat) (q : Ob) (b : Nat), j ≠ K → ((g.mov k n K).at j (q.mov k n K) b ↔ g.at j q b) := fun j q b hj => by
    cases q <;> simp [Gh.at, Ob.mov, Gh.mov, hj]
  refine ⟨⟨I.below, I.old, I.con, fun j p hp => ?_, fun j hj => ?_, fun j j' p p' b hne hp hp' hb hb' => ?_, fun j hj => ?_⟩, r.defers, r.size, r.hm, Nat.le_trans r.hl hlen, fun i => (r.tm i).mov⟩
  · rcases hget j p hp with ⟨rfl, rfl⟩ | ⟨rfl, rfl⟩ | ⟨hj, hjn, q, hq, rfl⟩
    · obtain ⟨h1, xs, h2, h3, h4, h5, h6⟩ := hobk
      exact ⟨by simp [Gh.mov], xs, by simpa [Gh.mov] using h2, h3, h4, h5, by simpa [Gh.mov] using h6⟩
    · trivial
    · have := I.obs j q hq
      cases q with
      | pv cs =>
        obtain ⟨h1, b, vs, e', h2, h3, h4, h5, h6, h7, h8⟩ := this
        refine ⟨by simpa [Gh.mov, hjn] using h1, b, vs, e', by simpa [Gh.mov, hjn] using h2, h3, h4, by rw [T.movL_map]; simpa using h5, fun i x u hx hu => ?_, h7, h8⟩
        rw [T.movL_map] at hx
        simp only [List.getElem?_map, Option.map_eq_some_iff] at hx
        obtain ⟨y, hy, rfl⟩ := hx
        exact (h6 i y u hy hu).mov
      | gr z' e' rows' n' pub' =>
        obtain ⟨h1, xs, h2, h3, h4, h5, h6⟩ := this
        exact ⟨by simpa [Gh.mov, hjn] using h1, xs, by simpa [Gh.mov, hjn] using h2, h3, h4, h5, by simpa [Gh.mov, hjn] using h6⟩
      | x X n' =>
        obtain ⟨h1, h2⟩ := this
        exact ⟨by simpa [Gh.mov, hjn] using h1, by simpa [Gh.mov, hjn] using h2⟩
      | dead => trivial
      | new => simpa [ObOK, Ob.mov, Gh.mov, hjn] using this
  · have hj' : L'.length ≤ j := hj
    have : ¬ j = K := by omega
    simp [Gh.mov, this, I.lim j (by omega)]
  · have same : ∀ (i : Nat) (p : Ob), L'[i]? = some p → (g.mov k n K).at i p b → ∃ i' q, S.ob[i']? = some q ∧ g.at i' q b ∧ (i = K ∧ i' = k ∨ i = i' ∧ i ≠ k ∧ i ≠ K) := fun i p hp hb => by
      rcases hget i p hp with ⟨rfl, rfl⟩ | ⟨rfl, rfl⟩ | ⟨hi, hil, q, hq, rfl⟩
      · exact ⟨k, _, hk, by simpa [Gh.at, Gh.mov] using hb, .inl ⟨rfl, rfl⟩⟩
      · simp [Gh.at] at hb
      · exact ⟨i, q, hq, (hat i q b hil).1 hb, .inr ⟨rfl, hi, hil⟩⟩
    obtain ⟨i, q, hq, hqb, hi⟩ := same j p hp hb
    obtain ⟨i', q', hq', hqb', hi'⟩ := same j' p' hp' hb'
    refine I.dis i i' q q' b (fun e => hne ?_) hq hq' hqb hqb'
    omega
  · have : ¬ j = K := by have := r.hm; omega
    simpa [Gh.mov, this] using I.ext j hj

/-- Object k (a lent one too) goes on as an own object at the end of the list; its old place is dead. -/
theorem St.imp.mov {N : Nm} {S : St} (k n : Nat) {K : Nat} {z : Nat} {e : TypeId} {rows : List (List D)} {pub : Bool} (hk : S.ob[k]? = some (.gr z e rows n pub)) (hK : K = S.ob.length) :
    St.imp N S ⟨fun i => (S.tm i).mov k n K, movObs k n K .dead S.ob 0 ++ [.gr z e rows 0 pub]⟩ := fun w0 σ0 a w g r => by
  subst hK
  have hlt : k < S.ob.length := (List.getElem?_eq_some_iff.1 hk).1
  refine ⟨_, r.mov hk (by omega) r.hl _ (fun j p hp => ?_) (by simp [movObs_length]) (by simp [movObs_length])⟩
  by_cases hj : j < S.ob.length
  · rw [List.getElem?_append_left (by rw [movObs_length]; exact hj), movObs_at, Nat.zero_add] at hp
    by_cases hjk : j = k
    · subst hjk
      rw [hk] at hp
      simp only [Option.map_some, Option.some.injEq, show Nat.beq j j = true by simp, cond_true] at hp
      exact .inr (.inl ⟨rfl, hp.symm⟩)
    · have hjK : ¬ j = S.ob.length := by omega
      cases hq : S.ob[j]? with
      | none => rw [hq] at hp; simp at hp
      | some q =>
        rw [hq] at hp
        simp only [Option.map_some, Option.some.injEq, nbeq hjk, nbeq hjK, cond_false] at hp
        exact .inr (.inr ⟨hjk, hjK, q, rfl, hp.symm⟩)
  · rw [List.getElem?_append_right (by rw [movObs_length]; omega), movObs_length] at hp
    by_cases hj0 : j - S.ob.length = 0
    · rw [hj0] at hp
      simp only [List.getElem?_cons_zero, Option.some.injEq] at hp
      exact .inl ⟨by omega, hp.symm⟩
    · rw [List.getElem?_eq_none (by simp; omega)] at hp
      cases hp

/-- Object k goes to the place K of a dead one. -/
theorem St.imp.movD {N : Nm} {S : St} (k n K : Nat) {z : Nat} {e : TypeId} {rows : List (List D)} {pub : Bool} (hk : S.ob[k]? = some (.gr z e rows n pub)) (hK : S.ob[K]? = some .dead) (hm : Nat.ble N.m K = true := by rfl) :
    St.imp N S ⟨fun i => (S.tm i).mov k n K, movObs k n K (.gr z e rows 0 pub) S.ob 0⟩ := fun w0 σ0 a w g r => by
  have hlt : k < S.ob.length := (List.getElem?_eq_some_iff.1 hk).1
  have hltK : K < S.ob.length := (List.getElem?_eq_some_iff.1 hK).1
  have hne : k ≠ K := fun e' => by subst e'; rw [hk] at hK; cases hK
  refine ⟨_, r.mov hk hne (Nat.le_of_ble_eq_true hm) _ (fun j p hp => ?_) (by simp [movObs_length]) (by simpa [movObs_length] using hltK)⟩
  rw [movObs_at, Nat.zero_add] at hp
  by_cases hjk : j = k
  · subst hjk
    rw [hk] at hp
    simp only [Option.map_some, Option.some.injEq, show Nat.beq j j = true by simp, cond_true] at hp
    exact .inr (.inl ⟨rfl, hp.symm⟩)
  · by_cases hjK : j = K
    · subst hjK
      rw [hK] at hp
      simp only [Option.map_some, Option.some.injEq, nbeq hjk, show Nat.beq j j = true by simp, cond_true, cond_false] at hp
      exact .inl ⟨rfl, hp.symm⟩
    · cases hq : S.ob[j]? with
      | none => rw [hq] at hp; simp at hp
      | some q =>
        rw [hq] at hp
        simp only [Option.map_some, Option.some.injEq, nbeq hjk, nbeq hjK, cond_false] at hp
        exact .inr (.inr ⟨hjk, hjK, q, rfl, hp.symm⟩)

theorem WG.legm {E : Env} {N : Nm} {Q : Exit → St → Prop} {tm : Nat → T} {ob : List Ob} {ops l : List Oper} {ty : TypeId} {pos : String} {after : Array Edge} {gd : Option (Nat × Bool)} {d : Nat} {G : List Nat}
    {α : Type} [Inhabited α] {f f' : α → List D} {xs : List α} {t : TypeId} {x : Operand} {z : Nat} {e' : TypeId} {n m i off : Nat} {pub : Bool} {res : D} (hw : St.want ⟨tm, ob⟩ ops ⟨some d, .load t x, ty, pos, after, gd⟩ = some true) (hd : Nat.blt d N.n = true)
    (hk : (E.ty t).known = true) (hx : St.ev ⟨tm, ob⟩ x = .eg m n z i off) (hm : ob[m]? = some (.gr z e' (xs.map f) n pub)) (hf : ∀ x, f x = f' x) (hi : i < xs.length)
    (hres : (bif (E.ty t).agg then (bif Nat.ble (off + (E.ty t).size) (f' (xs.getD i default)).length then some (.agg (((f' (xs.getD i default)).drop off).take (E.ty t).size)) else none) else (f' (xs.getD i default))[off]?) = some res)
    (kk : WG G E.P N ops l Q ⟨upd tm d (.d res), ob⟩) : WG G E.P N ops (⟨some d, .load t x, ty, pos, after, gd⟩ :: l) Q ⟨tm, ob⟩ :=
  WG.leg hw hd hk hx hm (r := f' (xs.getD i default)) (by rw [← hf]; simp [hi]) hres kk
theorem WG.legm' {E : Env} {N : Nm} {Q : Exit → St → Prop} {tm : Nat → T} {ob : List Ob} {ops l : List Oper} {ty : TypeId} {pos : String} {after : Array Edge} {gd : Option (Nat × Bool)} {d : Nat} {G : List Nat} {α : Type} [Inhabited α] {f f' : α → List D} {xs : List α} {t : TypeId} {x : Operand} {z : Nat} {e' : TypeId} {n m i off : Nat} {pub : Bool} {res : D} (kk : WG G E.P N ops l Q ⟨upd tm d (.d res), ob⟩)
    (hw : St.want ⟨tm, ob⟩ ops ⟨some d, .load t x, ty, pos, after, gd⟩ = some true := by exact rfl) (hd : Nat.blt d N.n = true := by exact rfl) (hk : (E.ty t).known = true := by exact rfl) (hx : St.ev ⟨tm, ob⟩ x = .eg m n z i off := by exact rfl) (hm : ob[m]? = some (.gr z e' (xs.map f) n pub) := by exact rfl) (hf : ∀ x, f x = f' x := by exact fun _ => rfl) (hi : i < xs.length := by first | exact trivial | (simp only [inRange, List.length_map]; omega) | omega | assumption) (hres : (bif (E.ty t).agg then (bif Nat.ble (off + (E.ty t).size) (f' (xs.getD i default)).length then some (.agg (((f' (xs.getD i default)).drop off).take (E.ty t).size)) else none) else (f' (xs.getD i default))[off]?) = some res := by exact rfl) : WG G E.P N ops (⟨some d, .load t x, ty, pos, after, gd⟩ :: l) Q ⟨tm, ob⟩ :=
  WG.legm hw hd hk hx hm hf hi hres kk

/-! ### loops -/

def loopI (N : Nm) (I : Nat → St → Prop) (n : Nat) (Q : Exit → St → Prop) : Exit → St → Prop
  | .normal, S => ∃ m S', m < n ∧ I m S' ∧ St.imp N S S'
  | e, S => Q e S

open Classical in
theorem W.loopI {P : Program} {N : Nm} {c : Code} {Q : Exit → St → Prop} {S : St} (I : Nat → St → Prop) (n : Nat) (S' : St) (h0 : I n S') (hle : St.imp N S S') (round : ∀ n S, I n S → W P N c (loopI N I n Q) S) :
    W P N (.loop c) Q S := fun w0 σ0 a w g r => by
  let J : Act → World → Nat → Prop := fun a w n => ∃ S g, I n S ∧ Rel N w0 σ0 S a w g
  have hμ : ∀ a w, (∃ n, J a w n) → ∃ n, J a w n ∧ ∀ m, J a w m → n ≤ m := fun a w h => exists_least h
  let μ : Act → World → Nat := fun a w => if h : ∃ n, J a w n then Classical.choose (hμ a w h) else 0
  refine wp_loop (fun a w => ∃ n, J a w n) μ ?_ ?_
  · obtain ⟨g', r'⟩ := hle w0 σ0 a w g r
    exact ⟨n, S', g', h0, r'⟩
  · intro a w hI
    obtain ⟨hJ, hleast⟩ := Classical.choose_spec (hμ a w hI)
    have hμe : μ a w = Classical.choose (hμ a w hI) := by simp only [μ]; rw [dif_pos hI]
    rw [← hμe] at hJ hleast
    obtain ⟨S1, g1, hI1, r1⟩ := hJ
    refine wp_mono (round _ _ hI1 w0 σ0 a w g1 r1) fun e a' w' ⟨S2, g2, q, r2⟩ => ?_
    cases e with
    | normal =>
      obtain ⟨m, S3, hm, hI3, hle3⟩ := q
      obtain ⟨g3, r3⟩ := hle3 w0 σ0 a' w' g2 r2
      have hex : ∃ n, J a' w' n := ⟨m, S3, g3, hI3, r3⟩
      refine ⟨hex, ?_⟩
      have := (Classical.choose_spec (hμ a' w' hex)).2 m ⟨S3, g3, hI3, r3⟩
      have e2 : μ a' w' = Classical.choose (hμ a' w' hex) := by simp only [μ]; rw [dif_pos hex]
      show μ a' w' < μ a w
      omega
    | exit id => exact ⟨S2, g2, q, r2⟩
    | goto l => exact ⟨S2, g2, q, r2⟩
    | ret => exact ⟨S2, g2, q, r2⟩
    | panic ch => exact ⟨S2, g2, q, r2⟩
    | outgrown => exact ⟨S2, g2, q, r2⟩
end Go.Proofs.Yteooogngdejdgaa
