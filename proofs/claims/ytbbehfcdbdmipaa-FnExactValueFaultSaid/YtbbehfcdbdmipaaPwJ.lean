/-
  The small logic, tenth part: how a body ends: results that read as data, results that the call has made. Conditions: none.
-/
import Derived.Test.YtbbehfcdbdmipaaPwI
set_option linter.unusedVariables false
set_option linter.unusedSimpArgs false
namespace Go.Proofs.Ytbbehfcdbdmipaa
open Go.RowKit

/-- 'resOK', reckoned by the table of types. -/
def resOKB (E : Env) (S : St) : List ResultVar → Bool
  | [] => true
  | .tmp _ :: r => resOKB E S r
  | .cell a t :: r => (E.ty t).agg && (match S.tm a with
      | .lp l _ => match S.ob[l]? with | some (.pv cs) => Nat.beq (E.ty t).size cs.length | _ => false
      | _ => false) && resOKB E S r

theorem resOK_of {E : Env} {S : St} : ∀ {l : List ResultVar}, resOKB E S l = true → resOK E.P S l
  | [], _ => trivial
  | .tmp _ :: r, h => resOK_of (l := r) h
  | .cell a t :: r, h => by
    simp only [resOKB, Bool.and_eq_true] at h
    obtain ⟨⟨h1, h2⟩, h3⟩ := h
    obtain ⟨hk, fs, hu, _⟩ := E.struct h1
    obtain ⟨i, _, hi, hs, _⟩ := E.info hk
    refine ⟨⟨fs, hu⟩, ?_, resOK_of h3⟩
    split at h2
    · rename_i l off hl
      rw [hl]
      split at h2
      · rename_i cs hcs
        simp only [hcs]
        refine ⟨?_, by rw [hi]; rfl⟩
        rw [← Nat.eq_of_beq_eq_true h2]
        simp [Program.cellsOf, hi, hs]
      · cases h2
    · cases h2

theorem RetQ.mk {P : Program} {fn : Func} {t : T} {ob : List Ob} {e : Exit} {S : St} {ts : List T} {tt : T} (he : e = .ret ∨ e = .normal) (hts : resL S fn.results.toList = some ts) (hok : resOK P S fn.results.toList)
    (hn : norm S.ob (resT ts) = tt) (ht : tt = t) (ho : obsLe ob.length ob S.ob) (hu : t.under ob.length = true) : RetQ P fn t ob e S := by
  subst ht; subst hn
  exact ⟨he, ts, hts, hok, Fin.norm (Fin.drop ho hu)⟩

theorem RetQ.b {P : Program} {fn : Func} {e : Exit} {S : St} {ts : List T} {x y : Bool} (he : e = .ret ∨ e = .normal) (hts : resL S fn.results.toList = some ts) (hok : resOK P S fn.results.toList)
    (hn : norm S.ob (resT ts) = .d (.v (.bool x))) (h : x = y) : RetQ P fn (.d (.v (.bool y))) [] e S := RetQ.mk he hts hok hn (by rw [h]) trivial rfl
theorem RetQ.i {P : Program} {fn : Func} {e : Exit} {S : St} {ts : List T} {k k' : IntKind} {x y : Int} (he : e = .ret ∨ e = .normal) (hts : resL S fn.results.toList = some ts) (hok : resOK P S fn.results.toList)
    (hn : norm S.ob (resT ts) = .d (.v (.int k x))) (hk : k = k') (h : x = y) : RetQ P fn (.d (.v (.int k' y))) [] e S := RetQ.mk he hts hok hn (by rw [h, hk]) trivial rfl
theorem RetQ.d {P : Program} {fn : Func} {e : Exit} {S : St} {ts : List T} {x y : D} (he : e = .ret ∨ e = .normal) (hts : resL S fn.results.toList = some ts) (hok : resOK P S fn.results.toList)
    (hn : norm S.ob (resT ts) = .d x) (h : x = y) : RetQ P fn (.d y) [] e S := RetQ.mk he hts hok hn (by rw [h]) trivial rfl
theorem RetQ.t2 {P : Program} {fn : Func} {e : Exit} {S : St} {ts : List T} {x x' y y' : D} (he : e = .ret ∨ e = .normal) (hts : resL S fn.results.toList = some ts) (hok : resOK P S fn.results.toList)
    (hn : norm S.ob (resT ts) = .tup [.d x, .d x']) (h : x = y) (h' : x' = y') : RetQ P fn (.tup [.d y, .d y']) [] e S := RetQ.mk he hts hok hn (by rw [h, h']) trivial rfl
theorem RetQ.t3 {P : Program} {fn : Func} {e : Exit} {S : St} {ts : List T} {x x' x2 y y' y2 : D} (he : e = .ret ∨ e = .normal) (hts : resL S fn.results.toList = some ts) (hok : resOK P S fn.results.toList)
    (hn : norm S.ob (resT ts) = .tup [.d x, .d x', .d x2]) (h : x = y) (h' : x' = y') (h2 : x2 = y2) : RetQ P fn (.tup [.d y, .d y', .d y2]) [] e S := RetQ.mk he hts hok hn (by rw [h, h', h2]) trivial rfl

theorem RetQ.pub {P : Program} {fn : Func} {t : T} {ob : List Ob} {e : Exit} {S : St} (k : Nat) {z : Nat} {e' : TypeId} {rows : List (List D)} {n : Nat} (hk : S.ob[k]? = some (.gr z e' rows n false))
    (hres : ∀ x, resOf { S with ob := S.ob.set k (.gr z e' rows n true) } x = resOf S x) (hok : resOK P S fn.results.toList)
    (h : RetQ P fn t ob e { S with ob := S.ob.set k (.gr z e' rows n true) }) : RetQ P fn t ob e S := by
  obtain ⟨he, ts, h1, _, h3⟩ := h
  have e1 : ∀ l, resL { S with ob := S.ob.set k (.gr z e' rows n true) } l = resL S l := by
    intro l
    induction l with
    | nil => rfl
    | cons x r ih => simp only [resL, hres, ih]
  exact ⟨he, ts, (e1 _).symm.trans h1, hok, Fin.pub k hk h3⟩

/-! ### a result that the call has made: one slice -/

mutual
def T.sub (k n : Nat) : T → T
  | .agg cs => .agg (T.subL k n cs)
  | .tup cs => .tup (T.subL k n cs)
  | .og _ _ => .og k n
  | t => t
def T.subL (k n : Nat) : List T → List T
  | [] => []
  | t :: r => T.sub k n t :: T.subL k n r
end

mutual
def T.own1 : T → Bool
  | .d _ => true
  | .agg cs => T.own1L cs
  | .tup cs => T.own1L cs
  | .og 0 0 => true
  | _ => false
def T.own1L : List T → Bool
  | [] => true
  | t :: r => T.own1 t && T.own1L r
end

def Gh.only (g : Gh) (k n : Nat) : Gh := ⟨g.σ, fun _ _ => g.γ k n, fun j => if j = 0 then 1 else 0⟩

mutual
theorem RT.sub {g : Gh} {k n : Nat} : ∀ (t : T) (v : Value), t.own1 = true → RT g (t.sub k n) v → RT (g.only k n) t v
  | .d x, v, _, h => by
    rw [show T.sub k n (.d x) = .d x by simp [T.sub]] at h
    exact .d x v h.inv_d
  | .agg cs, v, ho, h => by
    rw [show T.sub k n (.agg cs) = .agg (T.subL k n cs) by simp [T.sub]] at h
    obtain ⟨vs, rfl, hl, hr⟩ := h.inv_agg
    obtain ⟨h1, h2⟩ := RT.subL cs vs (by simpa [T.own1] using ho) hl hr
    exact .agg cs vs h1 h2
  | .tup cs, v, ho, h => by
    rw [show T.sub k n (.tup cs) = .tup (T.subL k n cs) by simp [T.sub]] at h
    obtain ⟨vs, rfl, hl, hr⟩ := h.inv_tup
    obtain ⟨h1, h2⟩ := RT.subL cs vs (by simpa [T.own1] using ho) hl hr
    exact .tup cs vs h1 h2
  | .og a b, v, ho, h => by
    rw [show T.sub k n (.og a b) = .og k n by simp [T.sub]] at h
    obtain ⟨_, hv⟩ := h.inv_og
    have : a = 0 ∧ b = 0 := by
      cases a <;> cases b <;> simp [T.own1] at ho ⊢
    obtain ⟨rfl, rfl⟩ := this
    rw [hv]
    exact RT.og (g := g.only k n) 0 0 (by simp [Gh.only])
  | .lp _ _, v, ho, h => by simp [T.own1] at ho
  | .ea _ _, v, ho, h => by simp [T.own1] at ho
  | .eg _ _ _ _ _, v, ho, h => by simp [T.own1] at ho
  | .any, v, ho, h => by simp [T.own1] at ho
theorem RT.subL {g : Gh} {k n : Nat} : ∀ (cs : List T) (vs : List Value), T.own1L cs = true → (T.subL k n cs).length = vs.length →
    (∀ (i : Nat) (x : T) (u : Value), (T.subL k n cs)[i]? = some x → vs[i]? = some u → RT g x u) →
    cs.length = vs.length ∧ ∀ (i : Nat) (x : T) (u : Value), cs[i]? = some x → vs[i]? = some u → RT (g.only k n) x u
  | [], vs, _, hl, _ => by
    rw [show T.subL k n [] = [] by simp [T.subL]] at hl
    exact ⟨hl, fun i x u hx => by simp at hx⟩
  | t :: r, vs, ho, hl, hr => by
    rw [show T.subL k n (t :: r) = T.sub k n t :: T.subL k n r by simp [T.subL]] at hl hr
    simp only [T.own1L, Bool.and_eq_true] at ho
    cases vs with
    | nil => simp at hl
    | cons v vs =>
      obtain ⟨h1, h2⟩ := RT.subL r vs ho.2 (by simpa using hl) (fun i x u hx hu => hr (i + 1) x u (by simpa using hx) (by simpa using hu))
      refine ⟨by simp [h1], fun i x u hx hu => ?_⟩
      cases i with
      | zero => simp at hx hu; subst hx; subst hu; exact RT.sub t v ho.1 (hr 0 _ v rfl rfl)
      | succ i => exact h2 i x u (by simpa using hx) (by simpa using hu)
end

theorem Fin.own {ob : List Ob} {t : T} {k n z : Nat} {e : TypeId} {rows : List (List D)} {pub : Bool} (hk : ob[k]? = some (.gr z e rows n pub)) (ho : t.own1 = true) :
    Fin ob (t.sub k n) [.gr z e rows 0 pub] t := fun w0 σ0 w g v I hv => by
  have hok := I.obs k _ hk
  refine ⟨g.only k n, ⟨I.below, I.old, I.con, fun j o hj => ?_, fun j hj => ?_, fun j j' o o' b hne hj hj' => ?_⟩, RT.sub t v ho hv⟩
  · cases j with
    | zero =>
      simp at hj
      subst hj
      exact ⟨by simp [Gh.only], hok.2⟩
    | succ j => simp at hj
  · have : ¬ j = 0 := by simp at hj; omega
    simp [Gh.only, this]
  · cases j with
    | zero =>
      cases j' with
      | zero => exact (hne rfl).elim
      | succ j' => simp at hj'
    | succ j => simp at hj

theorem RetQ.own {P : Program} {fn : Func} {t : T} {e : Exit} {S : St} {ts : List T} {tt : T} (k n : Nat) {z z' : Nat} {e' e2 : TypeId} {rows rows' : List (List D)} {pub pub' : Bool} (he : e = .ret ∨ e = .normal) (hts : resL S fn.results.toList = some ts) (hok : resOK P S fn.results.toList)
    (hn : norm S.ob (resT ts) = tt) (ht : tt = t.sub k n) (hk : S.ob[k]? = some (.gr z e' rows n pub)) (hg : Ob.gr z e' rows 0 pub = .gr z' e2 rows' 0 pub') (ho : t.own1 = true) : RetQ P fn t [.gr z' e2 rows' 0 pub'] e S := by
  subst hn
  refine ⟨he, ts, hts, hok, Fin.norm ?_⟩
  rw [ht, ← hg]
  exact Fin.own hk ho

/-! ### a nil slice becomes the call's own -/

theorem Inv.adopt {w0 : World} {σ0 : Sto} {ob : List Ob} {w : World} {g : Gh} (I : Inv w0 σ0 ob w g) (z : Nat) (e : TypeId) :
    ∃ g', g.le g' ∧ Inv w0 σ0 (ob ++ [.gr z e [] 0 false]) w g' ∧ RT g' (.og ob.length 0) (.slice none 0 0) :=
  I.addGr (Below.refl _ _) z e [] (.slice none 0 0) [] (World.ownsRow_nil w _ _ _) (fun r h => by cases h) (fun i j r x h => by simp at h) (fun u h => by cases h)

theorem W.adoptTm {P : Program} {N : Nat} {c : Code} {Q : Exit → St → Prop} {S : St} (i : Nat) (e : TypeId) {z : Nat} (hi : S.tm i = .d (.nl z))
    (h : W P N c Q ⟨(S.set i (.og S.ob.length 0)).tm, S.ob ++ [.gr z e [] 0 false]⟩) : W P N c Q S := fun w0 σ0 a w g r => by
  obtain ⟨g', hle, I, ht⟩ := r.inv.adopt z e
  refine h w0 σ0 a w g' ⟨I, r.defers, r.size, fun j => ?_⟩
  by_cases hj : j = i
  · subst hj
    have := r.tm j
    rw [hi] at this
    rw [this.inv_d.inv_nl]
    simp only [St.set, show Nat.beq j j = true by simp, cond_true]
    exact ht
  · simp only [St.set, nbeq hj, cond_false]
    exact (r.tm j).mono hle

theorem W.adoptPv {P : Program} {N : Nat} {c : Code} {Q : Exit → St → Prop} {S : St} (l off : Nat) (e : TypeId) {z : Nat} {cs : List T} (hl : S.ob[l]? = some (.pv cs)) (ho : cs[off]? = some (.d (.nl z)))
    (h : W P N c Q ⟨S.tm, S.ob.set l (.pv (cs.set off (.og S.ob.length 0))) ++ [.gr z e [] 0 false]⟩) : W P N c Q S := fun w0 σ0 a w g r => by
  obtain ⟨g', hle, I, ht⟩ := r.inv.adopt z e
  have hlt : l < S.ob.length := (List.getElem?_eq_some_iff.1 hl).1
  refine h w0 σ0 a w g' ⟨?_, r.defers, r.size, fun j => (r.tm j).mono hle⟩
  have hlt2 : l < (S.ob ++ [Ob.gr z e [] 0 false]).length := by simp; omega
  have hl2 : (S.ob ++ [Ob.gr z e [] 0 false])[l]? = some (.pv cs) := by rw [List.getElem?_append_left hlt]; exact hl
  rw [← List.set_append_left _ _ hlt]
  obtain ⟨h1, b, vs, e', h2, h3, h4, h5, h6, h7, h8⟩ := I.obs l _ hl2
  refine ⟨I.below, I.old, I.con, fun k p hp => ?_, fun k hk => I.lim k (by simpa using hk), fun k k' p p' b2 hne hp hp' hb => ?_⟩
  · by_cases hk : l = k
    · subst hk
      rw [List.getElem?_set_self hlt2] at hp
      simp only [Option.some.injEq] at hp
      subst hp
      refine ⟨h1, b, vs, e', h2, h3, h4, by simpa using h5, fun i x u hx hu => ?_, h7, h8⟩
      by_cases hi : off = i
      · subst hi
        have hlo : off < cs.length := (List.getElem?_eq_some_iff.1 ho).1
        rw [List.getElem?_set_self hlo] at hx
        simp only [Option.some.injEq] at hx
        subst hx
        have := (h6 off _ u ho hu).inv_d.inv_nl
        rw [this]
        exact ht
      · rw [List.getElem?_set_ne hi] at hx
        exact h6 i x u hx hu
    · rw [List.getElem?_set_ne hk] at hp
      exact I.obs k p hp
  · have same : ∀ (i : Nat) (p : Ob), ((S.ob ++ [Ob.gr z e [] 0 false]).set l (.pv (cs.set off (.og S.ob.length 0))))[i]? = some p → ∃ q, (S.ob ++ [Ob.gr z e [] 0 false])[i]? = some q ∧ g'.blk i q = g'.blk i p := by
      intro i p hp
      by_cases hi : l = i
      · subst hi
        rw [List.getElem?_set_self hlt2] at hp
        simp only [Option.some.injEq] at hp
        subst hp
        exact ⟨_, hl2, rfl⟩
      · rw [List.getElem?_set_ne hi] at hp
        exact ⟨p, hp, rfl⟩
    obtain ⟨q, hq, hqb⟩ := same k p hp
    obtain ⟨q', hq', hqb'⟩ := same k' p' hp'
    rw [← hqb']
    exact I.dis k k' q q' b2 hne hq hq' (hqb.trans hb)

end Go.Proofs.Ytbbehfcdbdmipaa
