/-
  The small logic, tenth part: how a body ends: results that read as data, results that the call has made. Conditions: none.
-/
import Derived.Test.YteooogngdejdgaaPwI
set_option linter.unusedVariables false
set_option linter.unusedSimpArgs false
namespace Go.Proofs.Yteooogngdejdgaa
open Go.RowKit

/-- 'resOK', reckoned by the table of types. -/
def resOKB (E : Env) (S : St) : List ResultVar → Bool
  | [] => true
  | .tmp _ :: r => resOKB E S r
  | .cell a t :: r => (E.ty t).agg && (match S.tm a with
      | .lp l _ => match S.ob[l]? with | some (.pv cs) => Nat.beq (E.ty t).size cs.length | _ => false
      | _ => false) && resOKB E S r

theorem resOK_of {E : Env} {S : St} : ∀ {l : List ResultVar}, resOKB E S l = true → resOK E.P S l
  | [], _ => trivial
  | .tmp _ :: r, h => resOK_of (l := r) h
  | .cell a t :: r, h => by
    simp only [resOKB, Bool.and_eq_true] at h
    obtain ⟨⟨h1, h2⟩, h3⟩ := h
    obtain ⟨hk, fs, hu, _⟩ := E.struct h1
    obtain ⟨i, _, hi, hs, _⟩ := E.info hk
    refine ⟨⟨fs, hu⟩, ?_, resOK_of h3⟩
    split at h2
    · rename_i l off hl
      rw [hl]
      split at h2
      · rename_i cs hcs
        simp only [hcs]
        refine ⟨?_, by rw [hi]; rfl⟩
        rw [← Nat.eq_of_beq_eq_true h2]
        simp [Program.cellsOf, hi, hs]
      · cases h2
    · cases h2

theorem RetQ.mk {P : Program} {fn : Func} {t : T} {ob : List Ob} {e : Exit} {S : St} {ts : List T} {tt : T} (he : e = .ret ∨ e = .normal) (hts : resL S fn.results.toList = some ts) (hok : resOK P S fn.results.toList)
    (hn : norm S.ob (resT ts) = tt) (ht : tt = t) (ho : obsLe ob.length ob S.ob) (hu : t.under ob.length = true) : RetQ P fn t ob e S := by
  subst ht; subst hn
  exact ⟨he, ts, hts, hok, Fin.norm (Fin.drop ho hu)⟩

theorem RetQ.b {P : Program} {fn : Func} {e : Exit} {S : St} {ts : List T} {x y : Bool} (he : e = .ret ∨ e = .normal) (hts : resL S fn.results.toList = some ts) (hok : resOK P S fn.results.toList)
    (hn : norm S.ob (resT ts) = .d (.v (.bool x))) (h : x = y) : RetR P fn 0 (just (.d (.v (.bool y))) []) e S := (RetQ.mk (ob := []) he hts hok hn (by rw [h]) trivial rfl).r ⟨rfl, rfl⟩
theorem RetQ.b' {P : Program} {fn : Func} {e : Exit} {S : St} {ts : List T} {x y : Bool} (h : x = y)
    (he : e = .ret ∨ e = .normal := by exact .inl rfl) (hts : resL S fn.results.toList = some ts := by exact rfl) (hok : resOK P S fn.results.toList := by first | trivial | exact resOK_of (by exact rfl)) (hn : norm S.ob (resT ts) = .d (.v (.bool x)) := by exact rfl) : RetR P fn 0 (just (.d (.v (.bool y))) []) e S :=
  RetQ.b he hts hok hn h

theorem RetQ.i {P : Program} {fn : Func} {e : Exit} {S : St} {ts : List T} {k k' : IntKind} {x y : Int} (he : e = .ret ∨ e = .normal) (hts : resL S fn.results.toList = some ts) (hok : resOK P S fn.results.toList)
    (hn : norm S.ob (resT ts) = .d (.v (.int k x))) (hk : k = k') (h : x = y) : RetR P fn 0 (just (.d (.v (.int k' y))) []) e S := (RetQ.mk (ob := []) he hts hok hn (by rw [h, hk]) trivial rfl).r ⟨rfl, rfl⟩
theorem RetQ.i' {P : Program} {fn : Func} {e : Exit} {S : St} {ts : List T} {k k' : IntKind} {x y : Int} (h : x = y)
    (he : e = .ret ∨ e = .normal := by exact .inl rfl) (hts : resL S fn.results.toList = some ts := by exact rfl) (hok : resOK P S fn.results.toList := by first | trivial | exact resOK_of (by exact rfl)) (hn : norm S.ob (resT ts) = .d (.v (.int k x)) := by exact rfl) (hk : k = k' := by exact rfl) : RetR P fn 0 (just (.d (.v (.int k' y))) []) e S :=
  RetQ.i he hts hok hn hk h

theorem RetQ.d {P : Program} {fn : Func} {e : Exit} {S : St} {ts : List T} {x y : D} (he : e = .ret ∨ e = .normal) (hts : resL S fn.results.toList = some ts) (hok : resOK P S fn.results.toList)
    (hn : norm S.ob (resT ts) = .d x) (h : x = y) : RetR P fn 0 (just (.d y) []) e S := (RetQ.mk (ob := []) he hts hok hn (by rw [h]) trivial rfl).r ⟨rfl, rfl⟩
theorem RetQ.d' {P : Program} {fn : Func} {e : Exit} {S : St} {ts : List T} {x y : D} (h : x = y)
    (he : e = .ret ∨ e = .normal := by exact .inl rfl) (hts : resL S fn.results.toList = some ts := by exact rfl) (hok : resOK P S fn.results.toList := by first | trivial | exact resOK_of (by exact rfl)) (hn : norm S.ob (resT ts) = .d x := by exact rfl) : RetR P fn 0 (just (.d y) []) e S :=
  RetQ.d he hts hok hn h

theorem RetQ.t2 {P : Program} {fn : Func} {e : Exit} {S : St} {ts : List T} {x x' y y' : D} (he : e = .ret ∨ e = .normal) (hts : resL S fn.results.toList = some ts) (hok : resOK P S fn.results.toList)
    (hn : norm S.ob (resT ts) = .tup [.d x, .d x']) (h : x = y) (h' : x' = y') : RetR P fn 0 (just (.tup [.d y, .d y']) []) e S := (RetQ.mk (ob := []) he hts hok hn (by rw [h, h']) trivial rfl).r ⟨rfl, rfl⟩
theorem RetQ.t2' {P : Program} {fn : Func} {e : Exit} {S : St} {ts : List T} {x x' y y' : D} (h : x = y) (h' : x' = y')
    (he : e = .ret ∨ e = .normal := by exact .inl rfl) (hts : resL S fn.results.toList = some ts := by exact rfl) (hok : resOK P S fn.results.toList := by first | trivial | exact resOK_of (by exact rfl)) (hn : norm S.ob (resT ts) = .tup [.d x, .d x'] := by exact rfl) : RetR P fn 0 (just (.tup [.d y, .d y']) []) e S :=
  RetQ.t2 he hts hok hn h h'

theorem RetQ.t3 {P : Program} {fn : Func} {e : Exit} {S : St} {ts : List T} {x x' x2 y y' y2 : D} (he : e = .ret ∨ e = .normal) (hts : resL S fn.results.toList = some ts) (hok : resOK P S fn.results.toList)
    (hn : norm S.ob (resT ts) = .tup [.d x, .d x', .d x2]) (h : x = y) (h' : x' = y') (h2 : x2 = y2) : RetR P fn 0 (just (.tup [.d y, .d y', .d y2]) []) e S := (RetQ.mk (ob := []) he hts hok hn (by rw [h, h', h2]) trivial rfl).r ⟨rfl, rfl⟩
theorem RetQ.t3' {P : Program} {fn : Func} {e : Exit} {S : St} {ts : List T} {x x' x2 y y' y2 : D} (h : x = y) (h' : x' = y') (h2 : x2 = y2)
    (he : e = .ret ∨ e = .normal := by exact .inl rfl) (hts : resL S fn.results.toList = some ts := by exact rfl) (hok : resOK P S fn.results.toList := by first | trivial | exact resOK_of (by exact rfl)) (hn : norm S.ob (resT ts) = .tup [.d x, .d x', .d x2] := by exact rfl) : RetR P fn 0 (just (.tup [.d y, .d y', .d y2]) []) e S :=
  RetQ.t3 he hts hok hn h h' h2

theorem RetQ.pub {P : Program} {fn : Func} {t : T} {ob : List Ob} {e : Exit} {S : St} (k : Nat) {z : Nat} {e' : TypeId} {rows : List (List D)} {n : Nat} (hk : S.ob[k]? = some (.gr z e' rows n false))
    (hres : ∀ x, resOf { S with ob := S.ob.set k (.gr z e' rows n true) } x = resOf S x) (hok : resOK P S fn.results.toList)
    (h : RetQ P fn t ob e { S with ob := S.ob.set k (.gr z e' rows n true) }) : RetQ P fn t ob e S := by
  obtain ⟨he, ts, h1, _, h3⟩ := h
  have e1 : ∀ l, resL { S with ob := S.ob.set k (.gr z e' rows n true) } l = resL S l := by
    intro l
    induction l with
    | nil => rfl
    | cons x r ih => simp only [resL, hres, ih]
  exact ⟨he, ts, (e1 _).symm.trans h1, hok, Fin.pub k hk h3⟩

/-! ### results that the call has made -/

def renOKL (r : Rn) : Nat → List Ob → Bool
  | _, [] => true
  | i, o :: l => o.renOK r i && renOKL r (i + 1) l

theorem renOKL_at {r : Rn} : ∀ {l : List Ob} {i : Nat}, renOKL r i l = true → ∀ (k : Nat) (o : Ob), l[k]? = some o → o.renOK r (i + k) = true
  | [], i, _, k, o, h => by simp at h
  | p :: l, i, h, k, o, hk => by
    simp only [renOKL, Bool.and_eq_true] at h
    cases k with
    | zero => simp at hk; subst hk; exact h.1
    | succ k =>
      have := renOKL_at h.2 k o (by simpa using hk)
      rwa [show i + 1 + k = i + (k + 1) by omega] at this

/-- What was lent keeps its place. -/
def idxOK (r : Rn) : Nat → Bool
  | 0 => true
  | n + 1 => idxOK r n && (Nat.ble r.idx.length n || (Nat.beq (r.ix n) n && Nat.beq (r.of n) 0))

theorem idxOK_at {r : Rn} : ∀ {n : Nat}, idxOK r n = true → ∀ k, k < n → k < r.idx.length → r.ix k = k ∧ r.of k = 0
  | 0, _, k, h, _ => by omega
  | n + 1, h, k, hk, hl => by
    simp only [idxOK, Bool.and_eq_true, Bool.or_eq_true] at h
    by_cases e : k = n
    · subst e
      rcases h.2 with h2 | h2
      · have := Nat.le_of_ble_eq_true h2; omega
      · exact ⟨Nat.eq_of_beq_eq_true h2.1, Nat.eq_of_beq_eq_true h2.2⟩
    · exact idxOK_at h.1 k (by omega) hl

theorem Inv.pullF {w0 : World} {σ0 : Bs} {ob ob' : List Ob} {w : World} {g : Gh} (I : Inv w0 σ0 ob w g) {r : Rn} (hK : r.K = ob.length) (hnd : r.idx.Nodup) (hA : ob'.length = r.idx.length) (hs : renOKL r 0 ob' = true) (hmt : matchO r ob 0 ob')
    (hm : ∀ k, k < σ0.m → k < r.idx.length → r.ix k = k ∧ r.of k = 0) : Inv w0 σ0 ob' w (g.pull r) := by
  have hK' : ∀ k, r.K ≤ k → g.lim k = 0 := fun k hk => I.lim k (by omega)
  have hobs : ∀ (k : Nat) (o : Ob), ob'[k]? = some o → k < r.idx.length ∧ ObOK (mineB w0 σ0) (g.pull r) w k o ∧ (∀ b, (g.pull r).at k o b ↔ g.at (r.ix k) (o.ren r k) b) ∧ ob[r.ix k]? = some (o.ren r k) := fun k o hk => by
    have h1 := renOKL_at hs k o hk
    have h2 := matchO_at hmt k o hk
    rw [Nat.zero_add] at h1 h2
    have hlt : k < r.idx.length := by rw [← hA]; exact (List.getElem?_eq_some_iff.1 hk).1
    obtain ⟨p1, p2⟩ := (I.obs _ _ h2).pull hK' hlt h1
    exact ⟨hlt, p1, p2, h2⟩
  refine ⟨I.below, I.old, I.con, fun k o hk => (hobs k o hk).2.1, fun k hk => ?_, fun k k' o o' b hne ho ho' hb hb' => ?_, fun k hk => ?_⟩
  · simp only [Gh.pull]
    rw [if_neg (by omega)]
  · obtain ⟨hlt, _, q1, q2⟩ := hobs k o ho
    obtain ⟨hlt', _, q1', q2'⟩ := hobs k' o' ho'
    have e1 := Rn.ix_lt (r := r) (List.getElem?_eq_getElem hlt)
    have e2 := Rn.ix_lt (r := r) (List.getElem?_eq_getElem hlt')
    refine I.dis _ _ _ _ b (fun e => hne ?_) q2 q2' ((q1 b).1 hb) ((q1' b).1 hb')
    rw [e1, e2] at e
    exact (List.getElem_inj hnd).1 e
  · by_cases h : k < r.idx.length
    · obtain ⟨h1, h2⟩ := hm k hk h
      rcases I.ext k hk with h3 | h3
      · left; simp only [Gh.pull, h1, h2, if_pos h, h3]
      · right; simp only [Gh.pull, h1, h2]; exact h3
    · left; simp only [Gh.pull, if_neg h]

/-- A result that names what the call has made. -/
theorem RetR.own {P : Program} {fn : Func} {m : Nat} {R : T → List Ob → Prop} {t : T} {ob' : List Ob} {e : Exit} {S : St} {ts : List T} (r : Rn) (he : e = .ret ∨ e = .normal) (hts : resL S fn.results.toList = some ts) (hok : resOK P S fn.results.toList)
    (hn : norm S.ob (resT ts) = T.ren r t) (hlp : T.lpOK r t = true) (hK : r.K = S.ob.length) (hnd : nodupB r.idx = true) (hA : Nat.beq ob'.length r.idx.length = true) (hs : renOKL r 0 ob' = true) (hmt : matchO r S.ob 0 ob') (hm : idxOK r m = true)
    (hR : R t ob') : RetR P fn m R e S := by
  refine ⟨he, ts, hts, hok, fun w0 σ0 w g v hm0 I hv => ⟨t, ob', g.pull r, hR, I.pullF hK (nodupB_ok hnd) (Nat.eq_of_beq_eq_true hA) hs hmt (fun k hk hl => idxOK_at hm k (by omega) hl), ?_⟩⟩
  refine RT.pull (fun k hk => I.lim k (by omega)) t v hlp ?_
  rw [← hn]
  exact I.norm hv

/-- One slice that the call has made. -/
theorem RetQ.own {P : Program} {fn : Func} {t : T} {e : Exit} {S : St} {ts : List T} {tt : T} (k n : Nat) {z z' : Nat} {e' e2 : TypeId} {rows rows' : List (List D)} {pub pub' : Bool} (he : e = .ret ∨ e = .normal) (hts : resL S fn.results.toList = some ts) (hok : resOK P S fn.results.toList)
    (hn : norm S.ob (resT ts) = tt) (ht : tt = t.ren ⟨[k], [n], S.ob.length⟩) (hlp : T.lpOK ⟨[k], [n], S.ob.length⟩ t = true) (hk : S.ob[k]? = some (.gr z e' rows n pub)) (hg : Ob.gr z e' rows 0 pub = .gr z' e2 rows' 0 pub') : RetR P fn 0 (just t [.gr z' e2 rows' 0 pub']) e S := by
  subst hn
  rw [← hg]
  exact RetR.own (ob' := [.gr z e' rows 0 pub]) ⟨[k], [n], S.ob.length⟩ he hts hok ht hlp rfl rfl rfl rfl ⟨hk, trivial⟩ rfl ⟨rfl, rfl⟩

/-! ### a nil slice becomes the call's own -/

theorem Inv.adopt {w0 : World} {σ0 : Bs} {ob : List Ob} {w : World} {g : Gh} (I : Inv w0 σ0 ob w g) (hm : σ0.m ≤ ob.length) (z : Nat) (e : TypeId) :
    ∃ g', g.le g' ∧ Inv w0 σ0 (ob ++ [.gr z e [] 0 false]) w g' ∧ RT g' (.og ob.length 0) (.slice none 0 0) :=
  I.addGr hm (Below.refl _ _) z e [] (.slice none 0 0) [] (World.ownsRow_nil w _ _ _) (fun r h => by cases h) (fun i j r x h => by simp at h) (fun u h => by cases h)

theorem W.adoptTm {P : Program} {N : Nm} {c : Code} {Q : Exit → St → Prop} {S : St} (i : Nat) (e : TypeId) {z : Nat} (hi : S.tm i = .d (.nl z))
    (h : W P N c Q ⟨(S.set i (.og S.ob.length 0)).tm, S.ob ++ [.gr z e [] 0 false]⟩) : W P N c Q S := fun w0 σ0 a w g r => by
  obtain ⟨g', hle, I, ht⟩ := r.inv.adopt (by rw [r.hm]; exact r.hl) z e
  refine h w0 σ0 a w g' ⟨I, r.defers, r.size, r.hm, by have := r.hl; simp; omega, fun j => ?_⟩
  by_cases hj : j = i
  · subst hj
    have := r.tm j
    rw [hi] at this
    rw [this.inv_d.inv_nl]
    simp only [St.set, show Nat.beq j j = true by simp, cond_true]
    exact ht
  · simp only [St.set, nbeq hj, cond_false]
    exact (r.tm j).mono hle

theorem W.adoptPv {P : Program} {N : Nm} {c : Code} {Q : Exit → St → Prop} {S : St} (l off : Nat) (e : TypeId) {z : Nat} {cs : List T} (hl : S.ob[l]? = some (.pv cs)) (ho : cs[off]? = some (.d (.nl z)))
    (h : W P N c Q ⟨S.tm, S.ob.set l (.pv (cs.set off (.og S.ob.length 0))) ++ [.gr z e [] 0 false]⟩) : W P N c Q S := fun w0 σ0 a w g r => by
  obtain ⟨g', hle, I, ht⟩ := r.inv.adopt (by rw [r.hm]; exact r.hl) z e
  have hlt : l < S.ob.length := (List.getElem?_eq_some_iff.1 hl).1
  refine h w0 σ0 a w g' ⟨?_, r.defers, r.size, r.hm, by have := r.hl; simp; omega, fun j => (r.tm j).mono hle⟩
  have hl2 : (S.ob ++ [Ob.gr z e [] 0 false])[l]? = some (.pv cs) := by rw [List.getElem?_append_left hlt]; exact hl
  rw [← List.set_append_left _ _ hlt]
  obtain ⟨h1, b, vs, e', h2, h3, h4, h5, h6, h7, h8⟩ := I.obs l _ hl2
  refine I.turn hl2 (fun _ _ _ _ h => by cases h) (by omega) (Gh.le_refl g') rfl (fun _ _ => ⟨rfl, rfl⟩) rfl rfl rfl (Nat.le_refl _) (fun _ _ _ => rfl) ⟨h1, b, vs, e', h2, h3, h4, by simpa using h5, fun i x u hx hu => ?_, h7, h8⟩ fun _ hb => .inl hb
  by_cases hi : off = i
  · subst hi
    have hlo : off < cs.length := (List.getElem?_eq_some_iff.1 ho).1
    rw [List.getElem?_set_self hlo] at hx
    simp only [Option.some.injEq] at hx
    subst hx
    have := (h6 off _ u ho hu).inv_d.inv_nl
    rw [this]
    exact ht
  · rw [List.getElem?_set_ne hi] at hx
    exact h6 i x u hx hu

end Go.Proofs.Yteooogngdejdgaa
