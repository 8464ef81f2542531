/-
  The small logic, twenty-sixth part: a nil slice handed to a callee that appends to it. Conditions: none.
-/
import Derived.Test.YteooogngdejdgaaPwX
import Derived.Lib.LazyBuf
set_option linter.unusedVariables false
set_option linter.unusedSimpArgs false
namespace Go.Proofs.Yteooogngdejdgaa
open Go.RowKit

section
variable {E : Env} {N : Nm} {Q : Exit → St → Prop} {S : St} {ops l : List Oper} {ty : TypeId} {pos : String} {after : Array Edge} {gd : Option (Nat × Bool)} {d : Nat} {tm : Nat → T} {ob : List Ob} {G : List Nat}

/-- A call by its arguments as they are shown to be. -/
theorem Rel.callG {w0 : World} {σ0 : Bs} {a : Act} {w : World} {g : Gh} (R : Rel N w0 σ0 S a w g) {f : FuncId} {fop : Operand} {xs : List Operand} {tys : List TypeId} {cap args : List T} (as : List T) {obA : List Ob} {Rr : T → List Ob → Prop} (r : Rn)
    (hc : FunQ E.P f args obA Rr) (hclo : cloOf (norm S.ob (S.ev fop)) = some (f, cap)) (h1 : as.length = xs.length) (h2 : ∀ (i : Nat) (x : T) (u : Value), as[i]? = some x → (xs.map a.eval)[i]? = some u → RT g x u) (ha : as ++ cap = T.renL r args) (hlp : T.lpOKL r args = true) (hK : r.K = S.ob.length) (hnd : nodupB r.idx = true)
    (hA : Nat.beq obA.length r.idx.length = true) (hs : startL r 0 obA = true) (hmt : matchO r S.ob 0 obA) (hal : ∀ t obB, Rr t obB → aliveN r.idx.length obB = true)
    {dst : Option Nat} (K : Act → World → Prop) (QQ : Exit → Act → World → Prop)
    (k : ∀ t obB, Rr t obB → ∀ v w' g', g.le g' → Inv w0 σ0 (mergeO r 0 S.ob r.idx obB) w' g' → RT g' (t.ren r) v → K (a.put dst v) w') :
    Oper.wp E.P ⟨dst, .call ⟨.value fop, xs.toArray, tys.toArray⟩, ty, pos, after, gd⟩ a w K QQ := by
  have I := R.inv
  obtain ⟨vs, hv, hvl, hvr⟩ := (I.norm (R.ev fop)).clo_of hclo
  have hlen : obA.length = r.idx.length := Nat.eq_of_beq_eq_true hA
  have hK' : ∀ k, r.K ≤ k → g.lim k = 0 := fun k hk => I.lim k (by omega)
  have hown : ∀ i o b, obA[i]? = some o → (g.pull r).at i o b → ∀ x, g.σ b x = none := fun i o b hi hb x => by
    have h3 := startL_at hs i o hi
    have h4 := matchO_at hmt i o hi
    rw [Nat.zero_add] at h3 h4
    simp only [Ob.start, Bool.and_eq_true] at h3
    have hlt : i < r.idx.length := by rw [← hlen]; exact (List.getElem?_eq_some_iff.1 hi).1
    obtain ⟨p1, p2⟩ := (I.obs _ _ h4).pull hK' hlt h3.1
    refine p1.hid (fun z e rows n he => ?_) hb x
    subst he
    simp at h3
  have hst := I.start hK (nodupB_ok hnd) hlen hs hmt g.σ (fun _ _ _ h => h) I.con hown
  unfold Oper.wp
  rw [run_callV hv hc.enter, Oper.upon_enter]
  obtain ⟨p1, p2⟩ := RT.pullL (g := g) (r := r) hK' args (xs.map a.eval ++ vs) hlp (by rw [← ha]; simp [h1, hvl]) (by
    rw [← ha]
    exact app_at (by simp [h1]) h2 hvr)
  refine (hc.calls w _ (xs.map a.eval ++ vs) hst p1.symm p2).mono fun e w' ⟨v, t, obB, g1, he, hR, J, hv⟩ => ?_
  subst he
  obtain ⟨g', hle, I', hmap⟩ := I.behind hK (by rw [R.hm]; exact R.hl) (nodupB_ok hnd) hlen hs hmt g.σ J (.inl fun _ _ => rfl) (hal t obB hR)
  exact k t obB hR v w' g' hle I' (hmap t v hv (.inl fun _ _ => rfl))

/-- The same call, where the operand at p is a nil slice that the callee may append to: an own slice of no rows (of z cells, type e) is lent for it. -/
theorem WG.cqN {f : FuncId} {fop : Operand} {xs : List Operand} {tys : List TypeId} {cap args : List T} {obA obB ob2 : List Ob} {t t' : T} (p : Nat) (e : TypeId) (z : Nat) (idx off : List Nat) {K : Nat} (hw : St.want ⟨tm, ob⟩ ops ⟨some d, .call ⟨.value fop, xs.toArray, tys.toArray⟩, ty, pos, after, gd⟩ = some true) (hd : Nat.blt d N.n = true)
    (hc : FunQ E.P f args obA (just t obB)) (hclo : cloOf (norm (ob ++ [.gr z e [] 0 false]) (St.ev ⟨tm, ob ++ [.gr z e [] 0 false]⟩ fop)) = some (f, cap)) (hp : (xs[p]?).map (St.ev ⟨tm, ob⟩) = some (.d (.v (.slice none 0 0)))) (hK : K = ob.length + 1)
    (ha : (argsT E ⟨tm, ob ++ [.gr z e [] 0 false]⟩ false xs tys).set p (.og ob.length 0) ++ cap = T.renL ⟨idx, off, K⟩ args) (hlp : T.lpOKL ⟨idx, off, K⟩ args = true) (hnd : nodupB idx = true)
    (hA : Nat.beq obA.length idx.length = true) (hs : startL ⟨idx, off, K⟩ 0 obA = true) (hmt : matchO ⟨idx, off, K⟩ (ob ++ [.gr z e [] 0 false]) 0 obA) (hal : aliveN idx.length obB = true)
    (ht : T.ren ⟨idx, off, K⟩ t = t') (ho : mergeO ⟨idx, off, K⟩ 0 (ob ++ [.gr z e [] 0 false]) idx obB = ob2)
    (k : WG G E.P N ops l Q ⟨upd tm d t', ob2⟩) : WG G E.P N ops (⟨some d, .call ⟨.value fop, xs.toArray, tys.toArray⟩, ty, pos, after, gd⟩ :: l) Q ⟨tm, ob⟩ := by
  subst ht; subst ho
  refine WL.oper (S := ⟨tm, ob⟩) hw fun w0 σ0 a w g R => ?_
  obtain ⟨g', hle, I, hnil⟩ := R.inv.adopt (by rw [R.hm]; exact R.hl) z e
  have R' : Rel N w0 σ0 ⟨tm, ob ++ [.gr z e [] 0 false]⟩ a w g' := ⟨I, R.defers, R.size, R.hm, by have := R.hl; simp at this ⊢; omega, fun i => (R.tm i).mono hle⟩
  obtain ⟨h1, h2⟩ := R'.argsL (E := E) false xs tys
  refine R'.callG ((argsT E ⟨tm, ob ++ [.gr z e [] 0 false]⟩ false xs tys).set p (.og ob.length 0)) ⟨idx, off, K⟩ hc hclo (by simpa using h1) (fun i x u hx hu => ?_) ha hlp (by simp [hK]) hnd hA hs hmt (fun t2 o2 h => by obtain ⟨rfl, rfl⟩ := h; exact hal) _ _ fun t2 o2 hR v w' g2 hle2 I' hv => ?_
  · by_cases hi : p = i
    · subst hi
      have hx2 : x = .og ob.length 0 := by
        have hlt : p < (argsT E ⟨tm, ob ++ [.gr z e [] 0 false]⟩ false xs tys).length := by
          have := (List.getElem?_eq_some_iff.1 hx).1
          simpa using this
        rw [List.getElem?_set_self hlt] at hx
        exact (Option.some.inj hx).symm
      subst hx2
      rw [List.getElem?_map] at hu
      cases hxp : xs[p]? with
      | none => rw [hxp] at hu; cases hu
      | some q =>
        rw [hxp] at hu hp
        simp only [Option.map_some, Option.some.injEq] at hu hp
        have := R.ev q
        rw [hp] at this
        have hv := this.inv_v
        rw [← hu, hv]
        exact hnil
    · rw [List.getElem?_set_ne hi] at hx
      exact h2 i x u hx hu
  · obtain ⟨rfl, rfl⟩ := hR
    have r' : Rel N w0 σ0 ⟨tm, mergeO ⟨idx, off, K⟩ 0 (ob ++ [.gr z e [] 0 false]) idx o2⟩ a w' g2 := ⟨I', R'.defers, R'.size, R'.hm, Nat.le_trans R'.hl (mergeO_length ..), fun i => (R'.tm i).mono hle2⟩
    exact k w0 σ0 _ w' g2 (r'.set (by simpa using hd) hv)

/-- A slice that is data is held against nil: if it is nil, it has no rows. -/
theorem WG.nilB {t e : TypeId} {rt : TypeId} {x : Operand} {z : Nat} {rows : List (List D)} (hw : St.want ⟨tm, ob⟩ ops ⟨some d, .binOp .eql t x (.const (.slice none 0 0)) rt, ty, pos, after, gd⟩ = some true) (hd : Nat.blt d N.n = true)
    (ht : (E.ty t).kind = .slice e) (hx : St.ev ⟨tm, ob⟩ x = .d (.sl z rows))
    (k : ∀ b : Bool, (b = true → rows = []) → WG G E.P N ops l Q ⟨upd tm d (.d (.v (.bool b))), ob⟩) : WG G E.P N ops (⟨some d, .binOp .eql t x (.const (.slice none 0 0)) rt, ty, pos, after, gd⟩ :: l) Q ⟨tm, ob⟩ :=
  WL.oper (S := ⟨tm, ob⟩) hw fun w0 σ0 a w g R => by
    have hv := R.ev x
    rw [hx] at hv
    have hv2 := hv.inv_d
    obtain ⟨A, n, c, hu, hn⟩ : ∃ A n c, a.eval x = .slice A n c ∧ (A.isNone = true → rows = []) := by
      generalize a.eval x = u at hv2
      cases hv2 with
      | nil _ A => exact ⟨_, _, _, rfl, fun _ => rfl⟩
      | sl _ _ b off cap U hcap hm hz hc hr => exact ⟨_, _, _, rfl, fun h => by simp at h⟩
    have h1 := Go.run_eql_slice_nil (P := E.P) w t e A n c (E.slice ht)
    have h2 : a.eval (.const (.slice none 0 0)) = .slice none 0 0 := rfl
    have h3 : eqGuard .eql t x (.const (.slice none 0 0)) (.slice A n c) (.slice none 0 0) = pure () := by simp [eqGuard]
    unfold Oper.wp Oper.upon
    simp only [execOp, hu, h2, h3]
    simp only [Sem.run_bind, Sem.run_pure, Result.andThen_ok, h1]
    exact k A.isNone hn w0 σ0 _ w g (R.set (by simpa using hd) (.d _ _ (.v _)))
end
end Go.Proofs.Yteooogngdejdgaa
