/-
  The small logic, twenty-fourth part: a new slice in the place of one that is not needed any more; slots that hold what is published. Conditions: none.
-/
import Derived.Test.YteooogngdejdgaaPwW
set_option linter.unusedVariables false
set_option linter.unusedSimpArgs false
namespace Go.Proofs.Yteooogngdejdgaa
open Go.RowKit

section
variable {w0 : World} {σ0 : Bs} {ob : List Ob} {w : World} {g : Gh}

/-- One object turns into what is new; nothing that lay there is written. -/
theorem Inv.turnB (I : Inv w0 σ0 ob w g) {w' : World} {g' : Gh} {k : Nat} {o o' : Ob} (hk : ob[k]? = some o) (h0 : 0 < g.lim k) (hle : g.le g') (hσ : g'.σ = g.σ)
    (hoj : ∀ j, j ≠ k → g'.lim j = g.lim j ∧ g'.foot j = g.foot j) (hb : Below w.heap.size w w') (hok : ObOK (mineB w0 σ0) g' w' k o') (hat : ∀ b, g'.at k o' b → w.heap.size ≤ b) :
    Inv w0 σ0 (ob.set k o') w' g' := by
  have hlt : k < ob.length := (List.getElem?_eq_some_iff.1 hk).1
  refine ⟨I.below.trans hb, fun b x hb hn => by rw [hσ]; exact I.old b x hb hn, fun b x u hu => ?_, fun j p hp => ?_, fun j hj => ?_, fun i j p p' b hne hp hp' hb => ?_, fun j hj => ?_⟩
  · rw [hσ] at hu
    rw [hb.cell (p := ⟨b, x, none⟩) (I.lt_of_σ hu)]
    exact I.con b x u hu
  · by_cases hj : k = j
    · subst hj
      rw [List.getElem?_set_self hlt] at hp
      simp only [Option.some.injEq] at hp
      subst hp
      exact hok
    · rw [List.getElem?_set_ne hj] at hp
      have hj' : j ≠ k := fun h => hj h.symm
      exact (I.obs j p hp).mono hle (hoj j hj').1 (hoj j hj').2 (fun b hbk => ⟨hb.block b ((I.obs j p hp).at_lt hbk).2, fun x => by rw [hσ]⟩) hb.size
  · have hj' : j ≠ k := fun h => by subst h; simp at hj; omega
    rw [(hoj j hj').1]
    exact I.lim j (by simpa using hj)
  · have same : ∀ (i : Nat) (p : Ob) (b : Nat), (ob.set k o')[i]? = some p → g'.at i p b → (i = k ∧ p = o' ∧ w.heap.size ≤ b) ∨ (i ≠ k ∧ ob[i]? = some p ∧ g.at i p b) := by
      intro i p b hp hb
      by_cases hi : k = i
      · subst hi
        rw [List.getElem?_set_self hlt] at hp
        simp only [Option.some.injEq] at hp
        subst hp
        exact .inl ⟨rfl, rfl, hat b hb⟩
      · rw [List.getElem?_set_ne hi] at hp
        have hi' : i ≠ k := fun h => hi h.symm
        rw [Gh.at_mono hle (I.obs i p hp) (hoj i hi').2] at hb
        exact .inr ⟨hi', hp, hb⟩
    intro hb'
    rcases same i p b hp hb with ⟨h1, h2, h3⟩ | ⟨h1, h2, h3⟩
    · rcases same j p' b hp' hb' with ⟨h4, h5, h6⟩ | ⟨h4, h5, h6⟩
      · exact hne (h1.trans h4.symm)
      · have := ((I.obs j p' h5).at_lt h6).2; omega
    · rcases same j p' b hp' hb' with ⟨h4, h5, h6⟩ | ⟨h4, h5, h6⟩
      · have := ((I.obs i p h2).at_lt h3).2; omega
      · exact I.dis i j p p' b hne h2 h5 h3 h6
  · by_cases hjk : j = k
    · subst hjk
      rcases I.ext j hj with h | h
      · omega
      · exact .inr ((hle.γ j 0 h0).2.trans h)
    · rcases I.ext j hj with h | h
      · exact .inl ((hoj j hjk).1.trans h)
      · by_cases h0 : 0 < g.lim j
        · exact .inr ((hle.γ j 0 h0).2.trans h)
        · exact .inl ((hoj j hjk).1.trans (by omega))

/-- A new slice in the place of an old one. -/
theorem Inv.freshGr (I : Inv w0 σ0 ob w g) {w' : World} {k n z0 : Nat} {e0 : TypeId} {rows0 : List (List D)} {p0 : Bool} (hk : ob[k]? = some (.gr z0 e0 rows0 n p0)) (hb : Below w.heap.size w w') (z : Nat) (e : TypeId) (rows : List (List D)) (V : Value) (xs : List Value)
    (hown : w'.ownsRow w.heap.size e z V rows.length xs) (hz : ∀ r ∈ rows, r.length = z)
    (hr : ∀ (i j : Nat) (r : List D) (x : D), rows[i]? = some r → r[j]? = some x → ∃ u, xs[i * z + j]? = some u ∧ RD g.σ x u) (h1 : ∀ u ∈ xs, u.oneCell' = true) :
    ∃ g', g.le g' ∧ Inv w0 σ0 (ob.set k (.gr z e rows (n + 1) false)) w' g' ∧ RT g' (.og k (n + 1)) V := by
  have hown' : w'.ownsRow 0 e z V rows.length xs := by
    refine ⟨hown.1, ?_⟩
    rcases hown.2 with h | ⟨b, cap, cur, hv, hbb, rest⟩
    · exact .inl h
    · exact .inr ⟨b, cap, cur, hv, Nat.zero_le _, rest⟩
  have hlim : g.lim k = n + 1 := (I.obs k _ hk).1
  let g' : Gh := { σ := g.σ, γ := fun j m => if j = k ∧ m = n + 1 then V else g.γ j m, lim := fun j => if j = k then n + 2 else g.lim j, foot := g.foot }
  have hle : g.le g' := ⟨fun _ _ _ h => h, fun j m hm => by
    by_cases hj : j = k
    · subst hj
      have : ¬ m = n + 1 := by omega
      simp [g', this]; omega
    · simp [g', hj, hm]⟩
  have hγ : g'.γ k (n + 1) = V := by simp [g']
  refine ⟨g', hle, I.turnB hk (by omega) hle rfl (fun j hj => ⟨by simp [g', hj], rfl⟩) hb ?_ ?_, ?_⟩
  · refine ⟨by simp [g'], xs, ⟨by rw [hγ]; exact hown', fun b hb => ?_⟩, hz, hr, h1, fun b hbk => ?_⟩
    · rw [hγ] at hb
      exact .inl (Nat.le_trans I.below.size (hown.lt b hb).1)
    · simp only [Bool.false_eq_true, if_false]
      rw [hγ] at hbk
      exact fun o => I.new_none (hown.lt b hbk).1 o
  · intro b hb
    simp only [Gh.at, hγ] at hb
    exact (hown.lt b hb).1
  · have := RT.og (g := g') k (n + 1) (by simp [g'])
    rwa [hγ] at this
end

section
variable {E : Env} {N : Nm} {Q : Exit → St → Prop} {S : St} {ops l : List Oper} {ty : TypeId} {pos : String} {after : Array Edge} {gd : Option (Nat × Bool)} {d : Nat} {tm : Nat → T} {ob ob' : List Ob} {G : List Nat}

theorem WL.bsF {t e : TypeId} {len : Nat} {parts : List (Nat × Operand)} {z j n z0 : Nat} {e0 : TypeId} {rows rows0 : List (List D)} {p0 : Bool} (hw : S.want ops ⟨some d, .buildSlice t len parts.toArray, ty, pos, after, gd⟩ = some true) (hd : Nat.blt d N.n = true)
    (ht : (E.ty t).kind = .slice e) (he : (E.ty e).known = true) (hz : (E.ty e).size = z) (hz0 : Nat.blt 0 z = true) (hlen : Nat.beq len parts.length = true) (hmax : Nat.ble (len * z) 16777216 = true)
    (hrows : rowsOf S 0 parts = some rows) (hwd : widths z rows = true) (hj : S.ob[j]? = some (.gr z0 e0 rows0 n p0))
    (k : WL E.P N ops l Q ⟨(S.set d (.og j (n + 1))).tm, S.ob.set j (.gr z e rows (n + 1) false)⟩) : WL E.P N ops (⟨some d, .buildSlice t len parts.toArray, ty, pos, after, gd⟩ :: l) Q S :=
  WL.eff (by simp) hw hd (fun w0 σ0 a w g R => by
    obtain ⟨xs, hrun, hown, h1, h2, h3⟩ := R.buildRun (d := some d) (ty := ty) (pos := pos) (after := after) (gd := gd) ht he hz hz0 hlen hmax hrows hwd
    obtain ⟨g', hle, I', ht'⟩ := R.inv.freshGr hj (below_alloc w _) z e rows _ xs hown h1 h2 h3
    exact ⟨_, _, g', hrun, hle, I', ht'⟩) k

/-- a new slice in the place of one that is not needed any more -/
theorem OpS1.bsF {t e : TypeId} {len : Nat} {parts : List (Nat × Operand)} {z : Nat} {rows : List (List D)} (j : Nat) {n z0 : Nat} {e0 : TypeId} {rows0 : List (List D)} {p0 : Bool} (hw : St.want ⟨tm, ob⟩ ops ⟨some d, .buildSlice t len parts.toArray, ty, pos, after, gd⟩ = some true) (hd : Nat.blt d N.n = true)
    (ht : (E.ty t).kind = .slice e) (he : (E.ty e).known = true) (hz : (E.ty e).size = z) (hz0 : Nat.blt 0 z = true) (hlen : Nat.beq len parts.length = true) (hmax : Nat.ble (len * z) 16777216 = true)
    (hrows : rowsOf ⟨tm, ob⟩ 0 parts = some rows) (hwd : widths z rows = true) (hj : ob[j]? = some (.gr z0 e0 rows0 n p0)) (ho : ob.set j (.gr z e rows (n + 1) false) = ob') :
    OpS1 E.P N ops ⟨some d, .buildSlice t len parts.toArray, ty, pos, after, gd⟩ tm (.og j (n + 1)) ob ob' := fun tm' hag l Q k' => by
  subst ho
  refine WL.bsF (S := ⟨tm', ob⟩) (by rw [want_agree hag]; exact hw) hd ht he hz hz0 hlen hmax ?_ hwd hj k'
  rw [rowsOf_agree (S := ⟨tm, ob⟩) (S' := ⟨tm', ob⟩) rfl parts 0 fun p hp => ev_agree hag (by simp [Op.operands]; exact ⟨p.1, hp⟩)]
  exact hrows

theorem WE.bsF {w : Nat} {p : List Nat} {ps : List (Nat × List Nat)} {obF : Nat → List Ob} {K : (Nat → T) → Prop} {t : TypeId} {len : Nat} {parts : List (Nat × Operand)} (j n : Nat) (k : WE E.P N ops obF K ps l (upd tm d (.og j (n + 1))))
    (h : AllF p (fun g => OpS1 E.P N ops ⟨some d, .buildSlice t len parts.toArray, ty, pos, after, gd⟩ tm (.og j (n + 1)) (obF g) (obF (g + w))) := by first | exact .n | (refine .c (OpS1.bsF _ (by exact rfl) (by exact rfl) (by exact rfl) (by exact rfl) (by exact rfl) (by exact rfl) (by exact rfl) (by exact rfl) (by exact rfl) (by exact rfl) (by exact rfl) (by exact rfl)) ?_; first | exact .n | (refine .c (OpS1.bsF _ (by exact rfl) (by exact rfl) (by exact rfl) (by exact rfl) (by exact rfl) (by exact rfl) (by exact rfl) (by exact rfl) (by exact rfl) (by exact rfl) (by exact rfl) (by exact rfl)) ?_; first | exact .n | (refine .c (OpS1.bsF _ (by exact rfl) (by exact rfl) (by exact rfl) (by exact rfl) (by exact rfl) (by exact rfl) (by exact rfl) (by exact rfl) (by exact rfl) (by exact rfl) (by exact rfl) (by exact rfl)) ?_; first | exact .n | (refine .c (OpS1.bsF _ (by exact rfl) (by exact rfl) (by exact rfl) (by exact rfl) (by exact rfl) (by exact rfl) (by exact rfl) (by exact rfl) (by exact rfl) (by exact rfl) (by exact rfl) (by exact rfl)) ?_; first | exact .n | (refine .c (OpS1.bsF _ (by exact rfl) (by exact rfl) (by exact rfl) (by exact rfl) (by exact rfl) (by exact rfl) (by exact rfl) (by exact rfl) (by exact rfl) (by exact rfl) (by exact rfl) (by exact rfl)) ?_; first | exact .n | (refine .c (OpS1.bsF _ (by exact rfl) (by exact rfl) (by exact rfl) (by exact rfl) (by exact rfl) (by exact rfl) (by exact rfl) (by exact rfl) (by exact rfl) (by exact rfl) (by exact rfl) (by exact rfl)) ?_; first | exact .n | (refine .c (OpS1.bsF _ (by exact rfl) (by exact rfl) (by exact rfl) (by exact rfl) (by exact rfl) (by exact rfl) (by exact rfl) (by exact rfl) (by exact rfl) (by exact rfl) (by exact rfl) (by exact rfl)) ?_; first | exact .n | (refine .c (OpS1.bsF _ (by exact rfl) (by exact rfl) (by exact rfl) (by exact rfl) (by exact rfl) (by exact rfl) (by exact rfl) (by exact rfl) (by exact rfl) (by exact rfl) (by exact rfl) (by exact rfl)) ?_; exact .n))))))))) :
    WE E.P N ops obF K ((w, p) :: ps) (⟨some d, .buildSlice t len parts.toArray, ty, pos, after, gd⟩ :: l) tm :=
  .mk _ h k

theorem WG.bsF {t e : TypeId} {len : Nat} {parts : List (Nat × Operand)} {z z0 : Nat} {e0 : TypeId} {rows rows0 : List (List D)} {p0 : Bool} (j n : Nat)
    (k : WG G E.P N ops l Q ⟨upd tm d (.og j (n + 1)), ob.set j (.gr z e rows (n + 1) false)⟩) (hw : St.want ⟨tm, ob⟩ ops ⟨some d, .buildSlice t len parts.toArray, ty, pos, after, gd⟩ = some true := by exact rfl) (hd : Nat.blt d N.n = true := by exact rfl)
    (ht : (E.ty t).kind = .slice e := by exact rfl) (he : (E.ty e).known = true := by exact rfl) (hz : (E.ty e).size = z := by exact rfl) (hz0 : Nat.blt 0 z = true := by exact rfl) (hlen : Nat.beq len parts.length = true := by exact rfl) (hmax : Nat.ble (len * z) 16777216 = true := by exact rfl)
    (hrows : rowsOf ⟨tm, ob⟩ 0 parts = some rows := by exact rfl) (hwd : widths z rows = true := by exact rfl) (hj : ob[j]? = some (.gr z0 e0 rows0 n p0) := by exact rfl) : WG G E.P N ops (⟨some d, .buildSlice t len parts.toArray, ty, pos, after, gd⟩ :: l) Q ⟨tm, ob⟩ :=
  WL.bsF (S := ⟨tm, ob⟩) hw hd ht he hz hz0 hlen hmax hrows hwd hj k

/-- slots that hold a slice that is published hold data -/
def pubd (k n : Nat) (x : D) : T → T
  | .og k' n' => bif Nat.beq k' k && Nat.beq n' n then .d x else .og k' n'
  | t => t

theorem RT.pubd {w0 : World} {σ0 : Bs} {w : World} {g : Gh} {k n z : Nat} {e : TypeId} {rows : List (List D)} (I : Inv w0 σ0 ob w g) (hk : ob[k]? = some (.gr z e rows n true)) {t : T} {u : Value} (h : RT g t u) : RT g (pubd k n (.sl z rows) t) u := by
  unfold Go.Proofs.Yteooogngdejdgaa.pubd
  split
  · rename_i k' n'
    cases hb : Nat.beq k' k && Nat.beq n' n with
    | false => exact h
    | true =>
      simp only [Bool.and_eq_true] at hb
      obtain rfl := Nat.eq_of_beq_eq_true hb.1
      obtain rfl := Nat.eq_of_beq_eq_true hb.2
      have := I.norm h
      have e1 : norm ob (.og k' n') = .d (.sl z rows) := by
        simp [norm, norm1, normC, hk]
      rw [e1] at this
      exact this
  · exact h

theorem W.pubD {P : Program} {c : Code} (k : Nat) {z n : Nat} {e : TypeId} {rows : List (List D)} (hk : S.ob[k]? = some (.gr z e rows n false))
    (h : W P N c Q ⟨fun i => pubd k n (.sl z rows) (S.tm i), S.ob.set k (.gr z e rows n true)⟩) : W P N c Q S := fun w0 σ0 a w g r => by
  obtain ⟨g', hle, hlim, I⟩ := r.inv.pub hk
  have hlt : k < S.ob.length := (List.getElem?_eq_some_iff.1 hk).1
  exact h w0 σ0 a w g' ⟨I, r.defers, r.size, r.hm, by simpa using r.hl, fun i => ((r.tm i).mono hle).pubd I (List.getElem?_set_self hlt)⟩
end
end Go.Proofs.Yteooogngdejdgaa
