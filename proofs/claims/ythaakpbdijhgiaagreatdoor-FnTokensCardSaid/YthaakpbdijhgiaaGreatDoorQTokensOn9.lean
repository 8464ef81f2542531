/-
  The small logic: a slice of a slice of the call's own bytes, and a copy into it. Conditions: none.
-/
import Derived.Test.YthaakpbdijhgiaaGreatDoorQTokensOn5
import Derived.Laws.CopyRow
import Derived.Laws.Slices
set_option linter.unusedVariables false
set_option linter.unusedSimpArgs false
namespace Go.Proofs.YthaakpbdijhgiaaGreatDoor
open Go.RowKit

abbrev vI64 (n : Nat) : Value := .int .i64 (n : Int)

theorem setAll_splice {α : Type} (us cs : List α) (o : Nat) (h : o + us.length ≤ cs.length) : cs.take o ++ us ++ cs.drop (o + us.length) = setAll cs o us := by
  apply List.ext_getElem?
  intro i
  rw [setAll_at us cs o i h]
  by_cases h1 : o ≤ i ∧ i < o + us.length
  · rw [if_pos h1, List.getElem?_append_left (by simp; omega), List.getElem?_append_right (by simp; omega)]
    congr 1
    simp
    omega
  · rw [if_neg h1]
    by_cases h2 : i < o
    · rw [List.getElem?_append_left (by simp; omega), List.getElem?_append_left (by simp; omega), List.getElem?_take_of_lt h2]
    · rw [List.getElem?_append_right (by simp; omega), List.getElem?_drop]
      congr 1
      simp
      omega

section
variable {w0 : World} {σ0 : Bs} {ob : List Ob} {w : World} {g : Gh}

/-- Rows of one cell, written anew. -/
theorem Inv.setGr1 (I : Inv w0 σ0 ob w g) {w' : World} {m n i : Nat} {e e' : TypeId} {rows news : List (List D)} {us cur : List Value} {b cap : Nat} (hm : ob[m]? = some (.gr 1 e rows n false))
    (hγ : g.γ m n = .slice (some ⟨b, 0, none⟩) rows.length cap) (hh : w.heap[b]? = some (.cells cur.toArray e' (0, 0)))
    (hi : i + news.length ≤ rows.length) (hul : news.length = us.length) (hn1 : ∀ r ∈ news, r.length = 1) (hrd : ∀ (j : Nat) (r : List D) (x : D) (u : Value), news[j]? = some r → r[0]? = some x → us[j]? = some u → RD g.σ x u) (h1 : ∀ u ∈ us, u.oneCell' = true)
    (hh' : w'.heap[b]? = some (.cells (setAll cur i us).toArray e' (0, 0))) (hos : w'.os = w.os) (htape : w'.tape = w.tape) (hout : w'.output = w.output) (hsize : w'.heap.size = w.heap.size)
    (hother : ∀ k, k ≠ b → w'.heap[k]? = w.heap[k]?) : Inv w0 σ0 (ob.set m (.gr 1 e (setAll rows i news) n false)) w' g := by
  have hlt : m < ob.length := (List.getElem?_eq_some_iff.1 hm).1
  obtain ⟨hlim, xs, ⟨hown, hmine⟩, hzr, hxr, hone, hσ⟩ := I.obs m _ hm
  have hown' := hown
  obtain ⟨hxl, hown2⟩ := hown'
  rw [Nat.mul_one] at hxl
  obtain ⟨hcapl, hcapm, hcs, htake, hee⟩ : rows.length ≤ cap ∧ cap ≤ maxLen ∧ cur.length = cap ∧ cur.take rows.length = xs ∧ e' = e := by
    rcases hown2 with ⟨hv, _⟩ | ⟨b2, cap2, cur2, hv, hb, hhb, hc, hmm, hs, ht⟩
    · rw [hγ] at hv; cases hv
    · rw [hγ] at hv
      injection hv with e1 _ e3
      injection e1 with e1
      injection e1 with e1 _ _
      subst e1; subst e3
      rw [hh] at hhb
      have := Option.some.inj hhb
      injection this with e4 e5 _
      subst e4
      exact ⟨hc, hmm, by simpa using hs, by simpa using ht, e5⟩
  subst hee
  have hxs' : (setAll cur i us).take rows.length = setAll xs i us := by
    rw [setAll_take _ _ _ _ (by omega) (by omega), htake]
  refine I.turn hm (fun _ _ _ _ h => by cases h) (by omega) (Gh.le_refl g) rfl (fun _ _ => ⟨rfl, rfl⟩) hos htape hout (by omega) (fun b2 _ hb2 => hother b2 fun e => hb2 (by subst e; simp [Gh.at, hγ, Value.ownBlock]))
    ⟨hlim, setAll xs i us, ⟨⟨by rw [setAll_length, setAll_length, hxl]; omega, .inr ⟨b, cap, _, by rw [hγ, setAll_length], Nat.zero_le _, hh', by rw [setAll_length]; exact hcapl, hcapm, by simp [setAll_length, hcs], by rw [setAll_length, Nat.mul_one]; simpa using hxs'⟩⟩, hmine⟩, fun q hq => ?_, fun i' j q x hq hx => ?_, fun u hu => ?_, hσ⟩ fun b2 hb2 => .inl hb2
  · obtain ⟨k, hk⟩ := List.getElem?_of_mem hq
    rw [setAll_at _ _ _ _ hi] at hk
    split at hk
    · exact hn1 q (List.mem_of_getElem? hk)
    · exact hzr q (List.mem_of_getElem? hk)
  · rw [setAll_at _ _ _ _ hi] at hq
    have hj1 : j = 0 := by
      have hjl := (List.getElem?_eq_some_iff.1 hx).1
      have hql : q.length = 1 := by
        split at hq
        · exact hn1 q (List.mem_of_getElem? hq)
        · exact hzr q (List.mem_of_getElem? hq)
      omega
    subst hj1
    rw [Nat.mul_one, Nat.add_zero, setAll_at _ _ _ _ (by omega)]
    by_cases hin : i ≤ i' ∧ i' < i + news.length
    · rw [if_pos hin] at hq
      rw [if_pos (by omega)]
      have hju : i' - i < us.length := by omega
      exact ⟨us[i' - i], List.getElem?_eq_getElem hju, hrd _ q x _ hq hx (List.getElem?_eq_getElem hju)⟩
    · rw [if_neg hin] at hq
      rw [if_neg (by omega)]
      obtain ⟨u, hu, hd⟩ := hxr i' 0 q x hq hx
      rw [Nat.mul_one, Nat.add_zero] at hu
      exact ⟨u, hu, hd⟩
  · obtain ⟨q, hq⟩ := List.getElem?_of_mem hu
    rw [setAll_at _ _ _ _ (by omega)] at hq
    split at hq
    · exact h1 u (List.mem_of_getElem? hq)
    · exact hone u (List.mem_of_getElem? hq)
end

section
variable {E : Env} {N : Nm} {Q : Exit → St → Prop} {S : St} {ops l : List Oper} {ty : TypeId} {pos : String} {after : Array Edge} {gd : Option (Nat × Bool)} {d : Nat}

/-- A slice of the call's own, from a place on. -/
theorem WL.slO {t e e' : TypeId} {x lo : Operand} {rows : List (List D)} {n m : Nat} {kl : IntKind} {li : Int} (hw : S.want ops ⟨some d, .slice t x (some lo) none none, ty, pos, after, gd⟩ = some true) (hd : Nat.blt d N.n = true)
    (ht : (E.ty t).kind = .slice e) (he : (E.ty e).known = true) (hz : (E.ty e).size = 1) (hx : S.ev x = .og m n) (hm : S.ob[m]? = some (.gr 1 e' rows n false)) (hl : S.ev lo = .d (.v (.int kl li))) (hb : 0 ≤ li ∧ li < rows.length)
    (k : WL E.P N ops l Q (S.set d (.os m n li.toNat))) : WL E.P N ops (⟨some d, .slice t x (some lo) none none, ty, pos, after, gd⟩ :: l) Q S :=
  WL.val hw hd (fun w0 σ0 a w g R => by
    have h1 := R.ev x
    rw [hx] at h1
    obtain ⟨h1, h1'⟩ := h1.inv_og
    have h2 := R.ev lo
    rw [hl] at h2
    have h2' := h2.inv_v
    obtain ⟨inf, zz, hinf, hsz, _⟩ := E.info he
    obtain ⟨hlm, xs, ⟨hown, _⟩, _⟩ := R.inv.obs m _ hm
    rcases hown.2 with ⟨_, hn⟩ | ⟨b, cap, cur, hv, _, _, hcl, _⟩
    · omega
    · have hel : E.P.elem t = e := by simp [Program.elem, E.slice ht]
      have ht' : E.P.underlying t = some (.slice (E.P.elem t)) := by
        rw [hel]
        exact E.slice ht
      have hrun : (Instr.sliceAt t (.slice (some ⟨b, 0, none⟩) rows.length cap) (some (.int kl li)) none none).run E.P w = .ok (.slice (some ⟨b, li.toNat, none⟩) (rows.length - li.toNat) (cap - li.toNat)) w := by
        rw [run_sliceAt_slice (h := ht'), run_slice_l (ht := ht') (h0 := hb.1) (h1 := by omega)]
        have hso : (sizeOf (E.P.elem t)).run E.P w = .ok inf.size w := by rw [hel]; simp [sizeOf, typeInfo, hinf]
        rw [hso]
        simp only [Result.andThen_ok, sliced]
        rw [if_neg (by omega), hsz, hz]
        simp [Addr.add_lit]
      refine ⟨_, by simp only [execOp, Sem.run_bind, Option.map_some, Option.map_none, h1', hv, h2', hrun, Result.andThen_ok, Sem.run_pure]; rfl, ?_⟩
      exact .os m n li.toNat b rows.length cap h1 hv (by omega)) k
/-- A copy of data into a slice of the call's own bytes. -/
theorem WL.cpO {t t' e e' : TypeId} {s x : Operand} {rows news : List (List D)} {n m i : Nat} (hw : S.want ops ⟨some d, .call ⟨.builtin .copy, #[s, x], #[t, t']⟩, ty, pos, after, gd⟩ = some true) (hd : Nat.blt d N.n = true)
    (ht : (E.ty t).kind = .slice e) (he : (E.ty e).known = true) (hz : (E.ty e).size = 1) (hs : S.ev s = .os m n i) (hm : S.ob[m]? = some (.gr 1 e' rows n false)) (hx : S.ev x = .d (.sl 1 news)) (hb : i + news.length ≤ rows.length) (h0 : 0 < news.length)
    (k : WL E.P N ops l Q ⟨(S.set d (vI .i64 news.length)).tm, S.ob.set m (.gr 1 e' (setAll rows i news) n false)⟩) : WL E.P N ops (⟨some d, .call ⟨.builtin .copy, #[s, x], #[t, t']⟩, ty, pos, after, gd⟩ :: l) Q S :=
  WL.eff (by simp) hw hd (fun w0 σ0 a w g R => by
    have h1 := R.ev s
    rw [hs] at h1
    obtain ⟨b, len, cap, hlim, hγ, hil, hsv⟩ := h1.inv_os
    have h2 := R.ev x
    rw [hx] at h2
    obtain ⟨inf, zz, hinf, hsz, _⟩ := E.info he
    obtain ⟨hlm, xs, ⟨hown, _⟩, _⟩ := R.inv.obs m _ hm
    rcases hown.2 with ⟨hv0, _⟩ | ⟨b2, cap2, cur, hv, _, hh, hcl, hcm, hcs, _⟩
    · rw [hγ] at hv0; cases hv0
    · rw [hγ] at hv
      injection hv with e1 e2 e3
      injection e1 with e1
      injection e1 with e1 _ _
      subst e1; subst e3; subst e2
      obtain ⟨cur⟩ := cur
      generalize hxe : a.eval x = xv at h2
      cases h2.inv_d with
      | nil => simp at h0
      | sl _ _ bs off scap U hscap hsm hzr hc hrr =>
        let us : List Value := (List.range news.length).map fun j => U j 0
        have husl : us.length = news.length := by simp [us]
        have husj : ∀ (j : Nat) (u : Value), us[j]? = some u → j < news.length ∧ u = U j 0 := fun j u hu => by
          simp only [us, List.getElem?_map, Option.map_eq_some_iff] at hu
          obtain ⟨q, hq, rfl⟩ := hu
          have hlt := (List.getElem?_eq_some_iff.1 hq).1
          simp at hlt
          rw [List.getElem?_range hlt] at hq
          simp at hq
          subst hq
          exact ⟨hlt, rfl⟩
        have hsrc : ∀ (j : Nat) (v : Value), us[j]? = some v → w.cell? ((⟨bs, off, none⟩ : Addr).add j) = some v := fun j v hv => by
          obtain ⟨hj, rfl⟩ := husj j v hv
          have := (hc j 0 hj (by omega)).1
          rw [Nat.mul_one, Nat.add_zero] at this
          rw [Addr.add_lit]
          exact R.inv.con _ _ _ this
        have hones : ∀ v ∈ us, v.oneCell' = true := fun v hv => by
          obtain ⟨j, hj⟩ := List.getElem?_of_mem hv
          obtain ⟨hj2, rfl⟩ := husj j v hj
          exact (hc j 0 hj2 (by omega)).2
        have hcur : cur.length = cap := by simpa using hcs
        have hrun := run_copy_row (P := E.P) w t t' ty e b i (rows.length - i) (cap - i) ⟨bs, off, none⟩ news.length scap cur.toArray e' us (E.slice ht) (by simp [hinf, hsz, hz]) hh (by rw [husl]; exact (Nat.min_eq_left (by omega)).symm) hsrc (by rw [husl]; simp; omega) hones
        rw [show (cur.toArray.toList.take i ++ us ++ cur.toArray.toList.drop (i + us.length)) = setAll cur i us from setAll_splice us cur i (by rw [husl]; omega), husl] at hrun
        refine ⟨vI64 news.length, w.setRow b (setAll cur i us).toArray, g, ?_, Gh.le_refl g, R.inv.setGr1 (news := news) (us := us) (cur := cur) hm hγ hh hb husl.symm hzr (fun j r y u hr hy hu => ?_) hones (setRow_heap w b _ _ _ _ hh) rfl rfl rfl (by simp [World.setRow]) (fun k hk => setRow_other w b k _ hk), .d _ _ (.v _)⟩
        · simp [execOp, resolve, invoke, builtin, hsv, hxe, hrun, vI64]
          rfl
        · obtain ⟨hj, rfl⟩ := husj j u hu
          exact hrr j 0 r y hr hy) k
end

end Go.Proofs.YthaakpbdijhgiaaGreatDoor
