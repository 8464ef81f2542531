/-
  A contract's world taken up again: what is known behind a call that began in a later world. Conditions: none.
-/
import Derived.Test.YthaakpbdijhgiaaGreatDoorQTokensPgC
set_option linter.unusedVariables false
set_option linter.unusedSimpArgs false
namespace Go.Proofs.YthaakpbdijhgiaaGreatDoor
open Go.RowKit

theorem ObOK.toMine {m m' : Nat → Prop} (h : ∀ b, m b → m' b) {g : Gh} {w : World} {k : Nat} {o : Ob} (ho : ObOK m g w k o) : ObOK m' g w k o := by
  cases o with
  | pv cs =>
    obtain ⟨h1, b, vs, e, h2, h3, h4⟩ := ho
    exact ⟨h1, b, vs, e, h2, h _ h3, h4⟩
  | gr z e rows n pub =>
    obtain ⟨h1, xs, ⟨h2, h3⟩, h4⟩ := ho
    exact ⟨h1, xs, ⟨h2, fun b hb => h _ (h3 b hb)⟩, h4⟩
  | x X n =>
    obtain ⟨h1, h2, h3⟩ := ho
    exact ⟨h1, h2, fun b hb => ⟨h _ (h3 b hb).1, (h3 b hb).2⟩⟩
  | dead => trivial
  | new => exact ho

/-- What a draw leaves as it was. -/
theorem Inv.drew {w0 w : World} {B : Bs} {ob : List Ob} {g : Gh} (I : Inv w0 B ob w g) : Inv w0 B ob w.drew g := by
  refine ⟨⟨I.below.os, I.below.tape, I.below.output, I.below.size, I.below.block⟩, I.old, I.con, fun k o hk => ?_, I.lim, I.dis, I.ext⟩
  have := I.obs k o hk
  cases o with
  | pv cs => exact this
  | gr z e rows n pub => exact this
  | x X n => exact this
  | dead => trivial
  | new => exact this

/-- One cell of a variable is written. -/
theorem Inv.setCell {w0 w : World} {B : Bs} {ob : List Ob} {g : Gh} {l i b : Nat} {cs : List T} {t : T} {u : Value} (I : Inv w0 B ob w g) (hl : ob[l]? = some (.pv cs)) (hγ : g.γ l 0 = .pointer (some ⟨b, 0, none⟩)) (hi : i < cs.length) (ht : RT g t u) (h1 : u.oneCell' = true) :
    Inv w0 B (ob.set l (.pv (cs.set i t))) (w.setCell ⟨b, i, none⟩ u) g := by
  obtain ⟨hlim, b', vs, e, hγ', hb, hh, hlen, hcs, hone, hσ⟩ := I.obs l _ hl
  rw [hγ] at hγ'
  injection hγ' with e1; injection e1 with e1; injection e1 with e1 _ _
  subst e1
  refine I.setPv (off := i) (vals := [t]) (us := [u]) hl hγ hh hlen (by simp; omega) rfl (fun j x v hx hv => ?_) (by simpa using h1) ?_ rfl rfl rfl (by simp [World.setCell]) fun k hk => Below.heap_setCell w ⟨b, i, none⟩ u k hk
  · match j with
    | 0 =>
      simp at hx hv
      subst hx; subst hv
      exact ht
    | j + 1 => simp at hx
  · simp [World.setCell, Array.getElem?_modify, hh, setAll]

theorem ObOK.own_at {m : Nat → Prop} {g : Gh} {w : World} {k : Nat} {o : Ob} (ho : ObOK m g w k o) {b : Nat} (hb : g.at k o b) : m b := by
  cases o with
  | pv cs =>
    obtain ⟨h1, b', vs, e, h2, h3, h4⟩ := ho
    have hb' : g.γ k 0 = .pointer (some ⟨b, 0, none⟩) := hb
    rw [h2] at hb'
    injection hb' with e1; injection e1 with e1; injection e1 with e1 _ _
    subst e1
    exact h3
  | gr z e rows n pub =>
    obtain ⟨h1, xs, ⟨h2, h3⟩, h4⟩ := ho
    exact h3 b hb
  | x X n =>
    obtain ⟨h1, h2, h3⟩ := ho
    exact (h3 b hb).1
  | dead => exact absurd hb id
  | new => exact absurd hb id

theorem ObOK.toAt {m m' : Nat → Prop} {g : Gh} {w : World} {k : Nat} {o : Ob} (h : ∀ b, g.at k o b → m' b) (ho : ObOK m g w k o) : ObOK m' g w k o := by
  cases o with
  | pv cs =>
    obtain ⟨h1, b, vs, e, h2, h3, h4⟩ := ho
    exact ⟨h1, b, vs, e, h2, h _ h2, h4⟩
  | gr z e rows n pub =>
    obtain ⟨h1, xs, ⟨h2, h3⟩, h4⟩ := ho
    exact ⟨h1, xs, ⟨h2, fun b hb => h _ hb⟩, h4⟩
  | x X n =>
    obtain ⟨h1, h2, h3⟩ := ho
    exact ⟨h1, h2, fun b hb => ⟨h _ hb, (h3 b hb).2⟩⟩
  | dead => trivial
  | new => exact ho

/-- What holds now, as the beginning of a call to which all is lent. -/
theorem Inv.restart {w0 w : World} {B : Bs} {ob : List Ob} {g : Gh} (I : Inv w0 B ob w g) : Inv w (baseOf ob g) ob w g :=
  ⟨.refl _ _, fun _ _ _ _ => rfl, I.con, fun k o hk => (I.obs k o hk).toAt fun b hb => .inr ⟨k, o, hk, hb⟩, I.lim, I.dis, fun k _ => .inr rfl⟩

/-- What holds behind such a call, since the first world. -/
theorem Inv.after {w w1 w2 : World} {ob ob1 ob' : List Ob} {g g1 g2 : Gh} (hI : Inv w (baseOf ob g) ob1 w1 g1) (J : Inv w1 (baseOf ob1 g1) ob' w2 g2) (hl : ob.length ≤ ob1.length) (hγ : ∀ k, k < ob.length → g1.γ k 0 = g.γ k 0) : Inv w (baseOf ob g) ob' w2 g2 := by
  have hown : ∀ b, (baseOf ob1 g1).own b → mineB w (baseOf ob g) b := fun b ⟨k, o, hk, hb⟩ => (hI.obs k o hk).own_at hb
  have hmine : ∀ b, mineB w1 (baseOf ob1 g1) b → mineB w (baseOf ob g) b := fun b hb => by
    rcases hb with hb | hb
    · exact .inl (Nat.le_trans hI.below.size hb)
    · exact hown b hb
  have hnot : ∀ b, b < w.heap.size → ¬ (baseOf ob g).own b → ¬ (baseOf ob1 g1).own b := fun b hb hn h => by
    rcases hown b h with h | h
    · omega
    · exact hn h
  refine ⟨⟨J.below.os.trans hI.below.os, J.below.tape.trans hI.below.tape, J.below.output.trans hI.below.output, Nat.le_trans hI.below.size J.below.size, fun k hk hn => ?_⟩, fun b o hb hn => ?_, J.con, fun k o hk => (J.obs k o hk).toMine hmine, J.lim, J.dis, fun k hk => ?_⟩
  · exact (J.below.block k (Nat.lt_of_lt_of_le hk hI.below.size) (hnot k hk hn)).trans (hI.below.block k hk hn)
  · exact (J.old b o (Nat.lt_of_lt_of_le hb hI.below.size) (hnot b hb hn)).trans (hI.old b o hb hn)
  · rcases J.ext k (Nat.lt_of_lt_of_le hk hl) with h | h
    · exact .inl h
    · exact .inr (h.trans (hγ k hk))

/-- A cell of a variable, where it is plain. -/
theorem Inv.cellV {w0 w : World} {B : Bs} {ob : List Ob} {g : Gh} {l b : Nat} {cs : List T} (I : Inv w0 B ob w g) (hl : ob[l]? = some (.pv cs)) (hγ : g.γ l 0 = .pointer (some ⟨b, 0, none⟩)) {i : Nat} {t : T} (hc : cs[i]? = some t) : ∃ u, w.cell? ⟨b, i, none⟩ = some u ∧ RT g t u ∧ w.frozen? ⟨b, i, none⟩ = false := by
  obtain ⟨hlim, b', vs, e, hγ', hb, hh, hlen, hcs, hone, hσ⟩ := I.obs l _ hl
  rw [hγ] at hγ'
  injection hγ' with e1; injection e1 with e1; injection e1 with e1 _ _
  subst e1
  have hlt : i < vs.length := by
    have := (List.getElem?_eq_some_iff.1 hc).1
    omega
  refine ⟨vs[i], ?_, hcs i t _ hc (List.getElem?_eq_getElem hlt), by simp [World.frozen?, hh]⟩
  rw [cell_of_heap hh]
  exact List.getElem?_eq_getElem hlt

end Go.Proofs.YthaakpbdijhgiaaGreatDoor
