/-
  A strings.Builder of the call's own as an object: writing to it, taking its text. Conditions: fewer than 2^47 bytes.
-/
import Derived.Test.YtfmhfdegkpbeiaaGreatDoorQCoreTextBd1
import Derived.Test.YtfmhfdegkpbeiaaGreatDoorQCoreTextPgC
import Derived.Lib.UnsafeStr
import Derived.Lib.AppendIntMem
set_option linter.unusedVariables false
set_option linter.unusedSimpArgs false
namespace Go.Proofs.YtfmhfdegkpbeiaaGreatDoor
open Go.Shelf Go.RowKit Go.Lib

/-- A builder that holds a text. -/
def bdX (tB tb : TypeId) (s : ByteArray) : ObX where
  ok _ h F v := ∃ (b : Nat) (p u : Value) (w : World), v = .pointer (some ⟨b, 0, none⟩) ∧ (p = .pointer none ∨ p = .pointer (some ⟨b, 0, none⟩)) ∧ h b = some (.cells #[p, u] tB (0, 0)) ∧ (∀ k, u.ownBlock = some k → w.heap[k]? = h k) ∧
    w.ownsRow 0 tb 1 u s.size (strCells s) ∧ u.ownBlock ≠ some b ∧ (s.size = 0 → u = .slice none 0 0) ∧ ∀ c, F c ↔ (c = b ∨ u.ownBlock = some c)
  mono := by
    rintro σ σ' h h' F v _ hF ⟨b, p, u, w, h1, h2, h3, h4, h5, h6, h7, h8⟩
    exact ⟨b, p, u, w, h1, h2, by rw [hF b ((h8 b).2 (.inl rfl))]; exact h3, fun k hk => by rw [hF k ((h8 k).2 (.inr hk))]; exact h4 k hk, h5, h6, h7, h8⟩
  one := by rintro σ h F v ⟨b, _, _, _, h1, _⟩; rw [h1]; rfl

theorem strCells_app (a b : ByteArray) : strCells (a ++ b) = strCells a ++ strCells b := by
  unfold strCells
  rw [ByteArray.data_append]
  simp

theorem freeze_heap (w : World) (p : Addr) (n : Nat) {k : Nat} (hk : k ≠ p.block) : (w.freeze p n).heap[k]? = w.heap[k]? := by
  unfold World.freeze
  split
  · rfl
  · simp only [Array.getElem?_modify]
    rw [if_neg (fun e => hk e.symm)]
theorem freeze_size (w : World) (p : Addr) (n : Nat) : (w.freeze p n).heap.size = w.heap.size := by
  unfold World.freeze
  split
  · rfl
  · simp

section
variable {P : Program} {ρ : Ren}

theorem owns_swap {w w' : World} {e : TypeId} {z n : Nat} {u : Value} {xs : List Value} (hk : ∀ k, u.ownBlock = some k → w'.heap[k]? = w.heap[k]?) (h : w.ownsRow 0 e z u n xs) : w'.ownsRow 0 e z u n xs := by
  refine ⟨h.1, ?_⟩
  rcases h.2 with h1 | ⟨g, cap, cur, hv, hb, hh, r⟩
  · exact .inl h1
  · exact .inr ⟨g, cap, cur, hv, hb, (hk g (by rw [hv]; rfl)).trans hh, r⟩

theorem owns_lt {w : World} {e : TypeId} {z n : Nat} {u : Value} {xs : List Value} (h : w.ownsRow 0 e z u n xs) {k : Nat} (hk : u.ownBlock = some k) : k < w.heap.size := by
  rcases h.2 with ⟨h1, _⟩ | ⟨g, cap, cur, hv, hb, hh, r⟩
  · rw [h1] at hk; cases hk
  · rw [hv] at hk
    have : g = k := by simpa [Value.ownBlock] using hk
    subst this
    rcases Nat.lt_or_ge g w.heap.size with h | h
    · exact h
    · rw [Array.getElem?_eq_none h] at hh; cases hh

set_option maxHeartbeats 1000000 in
set_option maxRecDepth 100000 in
/-- What String leaves. -/
theorem string_raw (L : Lays.n169 P ρ) (X : Builder.Extra P ρ) {b g cap : Nat} {p : Value} (l : List UInt8) (w : World) (h0 : l ≠ []) (hbk : w.heap[b]? = some (.cells #[p, .slice (some ⟨g, 0, none⟩) l.length cap] (ρ.t 72) (0, 0)))
    (hown : w.ownsRow 0 (ρ.t 5) 1 (.slice (some ⟨g, 0, none⟩) l.length cap) l.length (Lib.byteCells l)) :
    Calls P (ρ.f 169) #[.pointer (some ⟨b, 0, none⟩)] w fun e w' => e = .returned (.string ⟨l.toArray⟩) ∧ (∀ k, k ≠ g → w'.heap[k]? = w.heap[k]?) ∧ w'.heap.size = w.heap.size ∧ Below 0 w w' := by
  have hl0 : l.length ≠ 0 := by simpa using h0
  obtain ⟨cur, hg, hnc, hcm, hcs, htake⟩ : ∃ cur, w.heap[g]? = some (.cells cur (ρ.t 5) (0, 0)) ∧ l.length ≤ cap ∧ cap ≤ maxLen ∧ cur.size = cap * 1 ∧ cur.toList.take (l.length * 1) = Lib.byteCells l := by
    rcases hown.2 with ⟨_, hz⟩ | ⟨g', cap', cur, hv, hb, r⟩
    · exact absurd hz hl0
    · injection hv with h1 h2 h3
      injection h1 with h1
      injection h1 with h1
      subst h1; subst h3
      exact ⟨cur, r⟩
  have c1 : w.drew.cell? ⟨b, 1, none⟩ = some (.slice (some ⟨g, 0, none⟩) l.length cap) := by
    have : w.drew.heap[b]? = some (.cells #[p, .slice (some ⟨g, 0, none⟩) l.length cap] (ρ.t 72) (0, 0)) := hbk
    rw [Lib.cell_of_heap this]; rfl
  have hSD : (Builtin.unsafeSliceData_ #[(ρ.t 37)] (ρ.t 127) #[.slice (some ⟨g, 0, none⟩) l.length cap]).run P w.drew = .ok (.pointer (some ⟨g, 0, none⟩)) w.drew :=
    Lib.run_unsafeSliceData_row _ _ _ _ _ _ (by omega)
  have hUS : (Builtin.unsafeString_ #[(ρ.t 127), (ρ.t 3)] (ρ.t 9) #[.pointer (some ⟨g, 0, none⟩), .int .i64 l.length]).run P w.drew = .ok (.string ⟨l.toArray⟩) (w.drew.freeze ⟨g, 0, none⟩ l.length) := by
    refine Lib.run_unsafeString_row w.drew (ρ.t 127) (ρ.t 3) (ρ.t 9) (ρ.t 5) L.t127 X.cellsByte g cur.size (by have hg' : w.drew.heap[g]? = some (.cells cur (ρ.t 5) (0, 0)) := hg; simp [World.shape?, hg']) l h0 (by omega) (by unfold maxLen at hcm; omega) ?_
    intro j x hx
    have := hown.cells (g := g) rfl j (.int .u8 x.toNat) (by simp [Lib.byteCells, hx])
    exact this
  have mixed := L.mixed
  have t72 := L.t72; have a72 := L.a72; have z72 := L.z72; have v72 := L.v72; have u72 := run_underlying L.t72
  have t70 := L.t70; have a70 := L.a70; have z70 := L.z70; have v70 := L.v70; have u70 := run_underlying L.t70
  have t37 := L.t37; have a37 := L.a37; have z37 := L.z37; have v37 := L.v37; have u37 := run_underlying L.t37
  have t127 := L.t127; have a127 := L.a127; have z127 := L.z127; have v127 := L.v127; have u127 := run_underlying L.t127
  have t3 := L.t3; have a3 := L.a3; have z3 := L.z3; have v3 := L.v3; have u3 := run_underlying L.t3
  have t9 := L.t9; have a9 := L.a9; have z9 := L.z9; have v9 := L.v9; have u9 := run_underlying L.t9
  have t5 := X.t5; have a5 := X.a5; have z5 := X.z5; have v5 := X.v5; have u5 := run_underlying X.t5
  go_enter L.f169, Body.n169_ntmps ρ
  go_wp2
  go_region_o
  all_goals (go_wp2; go_ret; exact ⟨rfl, fun k hk => freeze_heap w.drew ⟨g, 0, none⟩ _ hk, freeze_size w.drew ⟨g, 0, none⟩ _, Lib.below_freeze (Below.drew (Below.refl 0 w)) (p := ⟨g, 0, none⟩) (Nat.zero_le _) _⟩)

theorem WriteString_at (L : Lays.n166 P ρ) (X : Builder.Extra P ρ) (he : ∀ (vals : Array Value) (w : World), (callFunc (ρ.f 166) vals).run P w = .ok (.enter (ρ.f 166) vals) w) (s x : ByteArray) (h0 : 0 < x.size) (hlen : s.size + x.size ≤ 140737488355328) :
    FunQ P (ρ.f 166) [.lp 0 0, .d (.v (.string x))] [.x (bdX (ρ.t 72) (ρ.t 5) s) 0] (just (.tup [.d (.v (.int .i64 x.size)), .d (.v .nilIface)]) [.x (bdX (ρ.t 72) (ρ.t 5) (s ++ x)) 0]) := by
  refine ⟨he, fun w g vals hI hl hr => ?_⟩
  match vals, hl with
  | [v0, v1], _ =>
    have r0 := hr 0 _ v0 rfl rfl
    have r1 := (hr 1 _ v1 rfl rfl).inv_v
    obtain ⟨ho1, ⟨b, p, u, wa, e1, e2, e3, e4, e5, e6, e7, e8⟩, ho4⟩ := hI.obs 0 _ rfl
    have hv0 : v0 = .pointer (some ⟨b, 0, none⟩) := by
      cases r0 with
      | lp _ _ b' h0' h' =>
        rw [e1] at h'
        injection h' with h'
        injection h' with h'
        injection h' with h'
        subst h'
        rfl
    subst hv0
    subst r1
    have hown : w.ownsRow 0 (ρ.t 5) 1 u s.size (strCells s) := owns_swap (fun k hk => (e4 k hk).symm) e5
    refine (write_raw L X x e2 e3 hown e6 hlen).mono fun e w' ⟨he', u', hb', hown', hne', hat', hsz, hos, ht, hout, hkeep⟩ => ?_
    have hblt := (ho4 b ((e8 b).2 (.inl rfl)))
    have hsx : (s ++ x).size = s.size + x.size := ByteArray.size_append ..
    have J := hI.turn (k := 0) (o' := .x (bdX (ρ.t 72) (ρ.t 5) (s ++ x)) 0) (g' := { g with foot := fun k => if k = 0 then (fun c => c = b ∨ u'.ownBlock = some c) else g.foot k }) rfl (fun z e rows n h => by cases h) (by rw [ho1]; exact Nat.zero_lt_one)
      ⟨fun _ _ _ h => h, fun _ _ h => ⟨h, rfl⟩⟩ rfl (fun j hj => ⟨rfl, by simp [hj]⟩) hos ht hout hsz
      (fun c hc hn => hkeep c hc (fun e => hn ((e8 c).2 (.inl e))) (fun e => hn ((e8 c).2 (.inr e))))
      ⟨ho1, ⟨b, _, u', w', e1, .inr rfl, hb', fun _ _ => rfl, by rw [hsx, strCells_app]; exact hown', hne', fun h => by omega, fun c => Iff.rfl⟩, fun c hc => by
        rcases hc with rfl | hc
        · exact ⟨hblt.1, Nat.lt_of_lt_of_le hblt.2.1 hsz, hblt.2.2⟩
        · refine ⟨?_, owns_lt hown' hc, ?_⟩
          · rcases hat' with h | h
            · exact (ho4 c ((e8 c).2 (.inr (h.symm.trans hc)))).1
            · rw [h] at hc
              injection hc with hc
              exact .inl (by omega)
          · rcases hat' with h | h
            · exact (ho4 c ((e8 c).2 (.inr (h.symm.trans hc)))).2.2
            · rw [h] at hc
              injection hc with hc
              exact fun o => hI.new_none (by omega) o⟩
      (fun c hc => by
        rcases hc with rfl | hc
        · exact .inl ((e8 _).2 (.inl rfl))
        · rcases hat' with h | h
          · exact .inl ((e8 c).2 (.inr (h.symm.trans hc)))
          · rw [h] at hc
            injection hc with hc
            exact .inr (by omega))
    refine ⟨_, _, _, _, he', ⟨rfl, rfl⟩, J, ?_⟩
    refine RT.tup _ [.int .i64 x.size, .nilIface] rfl fun i t y h1 h2 => ?_
    match i with
    | 0 => simp at h1 h2; subst h1; subst h2; exact .d _ _ (.v _)
    | 1 => simp at h1 h2; subst h1; subst h2; exact .d _ _ (.v _)
    | i + 2 => simp at h1

theorem String_at (L : Lays.n169 P ρ) (X : Builder.Extra P ρ) (he : ∀ (vals : Array Value) (w : World), (callFunc (ρ.f 169) vals).run P w = .ok (.enter (ρ.f 169) vals) w) (s : ByteArray) :
    FunQ P (ρ.f 169) [.lp 0 0] [.x (bdX (ρ.t 72) (ρ.t 5) s) 0] (just (.d (.v (.string s))) [.dead]) := by
  refine ⟨he, fun w g vals hI hl hr => ?_⟩
  match vals, hl with
  | [v0], _ =>
    have r0 := hr 0 _ v0 rfl rfl
    obtain ⟨ho1, ⟨b, p, u, wa, e1, e2, e3, e4, e5, e6, e7, e8⟩, ho4⟩ := hI.obs 0 _ rfl
    have hv0 : v0 = .pointer (some ⟨b, 0, none⟩) := by
      cases r0 with
      | lp _ _ b' h0' h' =>
        rw [e1] at h'
        injection h' with h'
        injection h' with h'
        injection h' with h'
        subst h'
        rfl
    subst hv0
    have hown : w.ownsRow 0 (ρ.t 5) 1 u s.size (strCells s) := owns_swap (fun k hk => (e4 k hk).symm) e5
    suffices h : Calls P (ρ.f 169) #[.pointer (some ⟨b, 0, none⟩)] w fun e w' => e = .returned (.string s) ∧ (∀ k, k < w.heap.size → u.ownBlock ≠ some k → w'.heap[k]? = w.heap[k]?) ∧ w.heap.size ≤ w'.heap.size ∧ w'.os = w.os ∧ w'.tape = w.tape ∧ w'.output = w.output by
      refine h.mono fun e w' ⟨he', hk, hsz, hos, ht, hout⟩ => ?_
      have J := hI.turn (k := 0) (o' := .dead) (g' := g) rfl (fun z e rows n h => by cases h) (by rw [ho1]; exact Nat.zero_lt_one)
        ⟨fun _ _ _ h => h, fun _ _ h => ⟨h, rfl⟩⟩ rfl (fun j hj => ⟨rfl, rfl⟩) hos ht hout hsz (fun c hc hn => hk c hc fun e => hn ((e8 c).2 (.inr e))) trivial (fun c hc => hc.elim)
      exact ⟨_, _, _, _, he', ⟨rfl, rfl⟩, J, .d _ _ (.v _)⟩
    by_cases hs : s.size = 0
    · obtain rfl := e7 hs
      have : s = ⟨#[]⟩ := by
        apply ByteArray.ext
        have : s.data.size = 0 := hs
        exact Array.eq_empty_of_size_eq_zero this
      subst this
      refine (Any.Builder_String_nil L X w.heap.size b p w e3).mono fun e w' ⟨h1, h2⟩ => ⟨h1, fun k hk _ => h2.block k hk, h2.size, h2.os, h2.tape, h2.output⟩
    · obtain ⟨g0, cap, rfl⟩ : ∃ g0 cap, u = .slice (some ⟨g0, 0, none⟩) s.size cap := by
        rcases hown.2 with ⟨_, hz⟩ | ⟨g0, cap, cur, hv, _⟩
        · exact absurd hz hs
        · exact ⟨g0, cap, hv⟩
      have hne : s.data.toList ≠ [] := fun h => hs (by
        have := congrArg List.length h
        simpa using this)
      have := string_raw L X (b := b) (p := p) s.data.toList w hne e3 (by exact hown)
      refine this.mono fun e w' ⟨h1, h2, h3, h4⟩ => ⟨by rw [h1], fun k hk hn => h2 k fun e => hn (by rw [e]; rfl), h4.size, h4.os, h4.tape, h4.output⟩
end

/-! ### making one -/

section
variable {E : Env} {N : Nm} {Q : Exit → St → Prop} {S : St} {ops l : List Oper} {ty : TypeId} {pos : String} {after : Array Edge} {gd : Option (Nat × Bool)} {d : Nat}

theorem bdX_new {tB tb : TypeId} {b : Nat} {h : Nat → Option Obj} {σ : Sto} {F : Nat → Prop} (hb : h b = some (.cells #[.pointer none, .slice none 0 0] tB (0, 0))) (hF : ∀ c, F c ↔ c = b) : (bdX tB tb ⟨#[]⟩).ok σ h F (.pointer (some ⟨b, 0, none⟩)) :=
  ⟨b, _, _, default, rfl, .inl rfl, hb, fun k hk => (by cases hk), ⟨rfl, .inl ⟨rfl, rfl⟩⟩, fun h => (by cases h), fun _ => rfl, fun c => (hF c).trans ⟨fun h => .inl h, fun h => h.elim id fun h => (by cases h)⟩⟩

theorem zero_builder {t : TypeId} (hk : (E.ty t).known = true) (hz : (E.ty t).zero = [.v (.pointer none), .nl 1]) : ∃ inf z, E.P.info? t = some inf ∧ inf.zero = some z ∧ z.cells = #[.pointer none, .slice none 0 0] ∧ inf.size = 2 := by
  obtain ⟨inf, z, hinf, hsz, _, hzz, hzs, hzc⟩ := E.info hk
  refine ⟨inf, z, hinf, hzz, ?_, ?_⟩
  · obtain ⟨h1, h2, h3⟩ := zerosAre_ok hzs
    rw [hz] at h1 h3
    have e : z.cells.toList = [.pointer none, .slice none 0 0] := by
      match hc : z.cells.toList, h1 with
      | [a, b], _ =>
        rw [hc] at h3
        have ha := h3 (fun _ _ => none) 0 _ _ rfl rfl
        have hb := h3 (fun _ _ => none) 1 _ _ rfl rfl
        cases ha
        cases hb
        rfl
    rw [← Array.toArray_toList (xs := z.cells), e]
  · obtain ⟨h1, h2, h3⟩ := zerosAre_ok hzs
    rw [hz] at h1
    have : z.cells.size = 2 := by rw [← Array.length_toList]; exact h1.symm
    omega

/-- A new builder. -/
theorem WL.allocB {t tb : TypeId} (hw : S.want ops ⟨some d, .alloc t, ty, pos, after, gd⟩ = some true) (hd : Nat.blt d N.n = true) (hk : (E.ty t).known = true) (hz : (E.ty t).zero = [.v (.pointer none), .nl 1])
    (k : WL E.P N ops l Q ⟨(S.set d (.lp S.ob.length 0)).tm, S.ob ++ [.x (bdX t tb ⟨#[]⟩) 0]⟩) : WL E.P N ops (⟨some d, .alloc t, ty, pos, after, gd⟩ :: l) Q S :=
  WL.eff (by simp) hw hd (fun w0 σ0 a w g r => by
    obtain ⟨inf, z, hinf, hzz, hzc, _⟩ := zero_builder hk hz
    obtain ⟨g', hle, hσ, hl1, hγ, I'⟩ := r.inv.addF (below_alloc w (.cells #[.pointer none, .slice none 0 0] t)) (.x (bdX t tb ⟨#[]⟩) 0) (.pointer (some ⟨w.heap.size, 0, none⟩)) (fun c => c = w.heap.size) (fun g' hle hσ hl1 hγ hf => by
      refine ⟨⟨hl1, by rw [hγ]; exact bdX_new (heap_alloc_new w _) fun c => by rw [hf], fun b hb => ?_⟩, fun b hb => ?_⟩
      · rw [hf] at hb
        have hb' : b = w.heap.size := hb
        subst hb'
        exact ⟨.inl r.inv.below.size, (Array.getElem?_eq_some_iff.1 (heap_alloc_new w (.cells #[.pointer none, .slice none 0 0] t))).1, fun o => by rw [hσ]; exact r.inv.new_none (Nat.le_refl _) o⟩
      · have hb' : g'.foot _ b := hb
        rw [hf] at hb'
        exact Nat.le_of_eq hb'.symm) (by rw [r.hm]; exact r.hl)
    refine ⟨_, _, g', ?_, hle, I', .lp _ _ _ (by rw [hl1]; exact Nat.zero_lt_one) hγ⟩
    simp [execOp, Instr.alloc, zeroValue, typeInfo, hinf, hzz, newVar, newRow, hzc]) k

/-- Its zero is stored in it. -/
theorem WL.storeB {t tb : TypeId} {x v : Operand} {j : Nat} {s : ByteArray} (hw : S.want ops ⟨none, .store t x v, ty, pos, after, gd⟩ = some true) (hk : (E.ty t).known = true) (hz : (E.ty t).zero = [.v (.pointer none), .nl 1])
    (hx : S.ev x = .lp j 0) (hj : S.ob[j]? = some (.x (bdX t tb s) 0)) (hv : S.ev v = .d (.agg [.v (.pointer none), .nl 1]))
    (k : WL E.P N ops l Q ⟨S.tm, S.ob.set j (.x (bdX t tb ⟨#[]⟩) 0)⟩) : WL E.P N ops (⟨none, .store t x v, ty, pos, after, gd⟩ :: l) Q S :=
  WL.effskip (by simp) hw (fun w0 σ0 a w g r => by
    obtain ⟨inf, z, hinf, hzz, hzc, hsz⟩ := zero_builder hk hz
    have hxr := r.ev x
    rw [hx] at hxr
    obtain ⟨b, h0, hγ, hxv⟩ := hxr.inv_lp
    have hvr := r.ev v
    rw [hv] at hvr
    have hvv : a.eval v = .agg #[.pointer none, .slice none 0 0] := by
      generalize a.eval v = y at hvr
      cases hvr with
      | d _ _ h =>
        cases h with
        | agg _ vs hl hh =>
          match vs, hl with
          | [p, q], _ =>
            have hp := hh 0 _ p rfl rfl
            have hq := hh 1 _ q rfl rfl
            cases hp
            cases hq
            rfl
    obtain ⟨ho1, ⟨b', p, u, wa, e1, e2, e3, e4, e5, e6, e7, e8⟩, ho4⟩ := r.inv.obs j _ hj
    rw [hγ] at e1
    injection e1 with e1; injection e1 with e1; injection e1 with e1 _ _
    subst e1
    obtain ⟨w', hrun, hh', g1, g2, g3, g4, g5⟩ := run_storeCells (P := E.P) [.pointer none, .slice none 0 0] [p, u] 0 0 w e3 (by simp) (by simp [Value.oneCell'])
    have J := r.inv.turn (k := j) (o' := .x (bdX t tb ⟨#[]⟩) 0) (g' := { g with foot := fun k => if k = j then (fun c => c = b) else g.foot k }) hj (fun z e rows n h => by cases h) (by rw [ho1]; exact Nat.zero_lt_one)
      ⟨fun _ _ _ h => h, fun _ _ h => ⟨h, rfl⟩⟩ rfl (fun i hi => ⟨rfl, by simp [hi]⟩) g1 g2 g3 (by omega)
      (fun c hc hn => g5 c fun e => hn ((e8 c).2 (.inl e)))
      ⟨ho1, by
        show (bdX t tb ⟨#[]⟩).ok _ _ _ (g.γ j 0)
        rw [hγ]
        exact bdX_new hh' fun c => by simp, fun c hc => by
        have hc' : c = b := by simpa using hc
        subst hc'
        obtain ⟨q1, q2, q3⟩ := ho4 _ ((e8 _).2 (.inl rfl))
        exact ⟨q1, by omega, q3⟩⟩
      (fun c hc => .inl ((e8 c).2 (.inl (by simpa [Gh.at] using hc))))
    refine ⟨w', { g with foot := fun k => if k = j then (fun c => c = b) else g.foot k }, ?_, ⟨fun _ _ _ h => h, fun _ _ h => ⟨h, rfl⟩⟩, J⟩
    simp [execOp, Instr.storeAt, Instr.sureAddr, hxv, storeVar, sizeOf, typeInfo, hinf, hsz, hvv, Value.cells, hrun]) k
end

section
variable {P : Program} {E : Env} {N : Nm} {Q : Exit → St → Prop} {tm : Nat → T} {ob : List Ob} {ops l : List Oper} {ty : TypeId} {pos : String} {after : Array Edge} {gd : Option (Nat × Bool)} {d : Nat} {G : List Nat}
theorem WG.alB {t : TypeId} (tb : TypeId) {K : Nat} (hw : St.want ⟨tm, ob⟩ ops ⟨some d, .alloc t, ty, pos, after, gd⟩ = some true) (hd : Nat.blt d N.n = true) (hk : (E.ty t).known = true) (hz : (E.ty t).zero = [.v (.pointer none), .nl 1]) (hK : ob.length = K)
    (k : WG G E.P N ops l Q ⟨upd tm d (.lp K 0), ob ++ [.x (bdX t tb ⟨#[]⟩) 0]⟩) : WG G E.P N ops (⟨some d, .alloc t, ty, pos, after, gd⟩ :: l) Q ⟨tm, ob⟩ := by
  subst hK; exact WL.allocB hw hd hk hz k
theorem WG.stB {t tb : TypeId} {x v : Operand} {j : Nat} {s : ByteArray} (hw : St.want ⟨tm, ob⟩ ops ⟨none, .store t x v, ty, pos, after, gd⟩ = some true) (hk : (E.ty t).known = true) (hz : (E.ty t).zero = [.v (.pointer none), .nl 1])
    (hx : St.ev ⟨tm, ob⟩ x = .lp j 0) (hj : ob[j]? = some (.x (bdX t tb s) 0)) (hv : St.ev ⟨tm, ob⟩ v = .d (.agg [.v (.pointer none), .nl 1]))
    (k : WG G E.P N ops l Q ⟨tm, ob.set j (.x (bdX t tb ⟨#[]⟩) 0)⟩) : WG G E.P N ops (⟨none, .store t x v, ty, pos, after, gd⟩ :: l) Q ⟨tm, ob⟩ := WL.storeB (S := ⟨tm, ob⟩) hw hk hz hx hj hv k
end

end Go.Proofs.YtfmhfdegkpbeiaaGreatDoor
