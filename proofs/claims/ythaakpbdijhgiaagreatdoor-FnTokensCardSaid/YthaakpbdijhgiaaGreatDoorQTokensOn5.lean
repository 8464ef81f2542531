/-
  The small logic: interface values made, arrays within structs indexed, texts turned into bytes, cells at places that are not written numbers. Conditions: none.
-/
import Derived.Test.YthaakpbdijhgiaaGreatDoorQTokensPgE
import Derived.Test.YthaakpbdijhgiaaGreatDoorQTokensDn2
import Derived.Lib.ConvBytes
import Derived.Lib.AtoiErrMem
import Derived.Laws.AppendOwn
set_option linter.unusedVariables false
set_option linter.unusedSimpArgs false
namespace Go.Proofs.YthaakpbdijhgiaaGreatDoor
open Go.RowKit

section
variable {E : Env} {N : Nm} {Q : Exit → St → Prop} {S : St} {ops l : List Oper} {ty : TypeId} {pos : String} {after : Array Edge} {gd : Option (Nat × Bool)} {d : Nat}

/-- A pointer as an interface value. -/
theorem WL.mkI {xt e : TypeId} {x : Operand} (hw : S.want ops ⟨some d, .makeInterface xt x, ty, pos, after, gd⟩ = some true) (hd : Nat.blt d N.n = true) (hi : E.P.underlying xt = some (.pointer e))
    (k : WL E.P N ops l Q (S.set d (.ifc xt (S.ev x)))) : WL E.P N ops (⟨some d, .makeInterface xt x, ty, pos, after, gd⟩ :: l) Q S :=
  WL.val hw hd (fun w0 σ0 a w g R => by
    have hrun : (Instr.makeInterface xt (a.eval x)).run E.P w = .ok (.iface xt (a.eval x)) w := by
      simp [Instr.makeInterface, run_underlying hi]
    refine ⟨_, by simp only [execOp, Sem.run_bind, hrun, Result.andThen_ok, Sem.run_pure], .ifc _ _ _ (R.ev x)⟩) k

theorem run_indexArr {P : Program} {w : World} {t e : TypeId} {n : Nat} {inf : TypeInfo} (hu : P.underlying t = some (.array n e)) (hi : P.info? e = some inf) (b off : Nat) (k : IntKind) (i : Int) (h : 0 ≤ i ∧ i < n) :
    (Instr.indexAt t (.pointer (some ⟨b, off, none⟩)) (.int k i)).run P w = .ok (.pointer (some ⟨b, off + i.toNat * inf.size, none⟩)) w := by
  simp [Instr.indexAt, asIntOf, run_underlying hu, sizeOf, typeInfo, hi, h, Addr.add_lit, Instr.sureAddr]

/-- A place in an array that lies in a variable. -/
theorem WL.ixArr {t e : TypeId} {n : Nat} {x ix : Operand} {l0 off : Nat} {k : IntKind} {i : Int} (hw : S.want ops ⟨some d, .indexAddr t x ix, ty, pos, after, gd⟩ = some true) (hd : Nat.blt d N.n = true)
    (ht : E.P.underlying t = some (.array n e)) (he : (E.ty e).known = true) (hz : (E.ty e).size = 1) (hx : S.ev x = .lp l0 off) (hi : S.ev ix = .d (.v (.int k i))) (hb : 0 ≤ i ∧ i < n)
    (kk : WL E.P N ops l Q (S.set d (.lp l0 (off + i.toNat)))) : WL E.P N ops (⟨some d, .indexAddr t x ix, ty, pos, after, gd⟩ :: l) Q S :=
  WL.val hw hd (fun w0 σ0 a w g R => by
    have h1 := R.ev x
    rw [hx] at h1
    obtain ⟨b, h0, hγ, hxv⟩ := h1.inv_lp
    have h2 := R.ev ix
    rw [hi] at h2
    have h2' := h2.inv_v
    obtain ⟨inf, zz, hinf, hsz, _⟩ := E.info he
    refine ⟨_, by simp only [execOp, Sem.run_bind, hxv, h2', run_indexArr ht hinf b off k i hb, Result.andThen_ok, Sem.run_pure]; rfl, ?_⟩
    rw [hsz, hz, Nat.mul_one]
    exact .lp l0 _ b h0 hγ) kk

/-- A text as bytes: data. -/
def bytesOf (s : ByteArray) : List (List D) := s.data.toList.map fun c => [D.v (.int .u8 (c.toNat : Int))]

theorem WL.s2b {src dst e : TypeId} {x : Operand} {s : ByteArray} (hw : S.want ops ⟨some d, .convert src dst x, ty, pos, after, gd⟩ = some true) (hd : Nat.blt d N.n = true)
    (hs : (E.ty src).kind = .string) (hdst : (E.ty dst).kind = .slice e) (he : (E.ty e).kind = .int .u8) (hx : S.ev x = .d (.v (.string s))) (hn : s.size ≤ 1048576)
    (k : WL E.P N ops l Q ⟨(S.set d (.d (.sl 1 (bytesOf s)))).tm, S.ob⟩) : WL E.P N ops (⟨some d, .convert src dst x, ty, pos, after, gd⟩ :: l) Q S :=
  WL.eff (Nat.le_refl _) hw hd (fun w0 σ0 a w g R => by
    have h1 := R.ev x
    rw [hx] at h1
    have h1' := h1.inv_v
    have hrun := Lib.run_convert_string_bytes (P := E.P) w src dst e s (E.string hs) (E.slice hdst) (E.int he)
    let xs : List Value := s.data.toList.map fun c => Value.int .u8 (c.toNat : Int)
    have hcell : ∀ (o : Nat) (u : Value), xs[o]? = some u → (Lib.bytesWorld w e s).cell? ⟨w.heap.size, o, none⟩ = some u := fun o u hu => by
      have hlt : o < s.size := by
        have := (List.getElem?_eq_some_iff.1 hu).1
        simpa [xs] using this
      have h := Lib.bytesWorld_cell w e s o hlt
      rw [h]
      simp only [xs, List.getElem?_map, Option.map_eq_some_iff] at hu
      obtain ⟨c, hc, rfl⟩ := hu
      simp [List.getD_eq_getElem?_getD, hc]
    obtain ⟨g', hle, hσ, I'⟩ := R.inv.known (Lib.bytesWorld_below w e s) w.heap.size xs (Nat.le_refl _) hcell
    refine ⟨.slice (some ⟨w.heap.size, 0, none⟩) s.size (grownCap w s.size 0 e), Lib.bytesWorld w e s, g', ?_, hle, I', .d _ _ ?_⟩
    · simp only [execOp, Sem.run_bind, h1', hrun, Result.andThen_ok, Sem.run_pure]
    · have hlen : (bytesOf s).length = s.size := by simp [bytesOf]
      rw [← hlen]
      refine .sl 1 (bytesOf s) w.heap.size 0 _ (fun i j => (xs[i + j]?).getD undef) (by rw [hlen]; exact grownCap_ge w s.size 0 e) ?_ (fun r hr => ?_) (fun i j hi hj => ?_) (fun i j r y hr hy => ?_)
      · rw [hlen]
        exact grownCap_le_maxLen w s.size 0 e (by unfold maxLen; omega)
      · obtain ⟨c, _, rfl⟩ := List.mem_map.1 hr
        rfl
      · obtain rfl : j = 0 := by omega
        have hlt : i < xs.length := by
          rw [hlen] at hi
          simpa [xs] using hi
        rw [Nat.zero_add, Nat.mul_one, Nat.add_zero, hσ, List.getElem?_eq_getElem hlt]
        refine ⟨rfl, ?_⟩
        simp [xs, Value.oneCell']
      · simp only [bytesOf, List.getElem?_map, Option.map_eq_some_iff] at hr
        obtain ⟨c, hc, rfl⟩ := hr
        match j with
        | 0 =>
          simp at hy
          subst hy
          rw [Nat.add_zero]
          simp only [xs, List.getElem?_map, hc, Option.map_some, Option.getD_some]
          exact .v _
        | j + 1 => simp at hy) k
/-- append to nil: a copy that nobody writes to is data. -/
theorem WL.appendNilD {t e : TypeId} {s x : Operand} {z : Nat} {rows : List (List D)} (hw : S.want ops ⟨some d, .call ⟨.builtin .append, #[s, x], #[t, t]⟩, ty, pos, after, gd⟩ = some true) (hd : Nat.blt d N.n = true)
    (ht : (E.ty t).kind = .slice e) (he : (E.ty e).known = true) (hz : (E.ty e).size = z) (hz0 : Nat.blt 0 z = true) (hby : Nat.ble 1 (E.ty e).bytes = true) (hs : nilT (S.ev s) = true) (hx : srcRows S.ob (S.ev x) = some (z, rows))
    (hroom : (0 + rows.length) * (E.ty e).bytes ≤ 140737488355328)
    (k : WL E.P N ops l Q ⟨(S.set d (.d (.sl z rows))).tm, S.ob⟩) : WL E.P N ops (⟨some d, .call ⟨.builtin .append, #[s, x], #[t, t]⟩, ty, pos, after, gd⟩ :: l) Q S :=
  WL.eff (Nat.le_refl _) hw hd (fun w0 σ0 a w g R => by
    obtain ⟨inf, zz, hinf, hsz, hbs, hzv, hzs, hzc⟩ := E.info he
    have hz0' : 0 < z := by simpa using hz0
    have hsv := (R.ev s).nil hs
    obtain ⟨A, c, news, hxv, hA, hnl, hcell, hn1, hnz, hnr⟩ := R.inv.src hx (R.ev x) hz0'
    obtain ⟨v', w', hrun, hown, hgrow, _⟩ := run_append_slice (P := E.P) (w := w) w.heap.size t ty e inf zz z (E.ty e).bytes (E.slice ht) hinf hzv (hsz.trans hz) hbs (hzc.trans hz) hz0' (.slice none 0 0) 0 [] (World.ownsRow_nil w _ _ _)
      A rows.length c news (fun h => by obtain ⟨h1, h2⟩ := hA h; simp [h1, h2]) hnl hcell hn1 (room_of (Nat.le_of_ble_eq_true hby) hroom) hroom (Nat.le_refl _)
    have hb : Below w.heap.size w w' := ⟨hgrow.os, hgrow.tape, hgrow.output, hgrow.size, fun b hb => hgrow.block b hb (by simp [Value.ownBlock])⟩
    have hown' : w'.ownsRow w.heap.size e z v' rows.length news := by simpa using hown
    have hrun' : (execOp a.eval ⟨some d, .call ⟨.builtin .append, #[s, x], #[t, t]⟩, ty, pos, after, gd⟩).run E.P w = .ok (.value v') w' := by simp [execOp, resolve, invoke, builtin, hsv, hxv, hrun]
    rcases hown'.2 with ⟨hv, hn⟩ | ⟨blk, cap, cur, hv, hblk, hh, hc, hm, _, _⟩
    · obtain ⟨g', hle, hσ, I'⟩ := R.inv.known hb w'.heap.size [] hgrow.size (fun o u hu => by simp at hu)
      refine ⟨v', w', g', hrun', hle, I', .d _ _ ?_⟩
      have : rows = [] := List.length_eq_zero_iff.1 hn
      subst this
      rw [hv]
      exact .nil z none
    · have hcell' : ∀ (o : Nat) (u : Value), news[o]? = some u → w'.cell? ⟨blk, o, none⟩ = some u := fun o u hu => by
        have := hown'.cells (by rw [hv]; rfl) o u hu
        rwa [Addr.add_lit, Nat.zero_add] at this
      obtain ⟨g', hle, hσ, I'⟩ := R.inv.known hb blk news hblk hcell'
      refine ⟨v', w', g', hrun', hle, I', .d _ _ ?_⟩
      rw [hv]
      have hin : ∀ i j, i < rows.length → j < z → i * z + j < news.length := fun i j hi hj => by
        rw [hnl]
        exact row_lt hi hj
      refine .sl z rows blk 0 cap (fun i j => (news[i * z + j]?).getD undef) hc hm hnz (fun i j hi hj => ?_) (fun i j r x hr hx => ?_)
      · have hlt := hin i j hi hj
        rw [Nat.zero_add, hσ, List.getElem?_eq_getElem hlt]
        exact ⟨rfl, hn1 _ (List.getElem_mem hlt)⟩
      · obtain ⟨u, hu, hd⟩ := hnr i j r x hr hx
        rw [hu]
        exact hd.mono hle.σ) k
end

section
variable {E : Env} {N : Nm} {Q : Exit → St → Prop} {tm : Nat → T} {ob : List Ob} {ops l : List Oper} {ty : TypeId} {pos : String} {after : Array Edge} {gd : Option (Nat × Bool)} {d : Nat} {G : List Nat}

theorem WG.mkI {xt e : TypeId} {x : Operand} (hw : St.want ⟨tm, ob⟩ ops ⟨some d, .makeInterface xt x, ty, pos, after, gd⟩ = some true) (hd : Nat.blt d N.n = true) (hi : E.P.underlying xt = some (.pointer e))
    (k : WG G E.P N ops l Q ⟨upd tm d (.ifc xt (St.ev ⟨tm, ob⟩ x)), ob⟩) : WG G E.P N ops (⟨some d, .makeInterface xt x, ty, pos, after, gd⟩ :: l) Q ⟨tm, ob⟩ := WL.mkI (S := ⟨tm, ob⟩) hw hd hi k

theorem WG.ixArr {t e : TypeId} {n : Nat} {x ix : Operand} {l0 off : Nat} {k : IntKind} {i : Int} (hw : St.want ⟨tm, ob⟩ ops ⟨some d, .indexAddr t x ix, ty, pos, after, gd⟩ = some true) (hd : Nat.blt d N.n = true)
    (ht : E.P.underlying t = some (.array n e)) (he : (E.ty e).known = true) (hz : (E.ty e).size = 1) (hx : St.ev ⟨tm, ob⟩ x = .lp l0 off) (hi : St.ev ⟨tm, ob⟩ ix = .d (.v (.int k i))) (hb : 0 ≤ i ∧ i < n)
    (kk : WG G E.P N ops l Q ⟨upd tm d (.lp l0 (off + i.toNat)), ob⟩) : WG G E.P N ops (⟨some d, .indexAddr t x ix, ty, pos, after, gd⟩ :: l) Q ⟨tm, ob⟩ := WL.ixArr (S := ⟨tm, ob⟩) hw hd ht he hz hx hi hb kk

theorem WG.s2b {src dst e : TypeId} {x : Operand} {s : ByteArray} (hw : St.want ⟨tm, ob⟩ ops ⟨some d, .convert src dst x, ty, pos, after, gd⟩ = some true) (hd : Nat.blt d N.n = true)
    (hs : (E.ty src).kind = .string) (hdst : (E.ty dst).kind = .slice e) (he : (E.ty e).kind = .int .u8) (hx : St.ev ⟨tm, ob⟩ x = .d (.v (.string s))) (hn : s.size ≤ 1048576)
    (k : WG G E.P N ops l Q ⟨upd tm d (.d (.sl 1 (bytesOf s))), ob⟩) : WG G E.P N ops (⟨some d, .convert src dst x, ty, pos, after, gd⟩ :: l) Q ⟨tm, ob⟩ := WL.s2b (S := ⟨tm, ob⟩) hw hd hs hdst he hx hn k

theorem WG.apND {t e : TypeId} {s x : Operand} {z : Nat} {rows : List (List D)} (hw : St.want ⟨tm, ob⟩ ops ⟨some d, .call ⟨.builtin .append, #[s, x], #[t, t]⟩, ty, pos, after, gd⟩ = some true) (hd : Nat.blt d N.n = true)
    (ht : (E.ty t).kind = .slice e) (he : (E.ty e).known = true) (hz : (E.ty e).size = z) (hz0 : Nat.blt 0 z = true) (hby : Nat.ble 1 (E.ty e).bytes = true) (hs : nilT (St.ev ⟨tm, ob⟩ s) = true) (hx : srcRows ob (St.ev ⟨tm, ob⟩ x) = some (z, rows))
    (hroom : (0 + rows.length) * (E.ty e).bytes ≤ 140737488355328)
    (k : WG G E.P N ops l Q ⟨upd tm d (.d (.sl z rows)), ob⟩) : WG G E.P N ops (⟨some d, .call ⟨.builtin .append, #[s, x], #[t, t]⟩, ty, pos, after, gd⟩ :: l) Q ⟨tm, ob⟩ := WL.appendNilD (S := ⟨tm, ob⟩) hw hd ht he hz hz0 hby hs hx hroom k

theorem WG.ixR {t e : TypeId} {x ix : Operand} {z : Nat} {rows : List (List D)} {k : IntKind} {i : Int} {r : List D} (hw : St.want ⟨tm, ob⟩ ops ⟨some d, .indexAddr t x ix, ty, pos, after, gd⟩ = some true) (hd : Nat.blt d N.n = true)
    (ht : (E.ty t).kind = .slice e) (he : (E.ty e).known = true) (hz : (E.ty e).size = z) (hx : norm ob (St.ev ⟨tm, ob⟩ x) = .d (.sl z rows)) (hi : St.ev ⟨tm, ob⟩ ix = .d (.v (.int k i))) (hb : 0 ≤ i ∧ i < rows.length) (hr : rows[i.toNat]? = some r)
    (kk : WG G E.P N ops l Q ⟨upd tm d (.ea r 0), ob⟩) : WG G E.P N ops (⟨some d, .indexAddr t x ix, ty, pos, after, gd⟩ :: l) Q ⟨tm, ob⟩ := WL.index (S := ⟨tm, ob⟩) hw hd ht he hz hx hi hb hr kk

/-- The nil slice held against nil. -/
theorem WG.nlEq {t e : TypeId} {rt : TypeId} {x : Operand} {z : Nat} (hw : St.want ⟨tm, ob⟩ ops ⟨some d, .binOp .eql t x (.const (.slice none 0 0)) rt, ty, pos, after, gd⟩ = some true) (hd : Nat.blt d N.n = true)
    (ht : (E.ty t).kind = .slice e) (hx : St.ev ⟨tm, ob⟩ x = .d (.nl z))
    (k : WG G E.P N ops l Q ⟨upd tm d (.d (.v (.bool true))), ob⟩) : WG G E.P N ops (⟨some d, .binOp .eql t x (.const (.slice none 0 0)) rt, ty, pos, after, gd⟩ :: l) Q ⟨tm, ob⟩ :=
  WL.oper (S := ⟨tm, ob⟩) hw fun w0 σ0 a w g R => by
    have hv := R.ev x
    rw [hx] at hv
    have hu : a.eval x = .slice none 0 0 := hv.inv_d.inv_nl
    have h1 := Go.run_eql_slice_nil (P := E.P) w t e none 0 0 (E.slice ht)
    have h2 : a.eval (.const (.slice none 0 0)) = .slice none 0 0 := rfl
    have h3 : eqGuard .eql t x (.const (.slice none 0 0)) (.slice none 0 0) (.slice none 0 0) = pure () := by simp [eqGuard]
    unfold Oper.wp Oper.upon
    simp only [execOp, hu, h2, h3]
    simp only [Sem.run_bind, Sem.run_pure, Result.andThen_ok, h1]
    exact k w0 σ0 _ w g (R.set (by simpa using hd) (.d _ _ (.v _)))

/-- A cell of a variable at a place that is no written number. -/
theorem WG.ldA {t : TypeId} {x : Operand} {l0 off : Nat} {cs : List T} {c : T} (hw : St.want ⟨tm, ob⟩ ops ⟨some d, .load t x, ty, pos, after, gd⟩ = some true) (hd : Nat.blt d N.n = true)
    (hk : (E.ty t).known = true) (ha : (E.ty t).agg = false) (hx : St.ev ⟨tm, ob⟩ x = .lp l0 off) (hj : ob[l0]? = some (.pv cs)) (hc : cs[off]? = some c)
    (k : WG G E.P N ops l Q ⟨upd tm d c, ob⟩) : WG G E.P N ops (⟨some d, .load t x, ty, pos, after, gd⟩ :: l) Q ⟨tm, ob⟩ :=
  WG.s (p := True) hw hd (by
    show evLoad E ⟨tm, ob⟩ t (St.ev ⟨tm, ob⟩ x) = _
    rw [hx]
    simp only [evLoad, hk, hj, ha, cond_true, cond_false, hc]) trivial k
end

end Go.Proofs.YthaakpbdijhgiaaGreatDoor
