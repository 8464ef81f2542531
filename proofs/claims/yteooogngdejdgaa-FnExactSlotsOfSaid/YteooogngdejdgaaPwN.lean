/-
  The small logic, fourteenth part: 'make' of a slice, a store to an element of the call's own slice. Conditions: none.
-/
import Derived.Test.YteooogngdejdgaaPwL
import Derived.Laws.MakeOwn
import Derived.MapKept
set_option linter.unusedVariables false
set_option linter.unusedSimpArgs false
namespace Go.Proofs.Yteooogngdejdgaa
open Go.RowKit

section
variable {N : Nm} {S : St} {w0 : World} {σ0 : Bs} {ob : List Ob} {a : Act} {w : World} {g : Gh}

theorem setAll_take {α : Type} (cs us : List α) (o n : Nat) (h : o + us.length ≤ n) (hn : n ≤ cs.length) : (setAll cs o us).take n = setAll (cs.take n) o us := by
  apply List.ext_getElem?
  intro i
  rw [setAll_at _ _ _ _ (by simp; omega), List.getElem?_take]
  by_cases hi : i < n
  · rw [if_pos hi, setAll_at _ _ _ _ (by omega), List.getElem?_take, if_pos hi]
  · rw [if_neg hi, if_neg (by omega), List.getElem?_take, if_neg hi]

theorem row_lt {z i j n : Nat} (hi : i < n) (hj : j < z) : i * z + j < n * z := by
  have h1 : (i + 1) * z ≤ n * z := Nat.mul_le_mul_right _ hi
  rw [Nat.add_mul] at h1
  omega

theorem row_in {z i j i' o m : Nat} (hj : j < z) (ho : o + m ≤ z) (h1 : i * z + o ≤ i' * z + j) (h2 : i' * z + j < i * z + o + m) : i' = i := by
  by_cases h : i' < i
  · have : (i' + 1) * z ≤ i * z := Nat.mul_le_mul_right _ h
    rw [Nat.add_mul] at this
    omega
  · by_cases h' : i < i'
    · have : (i + 1) * z ≤ i' * z := Nat.mul_le_mul_right _ h'
      rw [Nat.add_mul] at this
      omega
    · omega

theorem Inv.setGr (I : Inv w0 σ0 ob w g) {w' : World} {m z n i off : Nat} {e e' : TypeId} {rows : List (List D)} {r vals : List D} {us cur : List Value} {b cap : Nat} (hm : ob[m]? = some (.gr z e rows n false))
    (hγ : g.γ m n = .slice (some ⟨b, 0, none⟩) rows.length cap) (hh : w.heap[b]? = some (.cells cur.toArray e' (0, 0)))
    (hr : rows[i]? = some r) (hoff : off + vals.length ≤ z) (hul : vals.length = us.length) (hrd : ∀ (j : Nat) (x : D) (u : Value), vals[j]? = some x → us[j]? = some u → RD g.σ x u) (h1 : ∀ u ∈ us, u.oneCell' = true)
    (hh' : w'.heap[b]? = some (.cells (setAll cur (i * z + off) us).toArray e' (0, 0))) (hos : w'.os = w.os) (htape : w'.tape = w.tape) (hout : w'.output = w.output) (hsize : w'.heap.size = w.heap.size)
    (hother : ∀ k, k ≠ b → w'.heap[k]? = w.heap[k]?) : Inv w0 σ0 (ob.set m (.gr z e (rows.set i (setAll r off vals)) n false)) w' g := by
  have hlt : m < ob.length := (List.getElem?_eq_some_iff.1 hm).1
  have hil : i < rows.length := (List.getElem?_eq_some_iff.1 hr).1
  obtain ⟨hlim, xs, ⟨hown, hmine⟩, hzr, hxr, hone, hσ⟩ := I.obs m _ hm
  have hrz : r.length = z := hzr r (List.mem_of_getElem? hr)
  have hown' := hown
  obtain ⟨hxl, hown2⟩ := hown'
  obtain ⟨hcapl, hcapm, hcs, htake, hee⟩ : rows.length ≤ cap ∧ cap ≤ maxLen ∧ cur.length = cap * z ∧ cur.take (rows.length * z) = xs ∧ e' = e := by
    rcases hown2 with ⟨hv, _⟩ | ⟨b2, cap2, cur2, hv, hb, hhb, hc, hmm, hs, ht⟩
    · rw [hγ] at hv; cases hv
    · rw [hγ] at hv
      injection hv with e1 _ e3
      injection e1 with e1
      injection e1 with e1 _ _
      subst e1; subst e3
      rw [hh] at hhb
      have := Option.some.inj hhb
      injection this with e4 e5 _
      subst e4
      exact ⟨hc, hmm, by simpa using hs, by simpa using ht, e5⟩
  subst hee
  have hpos : i * z + off + us.length ≤ rows.length * z := by
    have h1 : (i + 1) * z ≤ rows.length * z := Nat.mul_le_mul_right _ hil
    rw [Nat.add_mul] at h1
    omega
  have hcaps : rows.length * z ≤ cur.length := by rw [hcs]; exact Nat.mul_le_mul_right _ hcapl
  have hxs' : (setAll cur (i * z + off) us).take (rows.length * z) = setAll xs (i * z + off) us := by
    rw [setAll_take _ _ _ _ hpos hcaps, htake]
  refine I.turn hm (fun _ _ _ _ h => by cases h) (by omega) (Gh.le_refl g) rfl (fun _ _ => ⟨rfl, rfl⟩) hos htape hout (by omega) (fun b2 _ hb2 => hother b2 fun e => hb2 (by subst e; simp [Gh.at, hγ, Value.ownBlock]))
    ⟨hlim, setAll xs (i * z + off) us, ⟨⟨by rw [setAll_length, hxl]; simp, .inr ⟨b, cap, _, by rw [hγ]; simp, Nat.zero_le _, hh', by simpa using hcapl, hcapm, by simp [setAll_length, hcs], by simpa using hxs'⟩⟩, hmine⟩, fun q hq => ?_, fun i' j q x hq hx => ?_, fun u hu => ?_, hσ⟩ fun b2 hb2 => .inl hb2
  · rcases List.mem_or_eq_of_mem_set hq with h | h
    · exact hzr q h
    · rw [h, setAll_length, hrz]
  · rw [List.getElem?_set] at hq
    have hat := setAll_at us xs (i * z + off) (i' * z + j) (by rw [hxl]; exact hpos)
    by_cases hi : i = i'
    · subst hi
      rw [if_pos rfl, if_pos hil] at hq
      simp only [Option.some.injEq] at hq
      subst hq
      have hjz : j < z := by
        have := (List.getElem?_eq_some_iff.1 hx).1
        rwa [setAll_length, hrz] at this
      rw [setAll_at _ _ _ _ (by omega)] at hx
      by_cases hj : off ≤ j ∧ j < off + vals.length
      · rw [if_pos hj] at hx
        have hju : j - off < us.length := by omega
        refine ⟨us[j - off], ?_, hrd _ x _ hx (List.getElem?_eq_getElem hju)⟩
        rw [hat, if_pos (by omega), show i * z + j - (i * z + off) = j - off by omega]
        exact List.getElem?_eq_getElem hju
      · rw [if_neg hj] at hx
        obtain ⟨u, hu, hd⟩ := hxr i j r x hr hx
        refine ⟨u, ?_, hd⟩
        rw [hat, if_neg (by omega)]
        exact hu
    · rw [if_neg hi] at hq
      obtain ⟨u, hu, hd⟩ := hxr i' j q x hq hx
      have hjz : j < z := by
        have := (List.getElem?_eq_some_iff.1 hx).1
        rwa [hzr q (List.mem_of_getElem? hq)] at this
      refine ⟨u, ?_, hd⟩
      rw [hat, if_neg (fun h => hi (row_in hjz (by omega) h.1 h.2).symm)]
      exact hu
  · obtain ⟨q, hq⟩ := List.getElem?_of_mem hu
    rw [setAll_at _ _ _ _ (by rw [hxl]; exact hpos)] at hq
    split at hq
    · exact h1 u (List.mem_of_getElem? hq)
    · exact hone u (List.mem_of_getElem? hq)
end

section
variable {E : Env} {N : Nm} {Q : Exit → St → Prop} {S : St} {ops l : List Oper} {ty : TypeId} {pos : String} {after : Array Edge} {gd : Option (Nat × Bool)} {d : Nat}

theorem WL.storeEg {t : TypeId} {x v : Operand} {m z n i off : Nat} {e : TypeId} {rows : List (List D)} {r vals : List D} (hw : S.want ops ⟨none, .store t x v, ty, pos, after, gd⟩ = some true) (hk : (E.ty t).known = true)
    (hx : S.ev x = .eg m n z i off) (hm : S.ob[m]? = some (.gr z e rows n false)) (hr : rows[i]? = some r) (hv : rowOf S.ob (fixNil E t (S.ev v)) = some vals) (hn : Nat.beq vals.length (E.ty t).size = true) (ho : Nat.ble (off + vals.length) z = true)
    (h1 : onesD vals = true)
    (k : WL E.P N ops l Q ⟨S.tm, S.ob.set m (.gr z e (rows.set i (setAll r off vals)) n false)⟩) : WL E.P N ops (⟨none, .store t x v, ty, pos, after, gd⟩ :: l) Q S :=
  WL.effskip (by simp) hw (fun w0 σ0 a w g R => by
    obtain ⟨inf, zz, hinf, hsz, _⟩ := E.info hk
    have hxr := R.ev x
    rw [hx] at hxr
    obtain ⟨b, len, cap, hlim, hγ, hxv⟩ := hxr.inv_eg
    obtain ⟨c1, c2, c3⟩ := R.inv.row hv ((R.ev v).fixNil E t) h1
    obtain ⟨hl, xs, ⟨hown, _⟩, hzr, _⟩ := R.inv.obs m _ hm
    have hil : i < rows.length := (List.getElem?_eq_some_iff.1 hr).1
    have ho' := Nat.le_of_ble_eq_true ho
    have hn' := Nat.eq_of_beq_eq_true hn
    rcases hown.2 with ⟨hv0, _⟩ | ⟨b2, cap2, cur, hv2, hb, hh, hc, hmm, hs, ht⟩
    · rw [hγ] at hv0; cases hv0
    · rw [hγ] at hv2
      injection hv2 with e1 e2 e3
      injection e1 with e1
      injection e1 with e1 _ _
      subst e1; subst e3; subst e2
      obtain ⟨cur⟩ := cur
      have hpos : i * z + off + vals.length ≤ cur.length := by
        have h1 : (i + 1) * z ≤ rows.length * z := Nat.mul_le_mul_right _ hil
        have h2 : rows.length * z ≤ cap * z := Nat.mul_le_mul_right _ hc
        have h3 : cur.length = cap * z := by simpa using hs
        rw [Nat.add_mul] at h1
        omega
      obtain ⟨w', hrun, hh', g1, g2, g3, g4, g5⟩ := run_storeCells (P := E.P) (a.eval v).cells.toList cur (i * z + off) 0 w hh (by omega) c3
      refine ⟨w', g, ?_, Gh.le_refl g, R.inv.setGr hm hγ hh hr ho' c1 c2 c3 (by simpa using hh') g1 g2 g3 g4 g5⟩
      have hsize : (a.eval v).cells.size = inf.size := by
        have : (a.eval v).cells.toList.length = (a.eval v).cells.size := Array.length_toList
        omega
      simp [execOp, Instr.storeAt, Instr.sureAddr, hxv, storeVar, sizeOf, typeInfo, hinf, hsize, hrun]) k

theorem WL.makeSlice {t e : TypeId} {lo hi : Operand} {z : Nat} {kl kc : IntKind} {li ci : Int} {zs : List D} (hw : S.want ops ⟨some d, .makeSlice t lo hi, ty, pos, after, gd⟩ = some true) (hd : Nat.blt d N.n = true)
    (ht : (E.ty t).kind = .slice e) (he : (E.ty e).known = true) (hz : (E.ty e).size = z) (hz0 : Nat.blt 0 z = true) (hby : Nat.ble 1 (E.ty e).bytes = true) (hzs : (E.ty e).zero = zs)
    (hl : S.ev lo = .d (.v (.int kl li))) (hc : S.ev hi = .d (.v (.int kc ci))) (hb : 0 ≤ li ∧ li ≤ ci ∧ ((E.ty e).bytes : Int) * ci ≤ 281474976710656)
    (k : WL E.P N ops l Q ⟨(S.set d (.og S.ob.length 0)).tm, S.ob ++ [.gr z e (List.replicate li.toNat zs) 0 false]⟩) : WL E.P N ops (⟨some d, .makeSlice t lo hi, ty, pos, after, gd⟩ :: l) Q S :=
  WL.eff (by simp) hw hd (fun w0 σ0 a w g R => by
    obtain ⟨inf, zv, hinf, hsz, hbytes, hzv, hzas, hzc⟩ := E.info he
    have h1 := (hl ▸ R.ev lo : RT g (.d (.v (.int kl li))) _).inv_v
    have h2 := (hc ▸ R.ev hi : RT g (.d (.v (.int kc ci))) _).inv_v
    have hby' := Nat.le_of_ble_eq_true hby
    obtain ⟨hb1, hb2, hb3⟩ := hb
    have hz0' : 0 < z := by simpa using hz0
    have hcs : ci ≤ 281474976710656 := by
      have : (1 : Int) * ci ≤ ((E.ty e).bytes : Int) * ci := Int.mul_le_mul_of_nonneg_right (by omega) (by omega)
      omega
    have hrun := run_make (P := E.P) w t e inf zv (E.slice ht) hinf hzv kl kc li ci hb1 hb2 (by rw [hbytes]; exact hb3) (by omega)
    rw [hzs] at hzas
    obtain ⟨z1, z2, z3⟩ := zerosAre_ok hzas
    have hzsl : zs.length = z := by rw [z1]; simpa [hz] using hzc
    have hzcl : zv.cells.size = z := by rw [hzc, hz]
    let xs : List Value := (madeCells zv.cells (ci.toNat * inf.size)).toList.take (li.toNat * z)
    have hle : li.toNat * z ≤ ci.toNat * z := Nat.mul_le_mul_right _ (by omega)
    have hxsl : xs.length = li.toNat * z := by
      simp only [xs, List.length_take, Array.length_toList, size_madeCells, hsz, hz]
      omega
    have hxat : ∀ q, q < li.toNat * z → xs[q]? = zv.cells.toList[q % z]? := fun q hq => by
      have hq2 : q % z < zv.cells.size := by rw [hzcl]; exact Nat.mod_lt _ hz0'
      simp only [xs, List.getElem?_take, if_pos hq]
      rw [Array.getElem?_toList, madeCells]
      simp only [Array.getElem?_map]
      rw [Array.getElem?_range, if_pos (by rw [hsz, hz]; omega)]
      simp only [Option.map_some]
      rw [hzcl, getElem!_pos zv.cells (q % z) hq2, Array.getElem?_toList, Array.getElem?_eq_getElem hq2]
    have hmem : ∀ u ∈ xs, u ∈ zv.cells.toList := fun u hu => by
      obtain ⟨q, hq⟩ := List.getElem?_of_mem hu
      have hql : q < li.toNat * z := by rw [← hxsl]; exact (List.getElem?_eq_some_iff.1 hq).1
      rw [hxat q hql] at hq
      exact List.mem_of_getElem? hq
    have hheap : (w.alloc (.cells (madeCells zv.cells (ci.toNat * inf.size)) e)).heap[w.heap.size]? = some (.cells (madeCells zv.cells (ci.toNat * inf.size)) e (0, 0)) := by
      exact (MapKept.heap_alloc w _).1
    obtain ⟨g', hle', I', ht'⟩ := R.inv.addGr (by rw [R.hm]; exact R.hl) (w' := w.alloc (.cells (madeCells zv.cells (ci.toNat * inf.size)) e)) ((Below.refl _ w).alloc (Nat.le_refl _) _) z e (List.replicate li.toNat zs)
      (.slice (some ⟨w.heap.size, 0, none⟩) li.toNat ci.toNat) xs
      ⟨by simpa using hxsl, .inr ⟨w.heap.size, ci.toNat, _, by simp, Nat.le_refl _, hheap, by simp; omega, by simp only [maxLen]; omega, by rw [size_madeCells, hsz, hz], by simp [xs]⟩⟩
      (fun r hr => by rw [List.eq_of_mem_replicate hr]; exact hzsl)
      (fun i j r x hr hx => by
        have hil : i < li.toNat := by have := (List.getElem?_eq_some_iff.1 hr).1; simpa using this
        obtain rfl : r = zs := List.eq_of_mem_replicate (List.mem_of_getElem? hr)
        have hjz : j < z := by rw [← hzsl]; exact (List.getElem?_eq_some_iff.1 hx).1
        have hq := row_lt hil hjz
        have hmod : (i * z + j) % z = j := by rw [Nat.add_comm, Nat.add_mul_mod_self_right, Nat.mod_eq_of_lt hjz]
        have hjl : j < zv.cells.toList.length := by simp [hzcl, hjz]
        refine ⟨zv.cells.toList[j], by rw [hxat _ hq, hmod]; exact List.getElem?_eq_getElem hjl, z3 _ j x _ hx (List.getElem?_eq_getElem hjl)⟩)
      (fun u hu => z2 u (hmem u hu))
    refine ⟨_, _, g', ?_, hle', I', ht'⟩
    simp [execOp, h1, h2, hrun]) k

section
variable {tm : Nat → T} {ob : List Ob} {G : List Nat}

theorem WG.obEq {P : Program} {ob' : List Ob} (h : ob = ob') (k : WG G P N ops l Q ⟨tm, ob'⟩) : WG G P N ops l Q ⟨tm, ob⟩ := by rw [h]; exact k
theorem W.obEq {P : Program} {c : Code} {ob' : List Ob} (h : ob = ob') (k : W P N c Q ⟨tm, ob'⟩) : W P N c Q ⟨tm, ob⟩ := by rw [h]; exact k

theorem WG.stE {t : TypeId} {x v : Operand} {m z n i off : Nat} {e : TypeId} {rows : List (List D)} {r vals : List D} (hw : St.want ⟨tm, ob⟩ ops ⟨none, .store t x v, ty, pos, after, gd⟩ = some true) (hk : (E.ty t).known = true)
    (hx : St.ev ⟨tm, ob⟩ x = .eg m n z i off) (hm : ob[m]? = some (.gr z e rows n false)) (hr : rows[i]? = some r) (hv : rowOf ob (fixNil E t (St.ev ⟨tm, ob⟩ v)) = some vals) (hn : Nat.beq vals.length (E.ty t).size = true) (ho : Nat.ble (off + vals.length) z = true)
    (h1 : onesD vals = true)
    (k : WG G E.P N ops l Q ⟨tm, ob.set m (.gr z e (rows.set i (setAll r off vals)) n false)⟩) : WG G E.P N ops (⟨none, .store t x v, ty, pos, after, gd⟩ :: l) Q ⟨tm, ob⟩ :=
  WL.storeEg (S := ⟨tm, ob⟩) hw hk hx hm hr hv hn ho h1 k

theorem WG.mk {t e : TypeId} {lo hi : Operand} {z K : Nat} {kl kc : IntKind} {li ci : Int} {zs : List D} (hw : St.want ⟨tm, ob⟩ ops ⟨some d, .makeSlice t lo hi, ty, pos, after, gd⟩ = some true) (hd : Nat.blt d N.n = true)
    (ht : (E.ty t).kind = .slice e) (he : (E.ty e).known = true) (hz : (E.ty e).size = z) (hz0 : Nat.blt 0 z = true) (hby : Nat.ble 1 (E.ty e).bytes = true) (hzs : (E.ty e).zero = zs)
    (hl : St.ev ⟨tm, ob⟩ lo = .d (.v (.int kl li))) (hc : St.ev ⟨tm, ob⟩ hi = .d (.v (.int kc ci))) (hK : ob.length = K) (hb : 0 ≤ li ∧ li ≤ ci ∧ ((E.ty e).bytes : Int) * ci ≤ 281474976710656)
    (k : WG G E.P N ops l Q ⟨upd tm d (.og K 0), ob ++ [.gr z e (List.replicate li.toNat zs) 0 false]⟩) : WG G E.P N ops (⟨some d, .makeSlice t lo hi, ty, pos, after, gd⟩ :: l) Q ⟨tm, ob⟩ := by
  subst hK
  exact WL.makeSlice (S := ⟨tm, ob⟩) hw hd ht he hz hz0 hby hzs hl hc hb k
end
end
end Go.Proofs.Yteooogngdejdgaa
