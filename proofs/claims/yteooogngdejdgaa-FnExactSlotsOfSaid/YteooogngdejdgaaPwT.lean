/-
  The small logic, twentieth part: bytes to a string; stores and loads at a place in a slice of the call's own that is written out as what lies before, the row, what lies behind. Conditions: none.
-/
import Derived.Test.YteooogngdejdgaaPwS
set_option linter.unusedVariables false
set_option linter.unusedSimpArgs false
namespace Go.Proofs.Yteooogngdejdgaa
open Go.RowKit

def byteRow (n : Int) : List D := [.v (.int .u8 n)]
def strB (ns : List Int) : ByteArray := ns.foldl (fun r n => r.push (UInt8.ofNat n.toNat)) ByteArray.empty

section
variable {E : Env} {N : Nm} {Q : Exit → St → Prop} {S : St} {ops l : List Oper} {ty : TypeId} {pos : String} {after : Array Edge} {gd : Option (Nat × Bool)} {d : Nat}

theorem WL.b2s {src dst e : TypeId} {x : Operand} {ns : List Int} (hw : S.want ops ⟨some d, .convert src dst x, ty, pos, after, gd⟩ = some true) (hd : Nat.blt d N.n = true)
    (hs : (E.ty src).kind = .slice e) (he : (E.ty e).kind = .int .u8) (hdst : (E.ty dst).kind = .string) (hx : srcRows S.ob (S.ev x) = some (1, ns.map byteRow))
    (k : WL E.P N ops l Q (S.set d (.d (.v (.string (strB ns)))))) : WL E.P N ops (⟨some d, .convert src dst x, ty, pos, after, gd⟩ :: l) Q S :=
  WL.val hw hd (fun w0 σ0 a w g R => by
    obtain ⟨A, c, news, hxv, hA, hnl, hcell, hn1, hnz, hnr⟩ := R.inv.src hx (R.ev x) (by decide)
    have hnews : news = ns.map (Value.int .u8) := by
      apply List.ext_getElem?
      intro j
      have hlen : news.length = ns.length := by simpa using hnl
      by_cases hj : j < ns.length
      · obtain ⟨y, hy, hd⟩ := hnr j 0 (byteRow ns[j]) (.v (.int .u8 ns[j])) (by simp [hj]) rfl
        rw [Nat.mul_one, Nat.add_zero] at hy
        rw [hy]
        cases hd
        simp [hj]
      · rw [List.getElem?_eq_none (by omega), List.getElem?_eq_none (by simp; omega)]
    refine ⟨_, ?_, .d _ _ (.v _)⟩
    have hrun : (convert src dst (a.eval x)).run E.P w = .ok (.string (strB ns)) w := by
      rw [hxv, run_convert_bytes_string w src dst e A _ c (E.slice hs) (E.int he) (E.string hdst)]
      cases A with
      | none =>
        obtain ⟨h1, h2⟩ := hA rfl
        have : ns = [] := by simpa using h1
        subst this
        simp [Conv.bytesToString, strB, ByteArray.empty, ByteArray.emptyWithCapacity]
      | some ad =>
        have hl := run_loadCells_list (P := E.P) (w := w) ad news (fun j v hj => hcell ad rfl j v hj)
        rw [hnews] at hl
        have h2 := run_bytesToString (P := E.P) w ad (ns.map byteRow).length c ns (by simpa using hl)
        rw [h2]; rfl
    simp [execOp, hrun]) k

section
variable {tm : Nat → T} {ob : List Ob} {G : List Nat}

theorem WG.b2s {src dst e : TypeId} {x : Operand} {ns : List Int} (hw : St.want ⟨tm, ob⟩ ops ⟨some d, .convert src dst x, ty, pos, after, gd⟩ = some true) (hd : Nat.blt d N.n = true)
    (hs : (E.ty src).kind = .slice e) (he : (E.ty e).kind = .int .u8) (hdst : (E.ty dst).kind = .string) (hx : srcRows ob (St.ev ⟨tm, ob⟩ x) = some (1, ns.map byteRow))
    (k : WG G E.P N ops l Q ⟨upd tm d (.d (.v (.string (strB ns)))), ob⟩) : WG G E.P N ops (⟨some d, .convert src dst x, ty, pos, after, gd⟩ :: l) Q ⟨tm, ob⟩ := WL.b2s (S := ⟨tm, ob⟩) hw hd hs he hdst hx k

theorem leOb {tm : Nat → T} {ob ob' : List Ob} {S' : St} (h : ob = ob') (k : St.le N ⟨tm, ob'⟩ S') : St.le N ⟨tm, ob⟩ S' := by subst h; exact k

theorem mid_at {α : Type} (A : List α) (r : α) (B : List α) : (A ++ r :: B)[A.length]? = some r := by simp
theorem mid_set {α : Type} (A : List α) (r r' : α) (B : List α) : (A ++ r :: B).set A.length r' = A ++ r' :: B := by simp

theorem WG.ixA {t e : TypeId} {x ix : Operand} {z : Nat} {e' : TypeId} {A B : List (List D)} {r : List D} {n m : Nat} {pub : Bool} {k : IntKind} {i : Int} (hw : St.want ⟨tm, ob⟩ ops ⟨some d, .indexAddr t x ix, ty, pos, after, gd⟩ = some true) (hd : Nat.blt d N.n = true)
    (ht : (E.ty t).kind = .slice e) (he : (E.ty e).known = true) (hz : (E.ty e).size = z) (hx : St.ev ⟨tm, ob⟩ x = .og m n) (hm : ob[m]? = some (.gr z e' (A ++ r :: B) n pub)) (hi : St.ev ⟨tm, ob⟩ ix = .d (.v (.int k i)))
    (hA : i = (A.length : Int))
    (kk : WG G E.P N ops l Q ⟨upd tm d (.eg m n z A.length 0), ob⟩) : WG G E.P N ops (⟨some d, .indexAddr t x ix, ty, pos, after, gd⟩ :: l) Q ⟨tm, ob⟩ := by
  have e1 : i.toNat = A.length := by omega
  have := WG.ixo (E := E) (G := G) (Q := Q) (l := l) hw hd ht he hz hx hm hi ⟨by omega, by simp; omega⟩ (by rw [e1]; exact kk)
  exact this

theorem WG.stA {t : TypeId} {x v : Operand} {m z n i off : Nat} {e : TypeId} {A B : List (List D)} {r vals : List D} (hw : St.want ⟨tm, ob⟩ ops ⟨none, .store t x v, ty, pos, after, gd⟩ = some true) (hk : (E.ty t).known = true)
    (hx : St.ev ⟨tm, ob⟩ x = .eg m n z i off) (hm : ob[m]? = some (.gr z e (A ++ r :: B) n false)) (hi : i = A.length) (hv : rowOf ob (fixNil E t (St.ev ⟨tm, ob⟩ v)) = some vals) (hn : Nat.beq vals.length (E.ty t).size = true) (ho : Nat.ble (off + vals.length) z = true)
    (h1 : onesD vals = true)
    (k : WG G E.P N ops l Q ⟨tm, ob.set m (.gr z e (A ++ setAll r off vals :: B) n false)⟩) : WG G E.P N ops (⟨none, .store t x v, ty, pos, after, gd⟩ :: l) Q ⟨tm, ob⟩ := by
  subst hi
  refine WG.stE hw hk hx hm (mid_at A r B) hv hn ho h1 ?_
  rw [mid_set]
  exact k
end
end
end Go.Proofs.Yteooogngdejdgaa
