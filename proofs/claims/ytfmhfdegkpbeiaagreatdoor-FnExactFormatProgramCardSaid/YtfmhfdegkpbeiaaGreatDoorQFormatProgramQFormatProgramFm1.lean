/-
  The text of a tree; no program in sight. Conditions: none.
-/
import Derived.Test.YtfmhfdegkpbeiaaGreatDoorQFormatProgramQFormatProgramJn1
import Derived.Test.YtfmhfdegkpbeiaaGreatDoorQFormatProgramQFormatProgramV4
import Derived.Test.YtfmhfdegkpbeiaaGreatDoorQFormatProgramQFormatProgramTr8
set_option linter.unusedVariables false
set_option linter.unusedSimpArgs false
set_option maxRecDepth 100000
namespace Go.Proofs.YtfmhfdegkpbeiaaGreatDoor
open Go.RowKit

abbrev kommaS : ByteArray := ⟨#[44]⟩
def litF : List ByteArray := [⟨#[110, 117, 108, 108]⟩, ⟨#[102, 97, 108, 115, 101]⟩, ⟨#[116, 114, 117, 101]⟩]
def opsF : List ByteArray := [⟨#[43]⟩, ⟨#[45]⟩, ⟨#[42]⟩, ⟨#[61, 61]⟩, ⟨#[33, 61]⟩, ⟨#[60]⟩, ⟨#[60, 61]⟩, ⟨#[62]⟩, ⟨#[62, 61]⟩, ⟨#[47]⟩, ⟨#[37]⟩]
def midF (op : Int) : ByteArray := if op = 5 then ⟨#[32, 124, 32]⟩ else if op = 6 then ⟨#[32, 44, 32]⟩ else if op = 7 then ⟨#[32, 47, 47, 32]⟩ else if op = 8 then ⟨#[32, 111, 114, 32]⟩ else ⟨#[32, 97, 110, 100, 32]⟩
def itemF (n : Nd) (B : ByteArray) : ByteArray := (quoted n.text ++ ⟨#[58]⟩) ++ B

/-- The text of a node, over its parts' texts. -/
def fmtB (n : Nd) (A B C : ByteArray) (M : List ByteArray) : ByteArray :=
  if n.op = 1 then ⟨#[46]⟩ else if n.op = 15 then ⟨#[91, 93]⟩ else if n.op = 16 then ⟨#[123, 125]⟩ else if n.op = 24 then ⟨#[46, 46]⟩
  else if n.op = 2 then itoaS n.num
  else if n.op = 3 then quoted n.text
  else if n.op = 4 then litF.getD n.num.toNat default
  else if n.op = 5 ∨ n.op = 6 ∨ n.op = 7 ∨ n.op = 8 ∨ n.op = 9 then (((⟨#[40]⟩ ++ A) ++ midF n.op) ++ B) ++ ⟨#[41]⟩
  else if n.op = 10 then (((((⟨#[40]⟩ ++ A) ++ ⟨#[32]⟩) ++ opsF.getD (n.num - 1).toNat default) ++ ⟨#[32]⟩) ++ B) ++ ⟨#[41]⟩
  else if n.op = 11 then ((A ++ ⟨#[91]⟩) ++ B) ++ ⟨#[93]⟩
  else if n.op = 12 then A ++ ⟨#[91, 93]⟩
  else if n.op = 13 then (⟨#[40, 116, 114, 121, 32]⟩ ++ A) ++ ⟨#[41]⟩
  else if n.op = 14 then (⟨#[91]⟩ ++ A) ++ ⟨#[93]⟩
  else if n.op = 17 then (⟨#[123]⟩ ++ joinS M kommaS) ++ ⟨#[125]⟩
  else if n.op = 18 then (((((⟨#[40, 105, 102, 32]⟩ ++ A) ++ ⟨#[32, 116, 104, 101, 110, 32]⟩) ++ B) ++ ⟨#[32, 101, 108, 115, 101, 32]⟩) ++ C) ++ ⟨#[32, 101, 110, 100, 41]⟩
  else if n.op = 19 then (((((((⟨#[40, 114, 101, 100, 117, 99, 101, 32]⟩ ++ A) ++ ⟨#[32, 97, 115, 32, 36]⟩) ++ n.text) ++ ⟨#[32, 40]⟩) ++ B) ++ ⟨#[32, 59, 32]⟩) ++ C) ++ ⟨#[41, 41]⟩
  else if n.op = 20 then (((((⟨#[40]⟩ ++ A) ++ ⟨#[32, 97, 115, 32, 36]⟩) ++ n.text) ++ ⟨#[32, 124, 32]⟩) ++ B) ++ ⟨#[41]⟩
  else if n.op = 21 then ⟨#[36]⟩ ++ n.text
  else if n.op = 23 then ((n.text ++ ⟨#[40]⟩) ++ A) ++ ⟨#[41]⟩
  else n.text

mutual
def fmtF (ns : List Nd) : Nat → Nat → ByteArray
  | 0, _ => ⟨#[]⟩
  | f + 1, k => fmtB (ns.getD k default) (fmtF ns f (ns.getD k default).a.toNat) (fmtF ns f (ns.getD k default).b.toNat) (fmtF ns f (ns.getD k default).c.toNat) (memF ns f (ns.getD k default).a.toNat ++ [itemF (ns.getD k default) (fmtF ns f (ns.getD k default).b.toNat)])
def memF (ns : List Nd) : Nat → Nat → List ByteArray
  | 0, _ => []
  | f + 1, k => if (ns.getD k default).op = 16 then [] else memF ns f (ns.getD k default).a.toNat ++ [itemF (ns.getD k default) (fmtF ns f (ns.getD k default).b.toNat)]
end

/-- What is known of a right tree's node. -/
structure NodeOK (ns : List Nd) (k : Nat) : Prop where
  op : 1 ≤ (ns.getD k default).op ∧ (ns.getD k default).op ≤ 24
  a : 1 ≤ arN (ns.getD k default).op → 0 ≤ (ns.getD k default).a ∧ (ns.getD k default).a < k
  b : 2 ≤ arN (ns.getD k default).op → 0 ≤ (ns.getD k default).b ∧ (ns.getD k default).b < k
  c : 3 ≤ arN (ns.getD k default).op → 0 ≤ (ns.getD k default).c ∧ (ns.getD k default).c < k
  text : (ns.getD k default).text.size ≤ 60
  quo : (ns.getD k default).op = 3 ∨ (ns.getD k default).op = 17 → okText (ns.getD k default).text = true
  num : (ns.getD k default).op = 2 → 0 ≤ (ns.getD k default).num ∧ (ns.getD k default).num ≤ 1000000000000000
  word : (ns.getD k default).op = 4 → 0 ≤ (ns.getD k default).num ∧ (ns.getD k default).num ≤ 2
  mark : (ns.getD k default).op = 10 → 1 ≤ (ns.getD k default).num ∧ (ns.getD k default).num ≤ 11
  mem : (ns.getD k default).op = 17 → (ns.getD (ns.getD k default).a.toNat default).op = 16 ∨ (ns.getD (ns.getD k default).a.toNat default).op = 17

theorem kidB_bound {n : Nd} {k i : Nat} (h : kidB n k i = true) (hi : i < arN n.op) : 0 ≤ kidI n i ∧ kidI n i < k := by
  unfold kidB at h
  rw [if_pos hi] at h
  simp only [Bool.and_eq_true, decide_eq_true_eq] at h
  omega

theorem name_size {s : ByteArray} (h : isNameM s = true) : s.size ≤ 12 := by
  unfold isNameM at h
  rw [decide_eq_true_eq] at h
  exact h.2.1

theorem nodeOK_of {ns : List Nd} {k : Nat} (h : nodeCode ns k = 0) : NodeOK ns k := by
  unfold nodeCode nodeC at h
  generalize hn : ns.getD k default = n at *
  split at h
  · exact absurd h (by decide)
  rename_i h1
  have h1 := Classical.not_not.1 h1
  split at h
  · exact absurd h (by decide)
  rename_i h2
  have h2 : formB3 n k = true := by simpa using h2
  split at h
  · exact absurd h (by decide)
  rename_i h3
  have h3 : txOk n = true := by simpa using h3
  split at h
  · exact absurd h (by decide)
  rename_i h4
  have h4 : numOk n = true := by simpa using h4
  split at h
  · exact absurd h (by decide)
  rename_i h5
  unfold formB3 at h2
  simp only [Bool.and_eq_true, Bool.or_eq_true, decide_eq_true_eq] at h2
  obtain ⟨⟨⟨⟨k0, k1⟩, k2⟩, kn⟩, kt⟩ := h2
  have e0 : kidI n 0 = n.a := rfl
  have e1 : kidI n 1 = n.b := rfl
  have e2 : kidI n 2 = n.c := rfl
  constructor
  · rw [hn]; exact h1
  · rw [hn]; intro ha; have := kidB_bound k0 (by omega); omega
  · rw [hn]; intro ha; have := kidB_bound k1 (by omega); omega
  · rw [hn]; intro ha; have := kidB_bound k2 (by omega); omega
  · rw [hn]
    unfold txOk at h3
    split at h3
    · exact okText_size h3
    · split at h3
      · have := name_size h3; omega
      · split at h3
        · rw [Bool.and_eq_true] at h3
          have := name_size h3.1; omega
        · rename_i q1 q2 q3
          rcases kt with kt | kt
          · exfalso
            unfold hasTx at kt
            rw [decide_eq_true_eq] at kt
            omega
          · rw [kt]; exact Nat.zero_le _
  · rw [hn]
    intro ho
    unfold txOk at h3
    rw [if_pos ho] at h3
    exact h3
  · rw [hn]
    intro ho
    unfold numOk at h4
    rw [if_pos (by unfold hasNm; rw [decide_eq_true_eq]; omega)] at h4
    simp only [Bool.and_eq_true, decide_eq_true_eq] at h4
    rw [ho] at h4
    exact h4
  · rw [hn]
    intro ho
    unfold numOk at h4
    rw [if_pos (by unfold hasNm; rw [decide_eq_true_eq]; omega)] at h4
    simp only [Bool.and_eq_true, decide_eq_true_eq] at h4
    rw [ho] at h4
    exact h4
  · rw [hn]
    intro ho
    unfold numOk at h4
    rw [if_pos (by unfold hasNm; rw [decide_eq_true_eq]; omega)] at h4
    simp only [Bool.and_eq_true, decide_eq_true_eq] at h4
    rw [ho] at h4
    exact h4
  · rw [hn]
    intro ho
    by_cases e : (ns.getD n.a.toNat default).op = 16
    · exact .inl e
    · exact .inr (Decidable.byContradiction fun e2 => h5 ⟨ho, e, e2⟩)

/-! ### how long it is -/

def cntF (ns : List Nd) (k : Nat) : Nat := (full (nmT ns) k).length

theorem cnt_eq {ns : List Nd} {k : Nat} (h : NodeOK ns k) : cntF ns k = (if 1 ≤ arN (ns.getD k default).op then cntF ns (ns.getD k default).a.toNat else 0) + (if 2 ≤ arN (ns.getD k default).op then cntF ns (ns.getD k default).b.toNat else 0) + (if 3 ≤ arN (ns.getD k default).op then cntF ns (ns.getD k default).c.toNat else 0) + 1 := by
  have ha := h.a
  have hb := h.b
  have hc := h.c
  have hle := arN_le (ns.getD k default).op
  have hk : kidsOf (nmT ns) k = (([(ns.getD k default).a, (ns.getD k default).b, (ns.getD k default).c].take (arN (ns.getD k default).op)).map Int.toNat).filter (· < k) := rfl
  unfold cntF
  rw [full_eq, List.length_append, List.length_singleton, hk]
  generalize arN (ns.getD k default).op = r at *
  generalize ns.getD k default = n at *
  have : r = 0 ∨ r = 1 ∨ r = 2 ∨ r = 3 := by omega
  rcases this with rfl | rfl | rfl | rfl
  · simp
  · have a1 := ha (by omega)
    have b1 : n.a.toNat < k := by omega
    simp [b1]
  · have a1 := ha (by omega)
    have a2 := hb (by omega)
    have b1 : n.a.toNat < k := by omega
    have b2 : n.b.toNat < k := by omega
    simp [b1, b2]
  · have a1 := ha (by omega)
    have a2 := hb (by omega)
    have a3 := hc (by omega)
    have b1 : n.a.toNat < k := by omega
    have b2 : n.b.toNat < k := by omega
    have b3 : n.c.toNat < k := by omega
    simp [b1, b2, b3]
    omega

theorem lz (a : Array UInt8) : (ByteArray.mk a).size = a.size := rfl
theorem joinS_sum (xs : List ByteArray) (sep : ByteArray) (hs : sep.size = 1) : (joinS xs sep).size ≤ (xs.map fun x => x.size + 1).sum := by
  show (List.toArray _).size ≤ _
  rw [List.size_toArray]
  cases xs with
  | nil => simp [Lib.join_nil]
  | cons y r =>
    simp only [List.map_cons]
    rw [Lib.join_cons, List.length_append, List.sum_cons]
    have h1 : y.data.toList.length = y.size := rfl
    have h2 : ∀ r : List ByteArray, (Lib.joinTail sep.data.toList (r.map (·.data.toList))).length ≤ (r.map fun x => x.size + 1).sum := by
      intro r
      induction r with
      | nil => simp [Lib.joinTail]
      | cons z r ih =>
        have hz : z.data.toList.length = z.size := rfl
        have hsp : sep.data.toList.length = 1 := hs
        simp only [Lib.joinTail, List.map_cons, List.flatten_cons, List.length_append, List.sum_cons] at ih ⊢
        omega
    have := h2 r
    omega

theorem litF_size (i : Nat) : (litF.getD i default).size ≤ 5 := by
  by_cases h : i < 3
  · have : i = 0 ∨ i = 1 ∨ i = 2 := by omega
    rcases this with rfl | rfl | rfl <;> decide
  · rw [List.getD_eq_getElem?_getD, List.getElem?_eq_none (by show 3 ≤ i; omega)]
    exact Nat.zero_le _
theorem opsF_all : ∀ x ∈ opsF, x.size ≤ 2 := by decide
theorem opsF_size (i : Nat) : (opsF.getD i default).size ≤ 2 := by
  by_cases h : i < opsF.length
  · exact opsF_all _ (getD_mem' h)
  · rw [List.getD_eq_getElem?_getD, List.getElem?_eq_none (by omega)]
    exact Nat.zero_le _
theorem midF_size (op : Int) : (midF op).size ≤ 5 := by
  unfold midF
  repeat' split
  all_goals decide

theorem item_size {n : Nd} {B : ByteArray} (h : okText n.text = true) : (itemF n B).size ≤ 123 + B.size := by
  have := quoted_small h
  unfold itemF
  simp only [ByteArray.size_append, lz, List.size_toArray, List.length_cons, List.length_nil]
  omega

theorem fmt_sizes {ns : List Nd} (hok : ∀ j, j < ns.length → NodeOK ns j) : ∀ f, (∀ k, k < f → k < ns.length → (fmtF ns f k).size ≤ 200 * cntF ns k) ∧
    (∀ k, k < f → k < ns.length → (ns.getD k default).op = 16 ∨ (ns.getD k default).op = 17 → ((memF ns f k).map fun x => x.size + 1).sum + 4 ≤ 200 * cntF ns k)
  | 0 => ⟨fun k h => by omega, fun k h => by omega⟩
  | f + 1 => by
    obtain ⟨ihF, ihM⟩ := fmt_sizes hok f
    have mem : ∀ k, k < f + 1 → k < ns.length → (ns.getD k default).op = 17 → ((memF ns f (ns.getD k default).a.toNat ++ [itemF (ns.getD k default) (fmtF ns f (ns.getD k default).b.toNat)]).map fun x => x.size + 1).sum + 4 ≤ 200 * cntF ns k := by
      intro k hkf hk h17
      have hn := hok k hk
      have hc := cnt_eq hn
      have ar : arN (ns.getD k default).op = 2 := by rw [h17]; rfl
      obtain ⟨a0, a1⟩ := hn.a (by omega)
      obtain ⟨b0, b1⟩ := hn.b (by omega)
      have hA := ihM (ns.getD k default).a.toNat (by omega) (by omega) (hn.mem h17)
      have hB := ihF (ns.getD k default).b.toNat (by omega) (by omega)
      have hi := item_size (n := ns.getD k default) (B := fmtF ns f (ns.getD k default).b.toNat) (hn.quo (.inr h17))
      rw [ar] at hc
      simp only [List.map_append, List.sum_append, List.map_cons, List.map_nil, List.sum_cons, List.sum_nil]
      simp only [show (1 : Nat) ≤ 2 from by omega, show (2 : Nat) ≤ 2 from by omega, show ¬ (3 : Nat) ≤ 2 from by omega, if_true, if_false] at hc
      omega
    refine ⟨fun k hkf hk => ?_, fun k hkf hk h67 => ?_⟩
    · have hn := hok k hk
      have hc := cnt_eq hn
      have hm := mem k hkf hk
      have hA : 1 ≤ arN (ns.getD k default).op → (fmtF ns f (ns.getD k default).a.toNat).size ≤ 200 * cntF ns (ns.getD k default).a.toNat := fun h => by
        obtain ⟨a0, a1⟩ := hn.a h
        exact ihF _ (by omega) (by omega)
      have hB : 2 ≤ arN (ns.getD k default).op → (fmtF ns f (ns.getD k default).b.toNat).size ≤ 200 * cntF ns (ns.getD k default).b.toNat := fun h => by
        obtain ⟨a0, a1⟩ := hn.b h
        exact ihF _ (by omega) (by omega)
      have hC : 3 ≤ arN (ns.getD k default).op → (fmtF ns f (ns.getD k default).c.toNat).size ≤ 200 * cntF ns (ns.getD k default).c.toNat := fun h => by
        obtain ⟨a0, a1⟩ := hn.c h
        exact ihF _ (by omega) (by omega)
      have ht := hn.text
      have hq := hn.quo
      have hnum := hn.num
      have l1 := litF_size (ns.getD k default).num.toNat
      have l2 := opsF_size ((ns.getD k default).num - 1).toNat
      have l3 := midF_size (ns.getD k default).op
      have hj := joinS_sum (memF ns f (ns.getD k default).a.toNat ++ [itemF (ns.getD k default) (fmtF ns f (ns.getD k default).b.toNat)]) kommaS rfl
      rw [fmtF]
      generalize fmtF ns f (ns.getD k default).a.toNat = A at *
      generalize memF ns f (ns.getD k default).a.toNat ++ [itemF (ns.getD k default) (fmtF ns f (ns.getD k default).b.toNat)] = M at *
      generalize fmtF ns f (ns.getD k default).b.toNat = B at *
      generalize fmtF ns f (ns.getD k default).c.toNat = C at *
      generalize cntF ns (ns.getD k default).a.toNat = ca at *
      generalize cntF ns (ns.getD k default).b.toNat = cb at *
      generalize cntF ns (ns.getD k default).c.toNat = cc at *
      generalize cntF ns k = ck at *
      generalize ns.getD k default = n at *
      have hd : ∀ r : Nat, arN n.op = r → (1 ≤ r → A.size ≤ 200 * ca) ∧ (2 ≤ r → B.size ≤ 200 * cb) ∧ (3 ≤ r → C.size ≤ 200 * cc) ∧ ck = (if 1 ≤ r then ca else 0) + (if 2 ≤ r then cb else 0) + (if 3 ≤ r then cc else 0) + 1 := fun r hr => by
        rw [hr] at hA hB hC hc
        exact ⟨hA, hB, hC, hc⟩
      clear hA hB hC hc
      have ck1 : 1 ≤ ck := by obtain ⟨_, _, _, h⟩ := hd _ rfl; omega
      unfold fmtB
      by_cases ho : n.op = 1
      · rw [if_pos ho]
        simp only [lz, List.size_toArray, List.length_cons, List.length_nil]; omega
      rw [if_neg ho]
      clear ho
      by_cases ho : n.op = 15
      · rw [if_pos ho]
        simp only [lz, List.size_toArray, List.length_cons, List.length_nil]; omega
      rw [if_neg ho]
      clear ho
      by_cases ho : n.op = 16
      · rw [if_pos ho]
        simp only [lz, List.size_toArray, List.length_cons, List.length_nil]; omega
      rw [if_neg ho]
      clear ho
      by_cases ho : n.op = 24
      · rw [if_pos ho]
        simp only [lz, List.size_toArray, List.length_cons, List.length_nil]; omega
      rw [if_neg ho]
      clear ho
      by_cases ho : n.op = 2
      · rw [if_pos ho]
        have := itoaS_size n.num (by have := hnum ho; omega) (by have := hnum ho; omega)
        omega
      rw [if_neg ho]
      clear ho
      by_cases ho : n.op = 3
      · rw [if_pos ho]
        have := quoted_small (hq (.inl ho))
        omega
      rw [if_neg ho]
      clear ho
      by_cases ho : n.op = 4
      · rw [if_pos ho]
        omega
      rw [if_neg ho]
      clear ho
      by_cases ho : n.op = 5 ∨ n.op = 6 ∨ n.op = 7 ∨ n.op = 8 ∨ n.op = 9
      · rw [if_pos ho]
        have ar : arN n.op = 2 := by unfold arN; rw [if_pos (by omega)]
        obtain ⟨q1, q2, q3, q4⟩ := hd 2 ar
        have q1 := q1 (by omega); have q2 := q2 (by omega)
        simp only [show (1 : Nat) ≤ 2 from by omega, show (2 : Nat) ≤ 2 from by omega, show ¬ (3 : Nat) ≤ 2 from by omega, if_true, if_false] at q4
        simp only [ByteArray.size_append, lz, List.size_toArray, List.length_cons, List.length_nil]
        omega
      rw [if_neg ho]
      clear ho
      by_cases ho : n.op = 10
      · rw [if_pos ho]
        have ar : arN n.op = 2 := by rw [ho]; rfl
        obtain ⟨q1, q2, q3, q4⟩ := hd 2 ar
        have q1 := q1 (by omega); have q2 := q2 (by omega)
        simp only [show (1 : Nat) ≤ 2 from by omega, show (2 : Nat) ≤ 2 from by omega, show ¬ (3 : Nat) ≤ 2 from by omega, if_true, if_false] at q4
        simp only [ByteArray.size_append, lz, List.size_toArray, List.length_cons, List.length_nil]
        omega
      rw [if_neg ho]
      clear ho
      by_cases ho : n.op = 11
      · rw [if_pos ho]
        have ar : arN n.op = 2 := by rw [ho]; rfl
        obtain ⟨q1, q2, q3, q4⟩ := hd 2 ar
        have q1 := q1 (by omega); have q2 := q2 (by omega)
        simp only [show (1 : Nat) ≤ 2 from by omega, show (2 : Nat) ≤ 2 from by omega, show ¬ (3 : Nat) ≤ 2 from by omega, if_true, if_false] at q4
        simp only [ByteArray.size_append, lz, List.size_toArray, List.length_cons, List.length_nil]
        omega
      rw [if_neg ho]
      clear ho
      by_cases ho : n.op = 12
      · rw [if_pos ho]
        have ar : arN n.op = 1 := by rw [ho]; rfl
        obtain ⟨q1, q2, q3, q4⟩ := hd 1 ar
        have q1 := q1 (by omega)
        simp only [show (1 : Nat) ≤ 1 from by omega, show ¬ (2 : Nat) ≤ 1 from by omega, show ¬ (3 : Nat) ≤ 1 from by omega, if_true, if_false] at q4
        simp only [ByteArray.size_append, lz, List.size_toArray, List.length_cons, List.length_nil]
        omega
      rw [if_neg ho]
      clear ho
      by_cases ho : n.op = 13
      · rw [if_pos ho]
        have ar : arN n.op = 1 := by rw [ho]; rfl
        obtain ⟨q1, q2, q3, q4⟩ := hd 1 ar
        have q1 := q1 (by omega)
        simp only [show (1 : Nat) ≤ 1 from by omega, show ¬ (2 : Nat) ≤ 1 from by omega, show ¬ (3 : Nat) ≤ 1 from by omega, if_true, if_false] at q4
        simp only [ByteArray.size_append, lz, List.size_toArray, List.length_cons, List.length_nil]
        omega
      rw [if_neg ho]
      clear ho
      by_cases ho : n.op = 14
      · rw [if_pos ho]
        have ar : arN n.op = 1 := by rw [ho]; rfl
        obtain ⟨q1, q2, q3, q4⟩ := hd 1 ar
        have q1 := q1 (by omega)
        simp only [show (1 : Nat) ≤ 1 from by omega, show ¬ (2 : Nat) ≤ 1 from by omega, show ¬ (3 : Nat) ≤ 1 from by omega, if_true, if_false] at q4
        simp only [ByteArray.size_append, lz, List.size_toArray, List.length_cons, List.length_nil]
        omega
      rw [if_neg ho]
      clear ho
      by_cases ho : n.op = 17
      · rw [if_pos ho]
        have := hm ho
        simp only [ByteArray.size_append, lz, List.size_toArray, List.length_cons, List.length_nil]
        omega
      rw [if_neg ho]
      clear ho
      by_cases ho : n.op = 18
      · rw [if_pos ho]
        have ar : arN n.op = 3 := by rw [ho]; rfl
        obtain ⟨q1, q2, q3, q4⟩ := hd 3 ar
        have q1 := q1 (by omega); have q2 := q2 (by omega); have q3 := q3 (by omega)
        simp only [show (1 : Nat) ≤ 3 from by omega, show (2 : Nat) ≤ 3 from by omega, show (3 : Nat) ≤ 3 from by omega, if_true] at q4
        simp only [ByteArray.size_append, lz, List.size_toArray, List.length_cons, List.length_nil]
        omega
      rw [if_neg ho]
      clear ho
      by_cases ho : n.op = 19
      · rw [if_pos ho]
        have ar : arN n.op = 3 := by rw [ho]; rfl
        obtain ⟨q1, q2, q3, q4⟩ := hd 3 ar
        have q1 := q1 (by omega); have q2 := q2 (by omega); have q3 := q3 (by omega)
        simp only [show (1 : Nat) ≤ 3 from by omega, show (2 : Nat) ≤ 3 from by omega, show (3 : Nat) ≤ 3 from by omega, if_true] at q4
        simp only [ByteArray.size_append, lz, List.size_toArray, List.length_cons, List.length_nil]
        omega
      rw [if_neg ho]
      clear ho
      by_cases ho : n.op = 20
      · rw [if_pos ho]
        have ar : arN n.op = 2 := by rw [ho]; rfl
        obtain ⟨q1, q2, q3, q4⟩ := hd 2 ar
        have q1 := q1 (by omega); have q2 := q2 (by omega)
        simp only [show (1 : Nat) ≤ 2 from by omega, show (2 : Nat) ≤ 2 from by omega, show ¬ (3 : Nat) ≤ 2 from by omega, if_true, if_false] at q4
        simp only [ByteArray.size_append, lz, List.size_toArray, List.length_cons, List.length_nil]
        omega
      rw [if_neg ho]
      clear ho
      by_cases ho : n.op = 21
      · rw [if_pos ho]
        simp only [ByteArray.size_append, lz, List.size_toArray, List.length_cons, List.length_nil]; omega
      rw [if_neg ho]
      clear ho
      by_cases ho : n.op = 23
      · rw [if_pos ho]
        have ar : arN n.op = 1 := by rw [ho]; rfl
        obtain ⟨q1, q2, q3, q4⟩ := hd 1 ar
        have q1 := q1 (by omega)
        simp only [show (1 : Nat) ≤ 1 from by omega, show ¬ (2 : Nat) ≤ 1 from by omega, show ¬ (3 : Nat) ≤ 1 from by omega, if_true, if_false] at q4
        simp only [ByteArray.size_append, lz, List.size_toArray, List.length_cons, List.length_nil]
        omega
      rw [if_neg ho]
      clear ho
      omega
    · rcases h67 with h | h
      · have hc := cnt_eq (hok k hk)
        rw [memF, if_pos h]
        simp only [List.map_nil, List.sum_nil]
        omega
      · rw [memF, if_neg (by omega)]
        exact mem k hkf hk h

end Go.Proofs.YtfmhfdegkpbeiaaGreatDoor
