/-
  DropKey: a value without one of its keys, by the program. Conditions: none.
-/
import Derived.Test.YtlegadpbjccelaaQMembersG10
import Derived.Test.YtlegadpbjccelaaQMembersPgE
set_option linter.unusedVariables false
set_option linter.unusedSimpArgs false
set_option maxRecDepth 100000
namespace Go.Proofs.Ytlegadpbjccelaa
open Go.RowKit

/-- A value of a slice of values, in a drawn region with effects. -/
theorem WE.ixP' {N : Nm} {K : (Nat → T) → Prop} {tm : Nat → T} {ops l : List Oper} {ty : TypeId} {pos : String} {after : Array Edge} {gd : Option (Nat × Bool)} {d w : Nat} {ps : List (Nat × List Nat)} {p : List Nat} {obF : Nat → List Ob} {xs : List V} {t : TypeId} {x ix : Operand} {i : Int}
    (k : WE env.P N ops obF K ps l (upd tm d (.ea (V.rowP (xs.getD i.toNat default)) 0)))
    (h : AllF p (fun g => OpS1 env.P N ops ⟨some d, .indexAddr t x ix, ty, pos, after, gd⟩ tm (.ea (V.rowP (xs.getD i.toNat default)) 0) (obF g) (obF (g + w))) := by first | exact .n | (refine .c (OpS1.ixm (E := env) (f := V.row) (by exact rfl) (by exact rfl) (by exact rfl) (by exact rfl) (by exact rfl) (by exact rfl) (by exact rfl) (by exact V.row_eq) (by first | exact trivial | (simp only [inRange, List.length_map, List.length_set]; omega) | omega | assumption)) ?_; first | exact .n | (refine .c (OpS1.ixm (E := env) (f := V.row) (by exact rfl) (by exact rfl) (by exact rfl) (by exact rfl) (by exact rfl) (by exact rfl) (by exact rfl) (by exact V.row_eq) (by first | exact trivial | (simp only [inRange, List.length_map, List.length_set]; omega) | omega | assumption)) ?_; first | exact .n | (refine .c (OpS1.ixm (E := env) (f := V.row) (by exact rfl) (by exact rfl) (by exact rfl) (by exact rfl) (by exact rfl) (by exact rfl) (by exact rfl) (by exact V.row_eq) (by first | exact trivial | (simp only [inRange, List.length_map, List.length_set]; omega) | omega | assumption)) ?_; first | exact .n | (refine .c (OpS1.ixm (E := env) (f := V.row) (by exact rfl) (by exact rfl) (by exact rfl) (by exact rfl) (by exact rfl) (by exact rfl) (by exact rfl) (by exact V.row_eq) (by first | exact trivial | (simp only [inRange, List.length_map, List.length_set]; omega) | omega | assumption)) ?_; first | exact .n | (refine .c (OpS1.ixm (E := env) (f := V.row) (by exact rfl) (by exact rfl) (by exact rfl) (by exact rfl) (by exact rfl) (by exact rfl) (by exact rfl) (by exact V.row_eq) (by first | exact trivial | (simp only [inRange, List.length_map, List.length_set]; omega) | omega | assumption)) ?_; first | exact .n | (refine .c (OpS1.ixm (E := env) (f := V.row) (by exact rfl) (by exact rfl) (by exact rfl) (by exact rfl) (by exact rfl) (by exact rfl) (by exact rfl) (by exact V.row_eq) (by first | exact trivial | (simp only [inRange, List.length_map, List.length_set]; omega) | omega | assumption)) ?_; first | exact .n | (refine .c (OpS1.ixm (E := env) (f := V.row) (by exact rfl) (by exact rfl) (by exact rfl) (by exact rfl) (by exact rfl) (by exact rfl) (by exact rfl) (by exact V.row_eq) (by first | exact trivial | (simp only [inRange, List.length_map, List.length_set]; omega) | omega | assumption)) ?_; first | exact .n | (refine .c (OpS1.ixm (E := env) (f := V.row) (by exact rfl) (by exact rfl) (by exact rfl) (by exact rfl) (by exact rfl) (by exact rfl) (by exact rfl) (by exact V.row_eq) (by first | exact trivial | (simp only [inRange, List.length_map, List.length_set]; omega) | omega | assumption)) ?_; exact .n))))))))) :
    WE env.P N ops obF K ((w, p) :: ps) (⟨some d, .indexAddr t x ix, ty, pos, after, gd⟩ :: l) tm :=
  .mk _ h k

/-! ### keys in order -/

def dropKs (key : ByteArray) (ks : List ByteArray) : List ByteArray := ks.filter fun a => !decide (a = key)
def dropVs {α : Type} (key : ByteArray) : List ByteArray → List α → List α
  | a :: ks, v :: vs => if a = key then dropVs key ks vs else v :: dropVs key ks vs
  | _, _ => []

theorem dropKs_app (key a : ByteArray) (ks : List ByteArray) : dropKs key (ks ++ [a]) = dropKs key ks ++ if a = key then [] else [a] := by
  simp only [dropKs, List.filter_append, List.filter_cons, List.filter_nil]
  by_cases h : a = key <;> simp [h]
theorem dropVs_app {α : Type} (key a : ByteArray) (v : α) : ∀ (ks : List ByteArray) (vs : List α), ks.length = vs.length → dropVs key (ks ++ [a]) (vs ++ [v]) = dropVs key ks vs ++ if a = key then [] else [v]
  | [], [], _ => by simp [dropVs]
  | b :: ks, w :: vs, h => by
    have ih := dropVs_app key a v ks vs (by simpa using h)
    simp only [List.cons_append, dropVs, ih]
    split <;> simp
theorem dropVs_length {α : Type} (key : ByteArray) : ∀ (ks : List ByteArray) (vs : List α), ks.length = vs.length → (dropVs key ks vs).length = (dropKs key ks).length
  | [], [], _ => rfl
  | b :: ks, w :: vs, h => by
    have ih := dropVs_length key ks vs (by simpa using h)
    simp only [dropVs, dropKs, List.filter_cons]
    simp only [dropKs] at ih
    by_cases hb : b = key <;> simp [hb, ih]
theorem dropVs_mem {α : Type} (key : ByteArray) : ∀ (ks : List ByteArray) (vs : List α), ∀ v ∈ dropVs key ks vs, v ∈ vs
  | [], _, v, h => by simp [dropVs] at h
  | _ :: _, [], v, h => by simp [dropVs] at h
  | b :: ks, w :: vs, v, h => by
    simp only [dropVs] at h
    split at h
    · exact List.mem_cons_of_mem _ (dropVs_mem key ks vs v h)
    · rcases List.mem_cons.1 h with rfl | h
      · exact List.mem_cons_self ..
      · exact List.mem_cons_of_mem _ (dropVs_mem key ks vs v h)
theorem dropVs_counts (key : ByteArray) : ∀ (ks : List ByteArray) (vs : List V), V.counts (dropVs key ks vs) ≤ V.counts vs ∧ V.depths (dropVs key ks vs) ≤ V.depths vs
  | [], vs => by have := V.depths_le vs; simp only [dropVs, V.counts, V.depths]; omega
  | _ :: _, [] => by simp [dropVs, V.counts, V.depths]
  | b :: ks, w :: vs => by
    have ih := dropVs_counts key ks vs
    simp only [dropVs]
    split
    · simp only [V.counts, V.depths]; omega
    · simp only [V.counts, V.depths]; omega

def objV (ks : List ByteArray) (vs : List V) : V := .mk 6 0 noS ks vs
theorem objV_good {ks : List ByteArray} {vs : List V} (hl : ks.length = vs.length) (hk : ∀ k ∈ ks, okText k = true) (hi : incr ks) (hg : V.goods vs) : (objV ks vs).good :=
  ⟨by decide, fun h => absurd rfl h, fun h => absurd rfl h, fun _ => .inr rfl, by decide, okText_no, fun _ => hl, fun h => absurd rfl h, hk, hi, hg⟩

/-- A value without a key: the code, and the value. -/
def dropO (v : V) (key : ByteArray) : Int × V :=
  if v.kind = 0 then (0, V.zero) else if v.kind ≠ 6 then (6, V.zero) else (0, objV (dropKs key v.keys) (dropVs key v.keys v.kids))
def dropO2 (v : V) (key : ByteArray) : Int × V := if okText key = true then dropO v key else (5, V.zero)

theorem dropV_fine {v : V} (h : v.fine) (hk : v.kind = 6) (key : ByteArray) : (objV (dropKs key v.keys) (dropVs key v.keys v.kids)).fine := by
  obtain ⟨h1, h2⟩ := V.obj_keys h.1 hk
  have hc := dropVs_counts key v.keys v.kids
  have hce := V.count_eq v
  have hv2 := h.2.1
  have hd := h.2.2
  have hde : v.depth = V.depths v.kids + 1 := by cases v; rfl
  have e1 : (objV (dropKs key v.keys) (dropVs key v.keys v.kids)).count = V.counts (dropVs key v.keys v.kids) + 1 := V.count_eq _
  have e2 : (objV (dropKs key v.keys) (dropVs key v.keys v.kids)).depth = V.depths (dropVs key v.keys v.kids) + 1 := rfl
  have hgk : ∀ w ∈ v.kids, w.good := V.goods_mem (by cases v; exact V.good_kids h.1)
  have hok : ∀ k ∈ v.keys, okText k = true := by cases v; exact h.1.2.2.2.2.2.2.2.2.1
  refine ⟨objV_good ?_ (fun k hk => hok k (List.mem_filter.1 hk).1) (incr_filter _ h2) (V.goods_of fun w hw => hgk w (dropVs_mem _ _ _ w hw)), ?_, ?_⟩
  · rw [dropVs_length _ _ _ h1]
  · rw [e1]; omega
  · rw [e2]; omega
theorem dropO_fine {v : V} (h : v.fine) (key : ByteArray) : (dropO v key).2.fine := by
  unfold dropO
  split
  · exact V.zero_fine
  · split
    · exact V.zero_fine
    · rename_i h1; exact dropV_fine h (by omega) key
theorem dropO2_fine {v : V} (h : v.fine) (key : ByteArray) : (dropO2 v key).2.fine := by
  unfold dropO2
  split
  · exact dropO_fine h key
  · exact V.zero_fine

set_option maxHeartbeats 4000000 in
theorem dropKeyP_fn (v : V) (h : v.fine) (key : ByteArray) (hs : key.size ≤ 1048576) : Fun env.P 150 [.agg v.rowP, dS key] (.d (outD (dropO2 v key).1 (dropO2 v key).2)) [] := by
  have h1 := isString_fn key hs
  have h2 := nullP_fn
  have h3 := V.fine_gives V.zero_fine
  have h4 := refusesP_fn 6
  have h5 := refusesP_fn 5
  have h7 := fun hk : v.kind = 6 => V.fine_gives (dropV_fine h hk key)
  have hko := fun hk : v.kind = 6 => (V.obj_keys h.1 hk).1
  have hlc := V.length_counts v.kids
  have hce := V.count_eq v
  have hv200 := h.2.1
  unfold dropO2 dropO
  refine Fun.intro Try.func150 rfl (by kernel_rfl) rfl ?_
  repeat' (first | refine W.seq ?_ | refine W.rg ?_ | refine W.dra' ?_ | refine W.block ?_ | refine W.skip ?_ | refine W.exit ?_ | refine W.cond_true' ?_ | refine W.cond_false' ?_ | refine WG.nil ?_ | refine WG.run' (E := env) ?_ | refine WG.gt' ?_ | refine WG.gf' ?_ | refine WG.ixm' (E := env) ?_ | refine WG.ixo' (E := env) ?_ | refine WG.legm' (E := env) ?_ | refine WG.slS' (E := env) ?_ | refine WG.slD' (E := env) ?_ | refine WG.ap' (E := env) ?_ | refine WD.nil ?_ | refine WD.bs' (E := env) ?_ | refine WD.s' (E := env) (t := .d _) ?_ | refine WD.p' ?_ | refine WD.px' ?_ | refine WD.s' (E := env) (t := .ea _ _) ?_ | refine WD.s' (E := env) (t := .lp _ _) ?_ | refine WD.s' (E := env) (t := .og _ _) ?_ | refine WD.s' (E := env) (t := .agg _) ?_ | refine WD.s' (E := env) (t := .tup _) ?_ | refine WD.s' (E := env) (t := .clo _ _) ?_ | refine WD.ixm' (E := env) ?_ | refine WD.ixo' (E := env) ?_ | refine WD.legm' (E := env) ?_ | refine WD.slS' (E := env) ?_ | refine WD.slD' (E := env) ?_ | refine WG.c (E := env) rfl rfl (h1) rfl rfl ?_ | refine WD.c (E := env) rfl rfl (h1) rfl rfl ?_ | refine WG.co (E := env) rfl rfl (h1) rfl rfl rfl rfl ?_ | refine WG.cx (E := env) rfl (h1) rfl ?_ | refine WG.c (E := env) rfl rfl (h2) rfl rfl ?_ | refine WD.c (E := env) rfl rfl (h2) rfl rfl ?_ | refine WG.co (E := env) rfl rfl (h2) rfl rfl rfl rfl ?_ | refine WG.cx (E := env) rfl (h2) rfl ?_ | refine WG.c (E := env) rfl rfl (h3) rfl rfl ?_ | refine WD.c (E := env) rfl rfl (h3) rfl rfl ?_ | refine WG.co (E := env) rfl rfl (h3) rfl rfl rfl rfl ?_ | refine WG.cx (E := env) rfl (h3) rfl ?_ | refine WG.c (E := env) rfl rfl (h4) rfl rfl ?_ | refine WD.c (E := env) rfl rfl (h4) rfl rfl ?_ | refine WG.co (E := env) rfl rfl (h4) rfl rfl rfl rfl ?_ | refine WG.cx (E := env) rfl (h4) rfl ?_ | refine WG.c (E := env) rfl rfl (h5) rfl rfl ?_ | refine WD.c (E := env) rfl rfl (h5) rfl rfl ?_ | refine WG.co (E := env) rfl rfl (h5) rfl rfl rfl rfl ?_ | refine WG.cx (E := env) rfl (h5) rfl ?_ | ((first | refine WG.sp' (fun h => ?_) fun h => ?_ | refine W.cond' (fun h => ?_) fun h => ?_ | refine WD.sp' (fun h => ?_) fun h => ?_) <;> (try simp only [decide_eq_true_eq, decide_eq_false_iff_not, Bool.not_eq_true', Bool.not_eq_false', Bool.and_eq_true, Bool.or_eq_true, Bool.and_eq_false_iff, Bool.or_eq_false_iff, Bool.not_eq_true, Bool.not_eq_false, Int.not_lt, Int.not_le, List.length_map, beq_self_eq_true, Bool.true_eq_false, Bool.false_eq_true] at h) <;> (try (exfalso; first | contradiction | omega))))
  · rw [if_neg (by simp [*])]
    (refine W.ret ?_; (first | refine RetQ.b' ?_ | refine RetQ.i' ?_ | refine RetQ.d' ?_ | refine RetQ.t2' ?_ ?_ | refine RetQ.t3' ?_ ?_ ?_))
    rfl
  · rw [if_pos (by assumption), if_pos (by assumption)]
    (refine W.ret ?_; (first | refine RetQ.b' ?_ | refine RetQ.i' ?_ | refine RetQ.d' ?_ | refine RetQ.t2' ?_ ?_ | refine RetQ.t3' ?_ ?_ ?_))
    rfl
  · rw [if_pos (by assumption), if_neg (by assumption), if_pos (by assumption)]
    (refine W.ret ?_; (first | refine RetQ.b' ?_ | refine RetQ.i' ?_ | refine RetQ.d' ?_ | refine RetQ.t2' ?_ ?_ | refine RetQ.t3' ?_ ?_ ?_))
    rfl
  have h6 : v.kind = 6 := by omega
  rw [if_pos (by assumption), if_neg (by assumption), if_neg (by omega)]
  have hkl := hko h6
  have h8 := h7 h6
  refine W.adoptPv 2 3 9 rfl rfl ?_
  refine W.adoptPv 2 4 112 rfl rfl ?_
  refine W.loopI (fun m S => ∃ (i : Nat) (rk rv : List (List D)), m = v.keys.length - i ∧ (i ≤ v.keys.length ∧ rk.length ≤ i ∧ rv.length ≤ i ∧ rk = (dropKs key (v.keys.take i)).map keyRow ∧ rv = (dropVs key (v.keys.take i) (v.kids.take i)).map V.row) ∧
    S = ⟨ofL [(1, .d (dS key)), (2, .lp 0 0), (4, .lp 1 0), (5, .lp 2 0), (26, .d (.sl 1 (v.keys.map keyRow))), (27, vI .i64 (v.keys.map keyRow).length), (28, vI .i64 i)],
      [.pv (v.rowP.map .d), .pv [.d (dI 0), .d (dI 0), .d (dI 0), .d (dS ByteArray.empty), .d (.nl 1), .d (.nl 5)], .pv [.d (dI 6), .d (dI 0), .d (dS ByteArray.empty), .og 3 0, .og 4 0], .gr 1 9 rk 0 false, .gr 5 112 rv 0 false]⟩) _ _ ⟨0, [], [], rfl, ⟨by omega, by simp, by simp, rfl, rfl⟩, rfl⟩ (St.imp.of_le (by (refine le_ofL rfl ?_ ?_ <;> (repeat (first | exact trivial | refine ⟨⟨rfl, rfl⟩, ?_⟩ | refine ⟨rfl, .inl rfl, ?_⟩ | refine ⟨rfl, .inr rfl, ?_⟩))))) ?_
  rintro m S ⟨i, rk, rv, rfl, ⟨hi, hrk, hrv, ek, ev⟩, rfl⟩
  by_cases hlt : i < v.keys.length
  · have hkr : (v.keys.map keyRow).length = v.keys.length := by simp
    have hvr : (v.kids.map V.row).length = v.kids.length := by simp
    have e0 : dropKs key (v.keys.take (i + 1)) = dropKs key (v.keys.take i) ++ if v.keys.getD i default = key then [] else [v.keys.getD i default] := by rw [take_step hlt, dropKs_app]
    have e1 : dropVs key (v.keys.take (i + 1)) (v.kids.take (i + 1)) = dropVs key (v.keys.take i) (v.kids.take i) ++ if v.keys.getD i default = key then [] else [v.kids.getD i default] := by
      rw [take_step hlt, take_step (l := v.kids) (by omega), dropVs_app _ _ _ _ _ (by simp; omega)]
    repeat' (first | refine W.dre' [4, 13, 15, 17] (fun f => [.pv (v.rowP.map .d), .pv [.d (dI 0), .d (dI 0), .d (dI 0), .d (dS ByteArray.empty), .d (.nl 1), .d (.nl 5)], .pv [.d (dI 6), .d (dI 0), .d (dS ByteArray.empty), .og 3 (bif bt f 4 then 1 else 0), .og 4 (bif bt f 8 then 1 else 0)], .gr 1 9 (bif bt f 1 then rk ++ [keyRow (v.keys.getD (Int.toNat (i : Int)) default)] else rk) (bif bt f 1 then 1 else 0) false, .gr 5 112 (bif bt f 2 then rv ++ [V.rowP (v.kids.getD (Int.toNat (i : Int)) default)] else rv) (bif bt f 2 then 1 else 0) false]) [(0, [0]), (0, [0]), (0, [0]), (0, [0]), (1, [0]), (0, [0, 1]), (0, [0, 1]), (0, [0, 1]), (0, [0, 1]), (0, [0, 1]), (0, [0, 1]), (0, [0, 1]), (0, [0, 1]), (2, [1]), (0, [1, 3]), (4, [3]), (0, [7]), (8, [7])] [.pv (v.rowP.map .d), .pv [.d (dI 0), .d (dI 0), .d (dI 0), .d (dS ByteArray.empty), .d (.nl 1), .d (.nl 5)], .pv [.d (dI 6), .d (dI 0), .d (dS ByteArray.empty), .og 3 1, .og 4 1], .gr 1 9 (rk ++ [keyRow (v.keys.getD (Int.toNat (i : Int)) default)]) 1 false, .gr 5 112 (rv ++ [V.rowP (v.kids.getD (Int.toNat (i : Int)) default)]) 1 false] ?_ | refine WE.nil ?_ | refine WE.ixP' ?_ | refine WE.s' (E := env) (t := .d _) ?_ | refine WE.p' ?_ | refine WE.px' ?_ | refine WE.s' (E := env) (t := .lp _ _) ?_ | refine WE.s' (E := env) (t := .og _ _) ?_ | refine WE.s' (E := env) (t := .ea _ _) ?_ | refine WE.s' (E := env) (t := .agg _) ?_ | refine WE.s' (E := env) (t := .tup _) ?_ | refine WE.ixm' (E := env) ?_ | refine WE.ixo' (E := env) ?_ | refine WE.leg' (E := env) ?_ | refine WE.slS' (E := env) ?_ | refine WE.slD' (E := env) ?_ | refine WE.ap' (E := env) ?_ | refine WE.st' (E := env) ?_ | refine WE.seg' (E := env) ?_ | refine WE.bs' (E := env) ?_ | refine W.seq ?_ | refine W.rg ?_ | refine W.dra' ?_ | refine W.block ?_ | refine W.skip ?_ | refine W.exit ?_ | refine W.cond_true' ?_ | refine W.cond_false' ?_ | refine WG.nil ?_ | refine WG.run' (E := env) ?_ | refine WG.gt' ?_ | refine WG.gf' ?_ | refine WG.ixm' (E := env) ?_ | refine WG.ixo' (E := env) ?_ | refine WG.legm' (E := env) ?_ | refine WG.slS' (E := env) ?_ | refine WG.slD' (E := env) ?_ | refine WG.ap' (E := env) ?_ | refine WD.nil ?_ | refine WD.bs' (E := env) ?_ | refine WD.s' (E := env) (t := .d _) ?_ | refine WD.p' ?_ | refine WD.px' ?_ | refine WD.s' (E := env) (t := .ea _ _) ?_ | refine WD.s' (E := env) (t := .lp _ _) ?_ | refine WD.s' (E := env) (t := .og _ _) ?_ | refine WD.s' (E := env) (t := .agg _) ?_ | refine WD.s' (E := env) (t := .tup _) ?_ | refine WD.s' (E := env) (t := .clo _ _) ?_ | refine WD.ixm' (E := env) ?_ | refine WD.ixo' (E := env) ?_ | refine WD.legm' (E := env) ?_ | refine WD.slS' (E := env) ?_ | refine WD.slD' (E := env) ?_ | fail | ((first | refine WG.sp' (fun h => ?_) fun h => ?_ | refine W.cond' (fun h => ?_) fun h => ?_ | refine WD.sp' (fun h => ?_) fun h => ?_) <;> (try simp only [decide_eq_true_eq, decide_eq_false_iff_not, Bool.not_eq_true', Bool.not_eq_false', Bool.and_eq_true, Bool.or_eq_true, Bool.and_eq_false_iff, Bool.or_eq_false_iff, Bool.not_eq_true, Bool.not_eq_false, Int.not_lt, Int.not_le, List.length_map, beq_self_eq_true, Bool.true_eq_false, Bool.false_eq_true] at h) <;> (try (exfalso; first | contradiction | omega))))
    · refine ⟨_, _, by omega, ⟨i + 1, rk ++ [keyRow (v.keys.getD (Int.toNat (i : Int)) default)], rv ++ [V.rowP (v.kids.getD (Int.toNat (i : Int)) default)], rfl, ⟨by omega, by simp; omega, by simp; omega, ?_, ?_⟩, rfl⟩, (St.imp.rev 3 1 rfl).trans ((St.imp.rev 4 1 rfl).trans (St.imp.of_le (by (refine le_ofL rfl ?_ ?_ <;> (repeat (first | exact trivial | refine ⟨⟨rfl, rfl⟩, ?_⟩ | refine ⟨rfl, .inl rfl, ?_⟩ | refine ⟨rfl, .inr rfl, ?_⟩))))))⟩
      · (try simp only [Int.toNat_natCast, Int.toNat_zero, toNat_cc, toNat_c1, toNat_cm1, toNat_cm] at *)
        rw [e0, if_neg (by assumption), List.map_append, ← ek]
        rfl
      · (try simp only [Int.toNat_natCast, Int.toNat_zero, toNat_cc, toNat_c1, toNat_cm1, toNat_cm] at *)
        rw [e1, if_neg (by assumption), List.map_append, ← ev, ← V.row_eq]
        rfl
    · refine ⟨_, _, by omega, ⟨i + 1, rk, rv, rfl, ⟨by omega, by omega, by omega, ?_, ?_⟩, rfl⟩, (St.imp.of_le (by (refine le_ofL rfl ?_ ?_ <;> (repeat (first | exact trivial | refine ⟨⟨rfl, rfl⟩, ?_⟩ | refine ⟨rfl, .inl rfl, ?_⟩ | refine ⟨rfl, .inr rfl, ?_⟩)))))⟩
      · (try simp only [Int.toNat_natCast, Int.toNat_zero, toNat_cc, toNat_c1, toNat_cm1, toNat_cm] at *)
        rw [e0, if_pos (by assumption), List.append_nil, ← ek]
      · (try simp only [Int.toNat_natCast, Int.toNat_zero, toNat_cc, toNat_c1, toNat_cm1, toNat_cm] at *)
        rw [e1, if_pos (by assumption), List.append_nil, ← ev]
  · obtain rfl : i = v.keys.length := by omega
    rw [List.take_length] at ek ev
    rw [List.take_of_length_le (by omega)] at ev
    subst ek ev
    refine W.pub 3 rfl ?_
    refine W.pub 4 rfl ?_
    repeat' (first | refine W.seq ?_ | refine W.rg ?_ | refine W.dra' ?_ | refine W.block ?_ | refine W.skip ?_ | refine W.exit ?_ | refine W.cond_true' ?_ | refine W.cond_false' ?_ | refine WG.nil ?_ | refine WG.run' (E := env) ?_ | refine WG.gt' ?_ | refine WG.gf' ?_ | refine WG.ixm' (E := env) ?_ | refine WG.ixo' (E := env) ?_ | refine WG.legm' (E := env) ?_ | refine WG.slS' (E := env) ?_ | refine WG.slD' (E := env) ?_ | refine WG.ap' (E := env) ?_ | refine WD.nil ?_ | refine WD.bs' (E := env) ?_ | refine WD.s' (E := env) (t := .d _) ?_ | refine WD.p' ?_ | refine WD.px' ?_ | refine WD.s' (E := env) (t := .ea _ _) ?_ | refine WD.s' (E := env) (t := .lp _ _) ?_ | refine WD.s' (E := env) (t := .og _ _) ?_ | refine WD.s' (E := env) (t := .agg _) ?_ | refine WD.s' (E := env) (t := .tup _) ?_ | refine WD.s' (E := env) (t := .clo _ _) ?_ | refine WD.ixm' (E := env) ?_ | refine WD.ixo' (E := env) ?_ | refine WD.legm' (E := env) ?_ | refine WD.slS' (E := env) ?_ | refine WD.slD' (E := env) ?_ | refine WG.c (E := env) rfl rfl (h8) rfl rfl ?_ | refine WD.c (E := env) rfl rfl (h8) rfl rfl ?_ | refine WG.co (E := env) rfl rfl (h8) rfl rfl rfl rfl ?_ | refine WG.cx (E := env) rfl (h8) rfl ?_ | ((first | refine WG.sp' (fun h => ?_) fun h => ?_ | refine W.cond' (fun h => ?_) fun h => ?_ | refine WD.sp' (fun h => ?_) fun h => ?_) <;> (try simp only [decide_eq_true_eq, decide_eq_false_iff_not, Bool.not_eq_true', Bool.not_eq_false', Bool.and_eq_true, Bool.or_eq_true, Bool.and_eq_false_iff, Bool.or_eq_false_iff, Bool.not_eq_true, Bool.not_eq_false, Int.not_lt, Int.not_le, List.length_map, beq_self_eq_true, Bool.true_eq_false, Bool.false_eq_true] at h) <;> (try (exfalso; first | contradiction | omega))))
    (refine W.ret ?_; (first | refine RetQ.b' ?_ | refine RetQ.i' ?_ | refine RetQ.d' ?_ | refine RetQ.t2' ?_ ?_ | refine RetQ.t3' ?_ ?_ ?_))
    rfl

end Go.Proofs.Ytlegadpbjccelaa
