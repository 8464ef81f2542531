/-
  Texts of this claim in one. Conditions: none.
-/
import Derived.Test.YtmmjbpgdkokjgaaGreatQLowerTreeSl1
import Derived.Test.YtmmjbpgdkokjgaaGreatQLowerTreeTr8
import Derived.Test.YtmmjbpgdkokjgaaGreatQLowerTreePgE
section
set_option linter.unusedVariables false
set_option linter.unusedSimpArgs false
set_option maxRecDepth 100000
namespace Go.Proofs.YtmmjbpgdkokjgaaGreat
open Go.RowKit

/-- What is about each variable in the node at index i that a node names. -/
def inT (n : Nd) (i : Nat) (names : List ByteArray) : List ByteArray := if (n.op = 20 ∧ i = 1) ∨ (n.op = 19 ∧ i = 2) then names ++ [n.text] else names

def callsL : List ByteArray := [⟨#[108, 101, 110, 103, 116, 104]⟩, ⟨#[107, 101, 121, 115]⟩, ⟨#[110, 111, 116]⟩, ⟨#[101, 109, 112, 116, 121]⟩, ⟨#[101, 114, 114, 111, 114]⟩, ⟨#[116, 121, 112, 101]⟩, ⟨#[115, 111, 114, 116]⟩, ⟨#[97, 100, 100]⟩]
def onesL : List ByteArray := [⟨#[109, 97, 112]⟩, ⟨#[115, 101, 108, 101, 99, 116]⟩, ⟨#[114, 97, 110, 103, 101]⟩]

def knownB (n : Nd) (names : List ByteArray) : Bool :=
  if n.op = 21 then among names n.text else if n.op = 22 then among callsL n.text else if n.op = 23 then among onesL n.text else true

def flatI (f : Nat → Nat → List Nat) : List Nat → Nat → List Nat
  | [], _ => []
  | j :: r, i => f i j ++ flatI f r (i + 1)

theorem flatI_snoc (f : Nat → Nat → List Nat) : ∀ (l : List Nat) (j i : Nat), flatI f (l ++ [j]) i = flatI f l i ++ f (i + l.length) j
  | [], j, i => by simp [flatI]
  | x :: r, j, i => by
    rw [List.cons_append]
    simp only [flatI, List.length_cons]
    rw [flatI_snoc f r j (i + 1), List.append_assoc, show i + 1 + r.length = i + (r.length + 1) by omega]

theorem flatI_take (f : Nat → Nat → List Nat) (l : List Nat) {i : Nat} (h : i < l.length) : flatI f (l.take (i + 1)) 0 = flatI f (l.take i) 0 ++ f i (l.getD i default) := by
  rw [take_step h, flatI_snoc, List.length_take, Nat.zero_add, Nat.min_eq_left (by omega)]

theorem flatI_pre (f : Nat → Nat → List Nat) : ∀ (l : List Nat) (i q : Nat), ∃ r, flatI f l q = flatI f (l.take i) q ++ r
  | [], i, q => ⟨[], by simp [flatI]⟩
  | x :: l, 0, q => ⟨flatI f (x :: l) q, by simp [flatI]⟩
  | x :: l, i + 1, q => by
    obtain ⟨r, h⟩ := flatI_pre f l i (q + 1)
    exact ⟨r, by simp only [List.take_succ_cons, flatI]; rw [h, List.append_assoc]⟩

theorem flatI_len {f : Nat → Nat → List Nat} {g : Nat → List Nat} : ∀ {l : List Nat} {i : Nat}, (∀ i, ∀ j ∈ l, (f i j).length ≤ (g j).length) → (flatI f l i).length ≤ (l.flatMap g).length
  | [], _, _ => by simp [flatI]
  | x :: r, i, h => by
    simp only [flatI, List.flatMap_cons, List.length_append]
    have := h i x (List.mem_cons_self ..)
    have := flatI_len (f := f) (g := g) (l := r) (i := i + 1) (fun i j hj => h i j (List.mem_cons_of_mem _ hj))
    omega

/-- The nodes of the tree of one that nothing is about, in the order in which they stand. -/
def badM (ns : List Nd) : Nat → Nat → List ByteArray → List Nat
  | 0, _, _ => []
  | f + 1, k, names => flatI (fun i j => badM ns f j (inT (ns.getD k default) i names)) (kidsOf (nmT ns) k) 0 ++ (if knownB (ns.getD k default) names = true then [] else [k])

theorem badM_len (ns : List Nd) : ∀ f k names, (badM ns f k names).length ≤ (full (nmT ns) k).length
  | 0, k, names => by simp [badM]
  | f + 1, k, names => by
    rw [badM, full_eq, List.length_append, List.length_append]
    have := flatI_len (f := fun i j => badM ns f j (inT (ns.getD k default) i names)) (g := full (nmT ns)) (l := kidsOf (nmT ns) k) (i := 0) (fun i j _ => badM_len ns f j _)
    by_cases h : knownB (ns.getD k default) names = true
    · rw [if_pos h, List.length_nil]; omega
    · rw [if_neg h, List.length_singleton]; omega

def headI : List Nat → Int
  | [] => -1
  | x :: _ => x

theorem headI_app {l r : List Nat} (h : 0 ≤ headI l) : headI (l ++ r) = headI l := by
  cases l with
  | nil => simp [headI] at h
  | cons x l => rfl
theorem headI_nil {l : List Nat} (h : ¬ 0 ≤ headI l) : l = [] := by
  cases l with
  | nil => rfl
  | cons x l => simp [headI] at h

theorem flatI_head {f : Nat → Nat → List Nat} {l : List Nat} {i : Nat} (h : i < l.length) (h0 : flatI f (l.take i) 0 = []) (h1 : 0 ≤ headI (f i (l.getD i default))) : headI (flatI f l 0) = headI (f i (l.getD i default)) := by
  obtain ⟨r, hr⟩ := flatI_pre f l (i + 1) 0
  rw [hr, flatI_take f l h, h0, List.nil_append, headI_app h1]

theorem callsS_fn : Fun env.P 62 [] (.d (namesD callsL)) [] := by
  refine Fun.intro Tryz.func62 rfl (by kernel_rfl) rfl ?_
  repeat' (first | refine W.seq ?_ | refine W.rg ?_ | refine WG.nil ?_ | refine WG.run' (E := env) ?_)
  refine W.pub 0 rfl ?_
  (refine W.ret ?_; (first | refine RetQ.d' ?_))
  rfl
theorem onesS_fn : Fun env.P 63 [] (.d (namesD onesL)) [] := by
  refine Fun.intro Tryz.func63 rfl (by kernel_rfl) rfl ?_
  repeat' (first | refine W.seq ?_ | refine W.rg ?_ | refine WG.nil ?_ | refine WG.run' (E := env) ?_)
  refine W.pub 0 rfl ?_
  (refine W.ret ?_; (first | refine RetQ.d' ?_))
  rfl

set_option maxHeartbeats 1000000 in
theorem isKnown_fn (n : Nd) (names : List ByteArray) (hl : names.length ≤ 1048576) : Fun env.P 74 [.agg n.row, namesD names] (.d (dB (knownB n names))) [] := by
  have h1 := containsS_fn names n.text hl
  have h2 := containsS_fn callsL n.text (by decide)
  refine Fun.intro Tryz.func74 rfl (by kernel_rfl) rfl ?_
  repeat' (first | refine WG.bsD (E := env) ?_ | refine W.seq ?_ | refine W.rg ?_ | refine W.block ?_ | refine W.skip ?_ | refine WG.nil ?_ | refine WG.run' (E := env) ?_ | refine WG.gf' ?_ | refine WG.c (E := env) rfl rfl (h1) rfl rfl ?_ | refine WG.c (E := env) rfl rfl (h2) rfl rfl ?_ | ((first | refine WG.sp' (fun h => ?_) fun h => ?_ | refine W.cond' (fun h => ?_) fun h => ?_) <;> (try simp only [atS, List.length_map, beq_self_eq_true] at h) <;> (try (exfalso; first | contradiction | omega))))
  all_goals (refine W.ret ?_; (first | refine RetQ.b' ?_))
  all_goals simp [knownB, onesL, among, *]

end Go.Proofs.YtmmjbpgdkokjgaaGreat
end

section
set_option linter.unusedVariables false
set_option linter.unusedSimpArgs false
set_option maxRecDepth 100000
namespace Go.Proofs.YtmmjbpgdkokjgaaGreat
open Go.RowKit

set_option maxHeartbeats 4000000 in
theorem unknown_fn (ns : List Nd) (hl : ns.length ≤ 1048) (hok : NmOK ns) : ∀ (f k : Nat) (sl : List ByteArray), k < f → k < ns.length → sl.length + k ≤ 4096 →
    Fun env.P 36 [nodesD ns, dI k, namesD sl] (.d (dI (headI (badM ns f k sl)))) []
  | 0, k, sl, h, _, _ => by omega
  | f + 1, k, sl, hkf, hk, hs => by
    have ih := unknown_fn ns hl hok f
    have hnm := namedK_fn ns k (hok k hk)
    have hka := kids_arN (hok k hk)
    have hlt : ∀ j ∈ kidsOf (nmT ns) k, j < k := fun j hj => kidsOf_lt hj
    rw [badM]
    generalize kidsOf (nmT ns) k = ks at hnm hlt hka
    have hil := intsN_length ks
    refine Fun.intro Tryz.func36 rfl (by kernel_rfl) rfl ?_
    repeat (first | refine W.seq ?_ | refine W.rg ?_ | refine W.block ?_ | refine W.skip ?_ | refine W.exit ?_ | refine W.cond_true' ?_ | refine W.cond_false' ?_ | refine WG.nil ?_ | refine WG.run' (E := env) ?_ | refine WG.gt' ?_ | refine WG.gf' ?_ | refine WG.ixm' (E := env) ?_)
    have hat : ns.getD (Int.toNat k) default = ns.getD k default := by simp
    rw [hat]
    generalize hn : ns.getD k default = n at hnm hka
    clear hat
    have hkl := arN_le n.op
    have hknown := isKnown_fn n sl (by omega)
    obtain ⟨F, hF⟩ : ∃ F : Nat → Nat → List Nat, ∀ i j, badM ns f j (inT n i sl) = F i j := ⟨_, fun _ _ => rfl⟩
    rw [show (fun i j => badM ns f j (inT n i sl)) = F from funext fun i => funext fun j => hF i j]
    repeat' (first | refine W.seq ?_ | refine W.rg ?_ | refine W.block ?_ | refine W.skip ?_ | refine W.exit ?_ | refine W.cond_true' ?_ | refine W.cond_false' ?_ | refine WG.nil ?_ | refine WG.run' (E := env) ?_ | refine WG.gt' ?_ | refine WG.gf' ?_ | refine WG.ixm' (E := env) ?_ | refine WG.c (E := env) rfl rfl (hnm) rfl rfl ?_ | ((first | refine WG.sp' (fun h => ?_) fun h => ?_ | refine W.cond' (fun h => ?_) fun h => ?_) <;> (try simp only [atS, List.length_map, beq_self_eq_true] at h) <;> (try (exfalso; first | contradiction | omega))))
    refine W.loopI (fun m S => ∃ (i : Nat), m = ks.length - i ∧ (i ≤ ks.length ∧ flatI F (ks.take i) 0 = []) ∧
        S = ⟨ofL [(0, .d (nodesD ns)), (1, vI .i64 k), (2, .d (namesD sl)), (7, .lp 0 0), (17, .d (.sl 1 ((intsN ks).map intRow))), (18, vI .i64 ((intsN ks).map intRow).length), (19, vI .i64 i)], [.pv (n.row.map .d)]⟩) _ _
        ⟨0, rfl, ⟨by omega, by simp [flatI]⟩, rfl⟩ (St.imp.of_le (by (refine le_ofL rfl ?_ ?_ <;> (repeat (first | exact trivial | refine ⟨⟨rfl, rfl⟩, ?_⟩ | refine ⟨rfl, .inl rfl, ?_⟩ | refine ⟨rfl, .inr rfl, ?_⟩))))) ?_
    rintro m S ⟨i, rfl, ⟨hi, he⟩, rfl⟩
    by_cases hik : i < ks.length
    · have hkm := hlt _ (getD_mem' hik)
      have hia := intsN_at ks i hik
      have hia2 : (intsN ks).getD (Int.toNat i) default = ((ks.getD i default : Nat) : Int) := by simpa using hia
      have hcl := cloneNs_fn sl (by omega)
      have htk := flatI_take F ks hik
      have hhd := flatI_head (f := F) hik he
      by_cases hc : (n.op = 20 ∧ i = 1) ∨ (n.op = 19 ∧ i = 2)
      · have hinc : inT n i sl = sl ++ [n.text] := by rw [inT, if_pos hc]
        have ih' := ih (ks.getD i default) (sl ++ [n.text]) (by omega) (by omega) (by rw [List.length_append, List.length_singleton]; omega)
        rw [← hinc, hF, hinc] at ih'
        generalize F i (ks.getD i default) = bl at ih' htk hhd
        rw [← hia2] at ih'
        have ih2 := ih'.cast (args' := [nodesD ns, dI ((intsN ks).getD (Int.toNat i) default), .sl 1 (sl.map txtRow ++ [[dS n.text]])]) (by simp [namesD]) rfl rfl
        generalize hbl : headI bl = h at ih2 hhd
        repeat' (first | (refine W.dre' (id := 7) [1, 5] (fun f => bif bt f 2 then [.pv (n.row.map .d), .gr 1 9 (sl.map txtRow ++ [[dS n.text]]) 1 false] else bif bt f 1 then [.pv (n.row.map .d), .gr 1 9 (sl.map txtRow) 0 false] else [.pv (n.row.map .d)]) [(0, [0]), (1, [0]), (0, [0, 1]), (0, [0, 1]), (0, [0, 1]), (2, [1]), (0, [3])] [.pv (n.row.map .d), .gr 1 9 (sl.map txtRow ++ [[dS n.text]]) 1 false] ?_) | refine W.pubD 1 rfl ?_ | refine WE.mkd (.og 1 0) ?_ (.c (OpS1.coG rfl rfl hcl rfl rfl rfl) .n) | refine WE.nil ?_ | refine WE.s' (E := env) (t := .d _) ?_ | refine WE.s' (E := env) (t := .lp _ _) ?_ | refine WE.s' (E := env) (t := .og _ _) ?_ | refine WE.s' (E := env) (t := .ea _ _) ?_ | refine WE.s' (E := env) (t := .agg _) ?_ | refine WE.s' (E := env) (t := .tup _) ?_ | refine WE.ap' (E := env) ?_ | refine WE.bs' (E := env) ?_ | refine W.seq ?_ | refine W.rg ?_ | refine W.block ?_ | refine W.skip ?_ | refine W.exit ?_ | refine W.cond_true' ?_ | refine W.cond_false' ?_ | refine WG.nil ?_ | refine WG.run' (E := env) ?_ | refine WG.gt' ?_ | refine WG.gf' ?_ | refine WG.ixm' (E := env) ?_ | refine WG.c (E := env) rfl rfl (ih2) rfl rfl ?_ | ((first | refine WG.sp' (fun h => ?_) fun h => ?_ | refine W.cond' (fun h => ?_) fun h => ?_) <;> (try simp only [atS, List.length_map, beq_self_eq_true] at h) <;> (try (exfalso; first | contradiction | omega))))
        all_goals first
          | ((refine W.ret ?_; (first | refine RetQ.i' ?_)); rw [headI_app (by rw [hhd (by omega)]; omega), hhd (by omega)]; done)
          | exact ⟨_, _, by omega, ⟨i + 1, rfl, ⟨by omega, by rw [htk, he, headI_nil (l := bl) (by omega)]; rfl⟩, rfl⟩, (St.imp.of_le (by (refine le_ofL rfl ?_ ?_ <;> (repeat (first | exact trivial | refine ⟨⟨rfl, rfl⟩, ?_⟩ | refine ⟨rfl, .inl rfl, ?_⟩ | refine ⟨rfl, .inr rfl, ?_⟩)))))⟩
      · have hinc : inT n i sl = sl := by rw [inT, if_neg hc]
        have ih' := ih (ks.getD i default) sl (by omega) (by omega) (by omega)
        rw [← hinc, hF, hinc] at ih'
        generalize F i (ks.getD i default) = bl at ih' htk hhd
        rw [← hia2] at ih'
        generalize hbl : headI bl = h at ih' hhd
        repeat' (first | refine W.seq ?_ | refine W.rg ?_ | refine W.block ?_ | refine W.skip ?_ | refine W.exit ?_ | refine W.cond_true' ?_ | refine W.cond_false' ?_ | refine WG.nil ?_ | refine WG.run' (E := env) ?_ | refine WG.gt' ?_ | refine WG.gf' ?_ | refine WG.ixm' (E := env) ?_ | refine WG.c (E := env) rfl rfl (ih') rfl rfl ?_ | ((first | refine WG.sp' (fun h => ?_) fun h => ?_ | refine W.cond' (fun h => ?_) fun h => ?_) <;> (try simp only [atS, List.length_map, beq_self_eq_true] at h) <;> (try (exfalso; first | contradiction | omega))))
        all_goals first
          | ((refine W.ret ?_; (first | refine RetQ.i' ?_)); rw [headI_app (by rw [hhd (by omega)]; omega), hhd (by omega)]; done)
          | exact ⟨_, _, by omega, ⟨i + 1, rfl, ⟨by omega, by rw [htk, he, headI_nil (l := bl) (by omega)]; rfl⟩, rfl⟩, (St.imp.of_le (by (refine le_ofL rfl ?_ ?_ <;> (repeat (first | exact trivial | refine ⟨⟨rfl, rfl⟩, ?_⟩ | refine ⟨rfl, .inl rfl, ?_⟩ | refine ⟨rfl, .inr rfl, ?_⟩)))))⟩
    · rw [show i = ks.length by omega, List.take_length] at he
      rw [he, List.nil_append]
      generalize knownB n sl = b at hknown
      repeat' (first | refine W.seq ?_ | refine W.rg ?_ | refine W.block ?_ | refine W.skip ?_ | refine W.exit ?_ | refine W.cond_true' ?_ | refine W.cond_false' ?_ | refine WG.nil ?_ | refine WG.run' (E := env) ?_ | refine WG.gt' ?_ | refine WG.gf' ?_ | refine WG.ixm' (E := env) ?_ | refine WG.c (E := env) rfl rfl (hknown) rfl rfl ?_ | ((first | refine WG.sp' (fun h => ?_) fun h => ?_ | refine W.cond' (fun h => ?_) fun h => ?_) <;> (try simp only [atS, List.length_map, beq_self_eq_true] at h) <;> (try (exfalso; first | contradiction | omega))))
      all_goals (refine W.ret ?_; (first | refine RetQ.i' ?_))
      all_goals (simp_all [headI]; try rfl)

end Go.Proofs.YtmmjbpgdkokjgaaGreat
end
