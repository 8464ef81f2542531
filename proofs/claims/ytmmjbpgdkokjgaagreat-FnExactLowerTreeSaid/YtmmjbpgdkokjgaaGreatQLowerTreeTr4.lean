/-
  How deep a tree is, and where it begins, by the program. Conditions: right nodes, at most 2^20.
-/
import Derived.Test.YtmmjbpgdkokjgaaGreatQLowerTreeTr2
import Derived.Test.YtmmjbpgdkokjgaaGreatQLowerTreeRf1
set_option linter.unusedVariables false
set_option linter.unusedSimpArgs false
set_option maxRecDepth 100000
namespace Go.Proofs.YtmmjbpgdkokjgaaGreat
open Go.RowKit

def nmT (ns : List Nd) (k : Nat) : List Int := (ns.getD k default).named

/-- Every node names nodes ahead of it. -/
def NmOK (ns : List Nd) : Prop := ∀ k, k < ns.length → ∀ m ∈ nmT ns k, 0 ≤ m ∧ m < k

theorem nodeCode_named {ns : List Nd} {k : Nat} (h : nodeCode ns k = 0) : ∀ m ∈ nmT ns k, 0 ≤ m ∧ m < k := by
  unfold nodeCode nodeC at h
  split at h
  · cases h
  · split at h
    · cases h
    · rename_i hf
      exact formB3_named (by simpa using hf)

theorem namedK_fn (ns : List Nd) (k : Nat) (h : ∀ m ∈ nmT ns k, 0 ≤ m ∧ m < k) : Fun env.P 72 [.agg (ns.getD k default).row] (.d (.sl 1 ((intsN (kidsOf (nmT ns) k)).map intRow))) [] :=
  (named_fn (ns.getD k default)).cast rfl (by rw [← kidsOf_eq h]; rfl) rfl

set_option maxHeartbeats 1000000 in
theorem nest_fn (ns : List Nd) (hl : ns.length ≤ 1048576) (hok : NmOK ns) : ∀ k, k < ns.length → Fun env.P 71 [nodesD ns, dI k] (.d (dI (nestM (nmT ns) k))) [] := fun k => by
  induction k using Nat.strongRecOn with
  | _ k ih =>
    intro hk
    have hnm := namedK_fn ns k (hok k hk)
    have hlt : ∀ j ∈ kidsOf (nmT ns) k, j < k := fun j hj => kidsOf_lt hj
    have hkl : (kidsOf (nmT ns) k).length ≤ 3 := by
      rw [kidsOf_length (hok k hk)]
      simp [nmT, Nd.named]; omega
    rw [nestM_eq]
    generalize kidsOf (nmT ns) k = ks at hnm hlt hkl
    have hil := intsN_length ks
    refine Fun.intro Tryz.func71 rfl (by kernel_rfl) rfl ?_
    repeat (first | refine W.seq ?_ | refine W.rg ?_ | refine W.block ?_ | refine W.skip ?_ | refine W.exit ?_ | refine WG.nil ?_ | refine WG.run' (E := env) ?_ | refine WG.ixm' (E := env) ?_)
    have hat : ns.getD (Int.toNat k) default = ns.getD k default := by simp
    rw [hat]
    generalize hn : ns.getD k default = n at hnm
    clear hat
    repeat' (first | refine W.seq ?_ | refine W.rg ?_ | refine W.block ?_ | refine W.skip ?_ | refine W.exit ?_ | refine WG.nil ?_ | refine WG.run' (E := env) ?_ | refine WG.ixm' (E := env) ?_ | refine WG.c (E := env) rfl rfl (hnm) rfl rfl ?_ | ((refine W.cond' (fun h => ?_) fun h => ?_) <;> (try simp only [atS, List.length_map, beq_self_eq_true] at h) <;> (try (exfalso; first | contradiction | omega))))
    refine W.loop (fun m S => ∃ (i : Nat) (x : Int), m = ks.length - i ∧ (i ≤ ks.length ∧ x = (maxL (nestM (nmT ns)) (ks.take i) : Nat)) ∧ S = ⟨ofL [(0, .d (nodesD ns)), (5, vI .i64 x), (12, .d (.sl 1 ((intsN ks).map intRow))), (13, vI .i64 ((intsN ks).map intRow).length), (14, vI .i64 i)], []⟩) _ _ ⟨0, 0, rfl, ⟨by omega, by simp [maxL]⟩, rfl⟩ (by (refine le_ofL rfl ?_ ?_ <;> (repeat (first | exact trivial | refine ⟨⟨rfl, rfl⟩, ?_⟩ | refine ⟨rfl, .inl rfl, ?_⟩ | refine ⟨rfl, .inr rfl, ?_⟩)))) ?_
    rintro m S ⟨i, x, rfl, ⟨hi, hx⟩, rfl⟩
    have hmx : maxL (nestM (nmT ns)) (ks.take i) ≤ 1048576 := maxL_le (by omega) fun j hj => by
      have := hlt j (List.mem_of_mem_take hj)
      have := nestM_le (nmT ns) j
      omega
    by_cases hik : i < ks.length
    · have hkm := hlt _ (getD_mem' hik)
      have ih' := ih _ hkm (by omega)
      have hnl := nestM_le (nmT ns) (ks.getD i default)
      have hia := intsN_at ks i hik
      have hia2 : (intsN ks).getD (Int.toNat i) default = ((ks.getD i default : Nat) : Int) := by simpa using hia
      rw [← hia2] at ih'
      repeat' (first | refine W.seq ?_ | refine W.rg ?_ | refine W.block ?_ | refine W.skip ?_ | refine W.exit ?_ | refine WG.nil ?_ | refine WG.run' (E := env) ?_ | refine WG.ixm' (E := env) ?_ | refine WG.c (E := env) rfl rfl (ih') rfl rfl ?_ | ((refine W.cond' (fun h => ?_) fun h => ?_) <;> (try simp only [atS, List.length_map, beq_self_eq_true] at h) <;> (try (exfalso; first | contradiction | omega))))
      exact ⟨_, _, by omega, ⟨i + 1, max x ((nestM (nmT ns) (ks.getD i default) : Nat) : Int), rfl, ⟨by omega, by rw [hx, take_step hik, maxL_snoc]; omega⟩, rfl⟩, (by (refine le_ofL rfl ?_ ?_ <;> (repeat (first | exact trivial | refine ⟨⟨rfl, rfl⟩, ?_⟩ | refine ⟨rfl, .inl rfl, ?_⟩ | refine ⟨rfl, .inr rfl, ?_⟩))))⟩
    · repeat' (first | refine W.seq ?_ | refine W.rg ?_ | refine W.block ?_ | refine W.skip ?_ | refine W.exit ?_ | refine WG.nil ?_ | refine WG.run' (E := env) ?_ | refine WG.ixm' (E := env) ?_ | ((refine W.cond' (fun h => ?_) fun h => ?_) <;> (try simp only [atS, List.length_map, beq_self_eq_true] at h) <;> (try (exfalso; first | contradiction | omega))))
      (refine W.ret ?_; (first | refine RetQ.i' ?_))
      rw [hx, show i = ks.length by omega, List.take_length]
      simp

/-- A node's cells, where the tree is. -/
theorem node_cells {ns : List Nd} {k : Nat} (hk : k < ns.length) {σ0 : Sto} {tv : Value} (hrd : RD σ0 (nodesD ns) tv) : ∃ b off cap, tv = .slice (some ⟨b, off, none⟩) ns.length cap ∧
    σ0 b (off + k * 6) = some (.int .i64 (ns.getD k default).op) ∧ σ0 b (off + k * 6 + 1) = some (.int .i64 (ns.getD k default).a) ∧ σ0 b (off + k * 6 + 2) = some (.int .i64 (ns.getD k default).b) ∧
    σ0 b (off + k * 6 + 3) = some (.int .i64 (ns.getD k default).c) ∧ σ0 b (off + k * 6 + 4) = some (.int .i64 (ns.getD k default).num) ∧ σ0 b (off + k * 6 + 5) = some (.string (ns.getD k default).text) := by
  obtain ⟨b, off, cap, U, h1, hc, hr⟩ := rd_rows hrd (by simp; omega)
  have hrow : (ns.map Nd.row)[k]? = some (ns.getD k default).row := map_rowN Nd.row ns k hk
  have hk' : k < (ns.map Nd.row).length := by simpa using hk
  have v := fun j x hj => RD.val_v (hr k j _ (.v x) hrow hj)
  have c := fun j (hj : j < 6) => hc k j hk' hj
  rw [List.length_map] at h1
  refine ⟨b, off, cap, h1, ?_, ?_, ?_, ?_, ?_, ?_⟩
  · rw [← v 0 _ rfl]; exact c 0 (by omega)
  · rw [← v 1 _ rfl]; exact c 1 (by omega)
  · rw [← v 2 _ rfl]; exact c 2 (by omega)
  · rw [← v 3 _ rfl]; exact c 3 (by omega)
  · rw [← v 4 _ rfl]; exact c 4 (by omega)
  · rw [← v 5 _ rfl]; exact c 5 (by omega)

/-- What a node names, called by the kit's rules. -/
theorem named_calls (ns : List Nd) (k : Nat) (h : ∀ m ∈ nmT ns k, 0 ≤ m ∧ m < k) (w : World) :
    Calls Tryz.prog 72 #[.agg #[.int .i64 (ns.getD k default).op, .int .i64 (ns.getD k default).a, .int .i64 (ns.getD k default).b, .int .i64 (ns.getD k default).c, .int .i64 (ns.getD k default).num, .string (ns.getD k default).text]] w
      fun e w' => ∃ sv, e = .returned sv ∧ Below w.heap.size w w' ∧ IntsAt w.heap.size w'.heap.size w' sv (intsN (kidsOf (nmT ns) k)) := by
  refine ((namedK_fn ns k h).raw0 w [.agg #[.int .i64 (ns.getD k default).op, .int .i64 (ns.getD k default).a, .int .i64 (ns.getD k default).b, .int .i64 (ns.getD k default).c, .int .i64 (ns.getD k default).num, .string (ns.getD k default).text]] rfl fun i x u hx hu => ?_).mono fun e w' ⟨v, g, h1, h2, h3, h3b, h4⟩ => ?_
  · cases i with
    | succ i => simp at hx
    | zero =>
      simp at hx hu
      subst hx; subst hu
      refine .agg _ [.int .i64 (ns.getD k default).op, .int .i64 (ns.getD k default).a, .int .i64 (ns.getD k default).b, .int .i64 (ns.getD k default).c, .int .i64 (ns.getD k default).num, .string (ns.getD k default).text] rfl fun j y v hy hv => ?_
      match j, hy, hv with
      | 0, hy, hv => cases hy; cases hv; exact .v _
      | 1, hy, hv => cases hy; cases hv; exact .v _
      | 2, hy, hv => cases hy; cases hv; exact .v _
      | 3, hy, hv => cases hy; cases hv; exact .v _
      | 4, hy, hv => cases hy; cases hv; exact .v _
      | 5, hy, hv => cases hy; cases hv; exact .v _
      | j + 6, hy, hv => simp [Nd.row] at hy
  · refine ⟨v, h1, h2, IntsAt.ofRD h3 h3b ?_⟩
    exact h4.inv_d

/-! ### where it begins: a range over a function -/

open Go.Shelf

attribute [local go_sem] Oper.semAt_some

set_option maxHeartbeats 4000000 in
theorem beginOf_calls (ns : List Nd) (hl : ns.length ≤ 1048576) (hok : NmOK ns) : ∀ k, k < ns.length → ∀ (w : World) (σ0 : Sto) (tv : Value), (∀ b o u, σ0 b o = some u → w.cell? ⟨b, o, none⟩ = some u) → RD σ0 (nodesD ns) tv →
    Calls Tryz.prog 70 #[tv, .int .i64 k] w fun e w' => e = .returned (.int .i64 (begM (nmT ns) k)) ∧ Below w.heap.size w w' := fun k => by
  induction k using Nat.strongRecOn with
  | _ k ih =>
    intro hk w σ0 tv hσ hrd
    have hcells := node_cells hk hrd
    obtain ⟨b, off, cap, rfl, c0, c1, c2, c3, c4, c5⟩ := hcells
    have hbl : b < w.heap.size := World.block_lt_of_cell? w ⟨b, off + k * 6, none⟩ (hσ _ _ _ c0)
    have hnm := named_calls ns k (hok k hk)
    generalize hn : ns.getD k default = n at c0 c1 c2 c3 c4 c5 hnm
    refine (callsIn_wide (n := 3)).1 ?_
    refine callsIn_of_wp_marks Tryz.func70 rfl trivial ?_ rfl
    simp only [Tryz.ntmps70, List.size_toArray, List.length_cons, List.length_nil, Nat.reduceAdd, Nat.reduceSub, Array.replicate_succ, Array.replicate_zero, List.push_toArray, List.append_toArray, List.nil_append, List.cons_append]
    have hB3 : Below w.heap.size w (((w.alloc (.cells #[.slice (some ⟨b, off, none⟩) ns.length cap] 28)).alloc (.cells #[.int .i64 0] 2)).alloc (.cells #[.int .i64 k] 2)) :=
      (((Below.refl _ w).alloc (Nat.le_refl _) _).alloc (by simp) _).alloc (by simp; omega) _
    have d0 := (hB3.cell (p := ⟨b, off + k * 6, none⟩) hbl).trans (hσ _ _ _ c0)
    have d1 := (hB3.cell (p := ⟨b, off + k * 6 + 1, none⟩) hbl).trans (hσ _ _ _ c1)
    have d2 := (hB3.cell (p := ⟨b, off + k * 6 + 2, none⟩) hbl).trans (hσ _ _ _ c2)
    have d3 := (hB3.cell (p := ⟨b, off + k * 6 + 3, none⟩) hbl).trans (hσ _ _ _ c3)
    have d4 := (hB3.cell (p := ⟨b, off + k * 6 + 4, none⟩) hbl).trans (hσ _ _ _ c4)
    have d5 := (hB3.cell (p := ⟨b, off + k * 6 + 5, none⟩) hbl).trans (hσ _ _ _ c5)
    gi_wp2_with (first
      | (refine ⟨trivial, ?_⟩; gi_at_call 72; refine (callsIn_wide.2 (hnm _)).mono ?_; rintro e w' ⟨sv, rfl, hB4, hI⟩; obtain ⟨sa, scap, rfl⟩ := hI.slice)
      | (refine ⟨trivial, ?_⟩; gi_at_call 93; refine (back_in Fence.wide _ trivial rfl _ _ _ _).mono ?_; rintro e w'' ⟨rfl, rfl⟩))
    have hsz3 : (((w.alloc (.cells #[.slice (some ⟨b, off, none⟩) ns.length cap] 28)).alloc (.cells #[.int .i64 0] 2)).alloc (.cells #[.int .i64 k] 2)).heap.size = w.heap.size + 3 := by simp
    have e0 := box_new w (.slice (some ⟨b, off, none⟩) ns.length cap) 28
    have e1 := box_new (w.alloc (.cells #[.slice (some ⟨b, off, none⟩) ns.length cap] 28)) (.int .i64 0) 2
    have e2 := box_new ((w.alloc (.cells #[.slice (some ⟨b, off, none⟩) ns.length cap] 28)).alloc (.cells #[.int .i64 0] 2)) (.int .i64 k) 2
    simp only [World.size_alloc] at e1 e2
    have f0 := cell_grown (.cells #[.int .i64 k] 2) (cell_grown (.cells #[.int .i64 0] 2) e0.1)
    have f1 := cell_grown (.cells #[.int .i64 k] 2) e1.1
    have g1 := frozen_grown (.cells #[.int .i64 k] 2) e1.1 e1.2
    obtain ⟨f2, g2⟩ := e2
    clear e0 e1 d0 d1 d2 d3 d4 d5 hnm
    generalize hW3 : (((w.alloc (.cells #[.slice (some ⟨b, off, none⟩) ns.length cap] 28)).alloc (.cells #[.int .i64 0] 2)).alloc (.cells #[.int .i64 k] 2)) = W3 at *
    clear hW3
    have hlt : ∀ j ∈ kidsOf (nmT ns) k, j < k := fun j hj => kidsOf_lt hj
    have hkl : (kidsOf (nmT ns) k).length ≤ 3 := by
      rw [kidsOf_length (hok k hk)]
      simp [nmT, Nd.named]; omega
    have hst := Seen.start (nmT ns) k
    generalize kidsOf (nmT ns) k = ks at *
    have hil := intsN_length ks
    have hBw : Below w.heap.size w w' := hB3.trans (hB4.mono (by omega))
    have f0' := cell_below hB4 f0
    have f1' := cell_below hB4 f1
    have f2' := cell_below hB4 f2
    have g1' := frozen_below hB4 f1 g1
    have g2' := frozen_below hB4 f2 g2
    have hsz4 := hB4.size
    have hbx := box_new w' (.slice sa (intsN ks).length scap) 56
    rw [hsz3] at hI
    have hI2 : IntsAt (w.heap.size + 3) (w'.heap.size + 1) (w'.alloc (.cells #[.slice sa (intsN ks).length scap] 56)) (.slice sa (intsN ks).length scap) (intsN ks) := (hI.kept (KpB.below ((Below.refl _ w').alloc (Nat.le_refl _) _) (Nat.le_refl _))).up (Nat.le_succ _)
    refine wpIn_rangeFunc_ownF rfl (by omega) (gf := 108) (lb := #[.pointer (some ⟨w'.heap.size, 0, none⟩)]) rfl trivial (enters_of Tryz.func108 (by kernel_rfl) rfl)
      (back_stops Fence.wide 2 trivial rfl (by omega) w'.heap.size (w.heap.size + 3) (w'.heap.size + 1) (.slice sa (intsN ks).length scap) (intsN ks) (by omega) _ (by omega) (by simp) hbx.1 hI2) KpB.trans (KpB.put (by simp)) (Below.refl _ _) (fun _ => rfl)
      (fun pre W => (W.cell? ⟨w.heap.size, 0, none⟩ = some (.slice (some ⟨b, off, none⟩) ns.length cap) ∧ W.cell? ⟨w.heap.size + 1, 0, none⟩ = some (.int .i64 0) ∧ W.frozen? ⟨w.heap.size + 1, 0, none⟩ = false ∧
        (∃ bb : Int, W.cell? ⟨w.heap.size + 1 + 1, 0, none⟩ = some (.int .i64 bb) ∧ (0 ≤ bb ∧ bb ≤ 1048576) ∧ ∀ m, pre = List.range m → m ≤ ks.length → ∃ b' : Nat, bb = b' ∧ Seen (nmT ns) k (ks.take (ks.length - m)) b') ∧ W.frozen? ⟨w.heap.size + 1 + 1, 0, none⟩ = false ∧ w'.heap.size + 1 ≤ W.heap.size) ∧ Below w.heap.size w W)
      (fun c pre W => (c = .ret ∧ W.cell? ⟨w.heap.size + 1, 0, none⟩ = some (.int .i64 (-1)) ∧ ∀ m, pre = List.range m → m ≤ ks.length → begM (nmT ns) k = -1) ∧ Below w.heap.size w W)
      (OwnFrom.and (Own.from (fun s A B row hs hg hr => ⟨cell_kept hs.1 hg hr, cell_kept hs.2.1 hg hr, (frozen_kept hs.2.1 hg hr).trans hs.2.2.1, let ⟨bb, h1, h2⟩ := hs.2.2.2.1; ⟨bb, cell_kept h1 hg hr, h2⟩, let ⟨bb, h1, h2⟩ := hs.2.2.2.1; (frozen_kept h1 hg hr).trans hs.2.2.2.2.1, Nat.le_trans hs.2.2.2.2.2 hg.size⟩) _) (ownFrom_below (Nat.le_refl _) (by simp; omega)))
      (fun c => OwnFrom.and (Own.from (fun s A B row hs hg hr => ⟨hs.1, cell_kept hs.2.1 hg hr, hs.2.2⟩) _) (ownFrom_below (Nat.le_refl _) (by simp; omega)))
      ⟨⟨cell_grown _ f0', cell_grown _ f1', frozen_grown _ f1' g1', ⟨k, cell_grown _ f2', by omega, fun m hm hml => ?start⟩, frozen_grown _ f2' g2', by simp⟩, hBw.alloc (by omega) _⟩
      (fun x => { tmps := #[.slice (some ⟨b, off, none⟩) ns.length cap, .int .i64 k, .pointer (some ⟨w.heap.size, 0, none⟩), undef, .pointer (some ⟨w.heap.size + 1, 0, none⟩), .pointer (some ⟨w.heap.size + 1 + 1, 0, none⟩), undef, .int .i64 ((intsN ks)[(intsN ks).length - 1 - x]?.getD 0), .int .i64 k, .slice (some ⟨b, off, none⟩) ns.length cap, .int .i64 k, .pointer (some ⟨b, off + k * 6, none⟩), .agg #[.int .i64 n.op, .int .i64 n.a, .int .i64 n.b, .int .i64 n.c, .int .i64 n.num, .string n.text], .slice sa (intsN ks).length scap, .func (.func 108) #[] #[.pointer (some ⟨w'.heap.size, 0, none⟩)], .int .i64 (((intsN ks).length - 1 - x : Nat) : Int), .int .i64 ((intsN ks)[(intsN ks).length - 1 - x]?.getD 0), undef, undef, undef, undef, undef, undef, undef, undef, undef, undef], defers := [] }) ?assign ?body ?done ?stop
    case start =>
      have : m = 0 := by
        have := congrArg List.length hm
        simpa using this.symm
      subst this
      exact ⟨k, rfl, by rw [Nat.sub_zero, List.take_length]; exact hst⟩
    case assign =>
      intro l x W K hK
      clear hil
      gi_wp2
      exact hK
    case body =>
      rintro l pre x W ⟨⟨hc0, hc1, hf1, ⟨bb, hc2, hbb, hsn⟩, hf2, hzz⟩, hB⟩ hlen
      rw [hil] at hlen
      have hj : ks.length - 1 - x < ks.length := by omega
      have hown : (intsN ks)[(intsN ks).length - 1 - x]?.getD 0 = ((ks.getD (ks.length - 1 - x) default : Nat) : Int) := by rw [hil]; simp [intsN, hj]
      rw [hown]
      have hmem := getD_mem' hj
      generalize hon : ks.getD (ks.length - 1 - x) default = own at *
      have hltk := hlt own hmem
      have hbo := nestM_le (nmT ns) own
      have hcall := ih own hltk (by omega) W σ0 _ (fun b o u hu => (hB.cell (World.block_lt_of_cell? w ⟨b, o, none⟩ (hσ b o u hu))).trans (hσ b o u hu)) hrd
      clear hil
      gi_wp2_with (refine ⟨trivial, ?_⟩; gi_at_call 70; refine (CallsIn.inRound l (callsIn_wide.2 hcall)).mono ?_; rintro e W2 ⟨rfl, hB2⟩; have k0 := cell_below hB2 hc2; have k1 := frozen_below hB2 hc2 hf2; have k2 := cell_below hB2 hc1; have k3 := frozen_below hB2 hc1 hf1)
      · rename_i hx
        have hx' : ¬ (own : Int) = bb - 1 := by simpa using hx
        refine ⟨KeepsOthers.setCell _ _ _, ⟨rfl, World.cell?_setCell_same' _ _ _ (by rw [hc1]; rfl), fun m hm hml => ?_⟩, hB.setCell (p := ⟨w.heap.size + 1, 0, none⟩) (by simp) _⟩
        obtain ⟨_, rfl, hp, rfl⟩ := snoc_range hm
        obtain ⟨b', rfl, hs⟩ := hsn x hp (by omega)
        rw [show ks.length - x = (ks.length - 1 - x) + 1 by omega, take_step (by omega), hon] at hs
        exact hs.bad (by omega)
      · rename_i hx hneg
        have hx' : (own : Int) = bb - 1 := by simpa using hx
        have hlt2 := World.block_lt_of_cell? W ⟨w.heap.size + 1 + 1, 0, none⟩ hc2
        refine ⟨((KeepsOthers.of_below hB2).trans (KeepsOthers.setCell _ _ _)).trans (KeepsOthers.setCell _ _ _), ⟨rfl, World.cell?_setCell_same' _ _ _ (by rw [cell_other k2 (by dsimp only; omega)]; rfl), fun m hm hml => ?_⟩,
          (((hB.trans (hB2.mono hB.size)).setCell (p := ⟨w.heap.size + 1 + 1, 0, none⟩) (by simp; omega) _).setCell (p := ⟨w.heap.size + 1, 0, none⟩) (by simp) _)⟩
        obtain ⟨_, rfl, hp, rfl⟩ := snoc_range hm
        obtain ⟨b', rfl, hs⟩ := hsn x hp (by omega)
        rw [show ks.length - x = (ks.length - 1 - x) + 1 by omega, take_step (by omega), hon] at hs
        exact hs.below hneg
      · rename_i hx hpos
        have hx' : (own : Int) = bb - 1 := by simpa using hx
        have hbl2 := begM_le (nmT ns) own
        have hsW := hB.size
        have k4 := cell_below hB2 hc0
        refine ⟨(KeepsOthers.of_below hB2).trans (KeepsOthers.setCell _ _ _), ?_, ⟨cell_other k4 (by dsimp only; omega), cell_other k2 (by dsimp only; omega), frozen_other k3 (by dsimp only; omega), ⟨begM (nmT ns) own, World.cell?_setCell_same' _ _ _ (by rw [k0]; rfl), by omega, fun m hm hml => ?_⟩, by rw [World.frozen?_setCell]; exact k1, by have h1 := hB2.size; have h2 := (KeepsOthers.setCell W2 ⟨w.heap.size + 1 + 1, 0, none⟩ (.int .i64 (begM (nmT ns) own))).size; omega⟩,
          (hB.trans (hB2.mono hB.size)).setCell (p := ⟨w.heap.size + 1 + 1, 0, none⟩) (by simp; omega) _⟩
        · exact KpB.trans (KpB.below hB2 hzz) (KpB.set _ _ _ (by dsimp only; omega))
        · obtain ⟨_, rfl, hp, rfl⟩ := snoc_range hm
          obtain ⟨b', rfl, hs⟩ := hsn x hp (by omega)
          rw [show ks.length - x = (ks.length - 1 - x) + 1 by omega, take_step (by omega), hon] at hs
          obtain ⟨c, h1, h2⟩ := hs.next (by omega) hpos
          exact ⟨c, h1, by rw [show ks.length - (x + 1) = ks.length - 1 - x by omega]; exact h2⟩
    case done =>
      rintro D ys W hD rfl ⟨⟨hc0, hc1, hf1, ⟨bb, hc2, hbb, hsn⟩, hf2, _⟩, hB⟩ hK
      obtain ⟨b', rfl, hs⟩ := hsn ks.length (by rw [hil]) (Nat.le_refl _)
      rw [Nat.sub_self, List.take_zero] at hs
      have he := hs.done
      gi_wp2
      have hK' := (KeepsOthers.setCell W ⟨w.heap.size + 1, 0, none⟩ (.int .i64 b')).same D _ hK rfl
      refine ⟨by simp, .inl ⟨_, _, rfl, run_takeDeferred hK', ?_⟩⟩
      have hc5 := cell_kept (World.cell?_setCell_same' W ⟨w.heap.size + 1, 0, none⟩ (.int .i64 b') (by rw [hc1]; rfl)) (grownBy_putObj' _ D (.deferred none)) (fun r e => by cases e; exact ⟨_, hK', rfl⟩)
      refine ⟨.int .i64 b', ?_, by rw [he], (hB.setCell (p := ⟨w.heap.size + 1, 0, none⟩) (by simp) _).trans (belowK_b (w := w) (Nat.le_refl _) _ D _ _ (by simp at hD; omega) hK' rfl rfl)⟩
      simp [results, Tryz.f70, go_sem, hc5]
    case stop =>
      rintro D c pre W hD ⟨m, hm, rfl⟩ ⟨⟨rfl, hcr, hbad⟩, hB⟩ hK
      have he := hbad m rfl (by rw [← hil]; exact hm)
      gi_wp2
      refine ⟨by simp, .inl ⟨_, _, rfl, run_takeDeferred hK, ?_⟩⟩
      have hc5 := cell_kept hcr (grownBy_putObj' _ D (.deferred none)) (fun r e => by cases e; exact ⟨_, hK, rfl⟩)
      refine ⟨.int .i64 (-1), ?_, by rw [he], hB.trans (belowK_b (w := w) (Nat.le_refl _) W D _ _ (by simp at hD; omega) hK rfl rfl)⟩
      simp [results, Tryz.f70, go_sem, hc5]

theorem beginOf_fn (ns : List Nd) (hl : ns.length ≤ 1048576) (hok : NmOK ns) (k : Nat) (hk : k < ns.length) : Fun env.P 70 [nodesD ns, dI k] (.d (dI (begM (nmT ns) k))) [] := by
  refine Fun.ofRaw (entersF Tryz.func70 (c := _) rfl (by kernel_rfl)) fun w σ0 vals hσ hl' hr => ?_
  match vals, hl' with
  | [u, v], _ =>
    have h1 := hr 0 _ u rfl rfl
    have h2 := hr 1 _ v rfl rfl
    cases h2
    exact (beginOf_calls ns hl hok k hk w σ0 u hσ h1).mono fun e w' ⟨h, hB⟩ => ⟨_, h, hB, fun g => .d _ _ (.v _)⟩

end Go.Proofs.YtmmjbpgdkokjgaaGreat
