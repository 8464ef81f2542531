/-
  Texts of this claim in one. Conditions: none.
-/
import Derived.Sort.OwnSorted
import Derived.Shelf.Sort.Plain
import Derived.Shelf.Slices.In.SortNone
import Derived.Test.YtmmjbpgdkokjgaaGreatQLowerTreeV5
import Derived.Test.YtmmjbpgdkokjgaaGreatQLowerTreeOr1
import Derived.Test.YtmmjbpgdkokjgaaGreatQLowerTreeSl1
import Derived.Test.YtmmjbpgdkokjgaaGreatQLowerTreeLs
section
set_option linter.unusedVariables false
set_option linter.unusedSimpArgs false
set_option maxRecDepth 100000
namespace Go.Proofs.YtmmjbpgdkokjgaaGreat
open Go.RowKit

/-! ### lists in order -/

def srtL (l : List ByteArray) : List (List UInt8) := (l.map fun x => x.data.toList).mergeSort fun x y => decide (x ≤ y)
def srt (l : List ByteArray) : List ByteArray := (srtL l).map fun b => ⟨b.toArray⟩

theorem srtL_length (l : List ByteArray) : (srtL l).length = l.length := by simp [srtL]
theorem srt_length (l : List ByteArray) : (srt l).length = l.length := by simp [srt, srtL]

theorem bytes_back (l : List ByteArray) : (l.map fun x => x.data.toList).map (fun b => (⟨b.toArray⟩ : ByteArray)) = l := by
  rw [List.map_map]
  exact (List.map_congr_left fun x _ => by simp).trans (List.map_id l)

theorem srt_perm (l : List ByteArray) : (srt l).Perm l := by
  have h := (List.mergeSort_perm (l.map fun x => x.data.toList) fun x y => decide (x ≤ y)).map fun b => (⟨b.toArray⟩ : ByteArray)
  rwa [bytes_back] at h

theorem lessK_lt (a b : ByteArray) : lessK a b = decide (a.data.toList < b.data.toList) := by rw [lessK, bytesLess_eq]

theorem lessK_trans {a b c : ByteArray} (h1 : lessK a b = true) (h2 : lessK b c = true) : lessK a c = true := less_trans _ _ _ h1 h2
theorem lessK_irrefl (a : ByteArray) : lessK a a = false := less_irrefl _
theorem lessK_tri {a b : ByteArray} (h1 : lessK a b = false) (h2 : lessK b a = false) : a = b := by
  have := less_tri _ _ h1 h2
  cases a; cases b; simp_all [Array.toList_inj]

theorem incr_pair : ∀ {l : List ByteArray}, incr l ↔ l.Pairwise fun a b => lessK a b = true
  | [] => by simp [incr]
  | a :: r => by rw [incr_cons, List.pairwise_cons, incr_pair]

theorem srt_incr {l : List ByteArray} (hn : l.Nodup) : incr (srt l) := by
  rw [incr_pair]
  have hn2 : (srt l).Nodup := (srt_perm l).nodup_iff.2 hn
  have hs : (srt l).Pairwise fun a b => lessK b a = false := by
    unfold srt
    rw [List.pairwise_map]
    have := List.pairwise_mergeSort (le := fun x y : List UInt8 => decide (x ≤ y))
      (fun a b c h1 h2 => by simp only [decide_eq_true_eq] at *; exact List.le_trans h1 h2)
      (fun a b => by simp only [Bool.or_eq_true, decide_eq_true_eq]; exact List.le_total a b) (l.map fun x => x.data.toList)
    refine this.imp fun {a b} h => ?_
    rw [lessK_lt]
    simp only [decide_eq_true_eq] at h
    simpa using h
  exact (hs.and hn2).imp fun {a b} ⟨h1, h2⟩ => by
    cases h : lessK a b with
    | true => rfl
    | false => exact absurd (lessK_tri h h1) h2

theorem incr_ext : ∀ {a b : List ByteArray}, incr a → incr b → (∀ x, x ∈ a ↔ x ∈ b) → a = b
  | [], [], _, _, _ => rfl
  | [], y :: s, _, _, h => by have := (h y).2 (List.mem_cons_self ..); simp at this
  | x :: r, [], _, _, h => by have := (h x).1 (List.mem_cons_self ..); simp at this
  | x :: r, y :: s, ha, hb, h => by
    obtain ⟨a1, a2⟩ := incr_cons.1 ha
    obtain ⟨b1, b2⟩ := incr_cons.1 hb
    have hxy : x = y := by
      rcases List.mem_cons.1 ((h x).1 (List.mem_cons_self ..)) with e | e
      · exact e
      · rcases List.mem_cons.1 ((h y).2 (List.mem_cons_self ..)) with e2 | e2
        · exact e2.symm
        · have h3 := lessK_trans (a1 y e2) (b1 x e)
          rw [lessK_irrefl] at h3; cases h3
    subst hxy
    rw [incr_ext a2 b2 fun z => ?_]
    constructor
    · intro hz
      rcases List.mem_cons.1 ((h z).1 (List.mem_cons_of_mem _ hz)) with e | e
      · subst e; have h3 := a1 z hz; rw [lessK_irrefl] at h3; cases h3
      · exact e
    · intro hz
      rcases List.mem_cons.1 ((h z).2 (List.mem_cons_of_mem _ hz)) with e | e
      · subst e; have h3 := b1 z hz; rw [lessK_irrefl] at h3; cases h3
      · exact e

/-! ### what is put in where it belongs -/

theorem posK_cons (key a : ByteArray) (r : List ByteArray) : posK key (a :: r) = if lessK a key = true then posK key r + 1 else 0 := by
  rw [posK]

theorem insK_nil (key : ByteArray) : insK key [] = [key] := by simp [insK, hasK, posK]

theorem insK_cons (key a : ByteArray) (r : List ByteArray) : insK key (a :: r) = if lessK a key = true then a :: insK key r else if a = key then a :: r else key :: a :: r := by
  unfold insK hasK
  rw [posK_cons]
  by_cases h : lessK a key = true
  · simp only [h, if_true, List.length_cons, Nat.add_lt_add_iff_right, List.getD_cons_succ, List.take_succ_cons, List.drop_succ_cons, List.cons_append]
    split <;> rfl
  · simp only [if_neg h, List.length_cons, List.getD_cons_zero, List.take_zero, List.drop_zero, List.nil_append]
    by_cases e : a = key <;> simp [e]

theorem insK_mem (key : ByteArray) : ∀ (ks : List ByteArray) (x : ByteArray), x ∈ insK key ks ↔ x = key ∨ x ∈ ks
  | [], x => by simp [insK_nil]
  | a :: r, x => by
    rw [insK_cons]
    split
    · rw [List.mem_cons, insK_mem key r x, List.mem_cons]; constructor <;> (intro h; rcases h with h | h | h <;> simp [h])
    · split
      · rename_i e; subst e; simp
      · simp

theorem insK_incr (key : ByteArray) : ∀ {ks : List ByteArray}, incr ks → incr (insK key ks)
  | [], _ => by rw [insK_nil]; exact incr_cons.2 ⟨fun b hb => by simp at hb, trivial⟩
  | a :: r, h => by
    obtain ⟨h1, h2⟩ := incr_cons.1 h
    rw [insK_cons]
    split
    · rename_i hl
      refine incr_cons.2 ⟨fun b hb => ?_, insK_incr key h2⟩
      rcases (insK_mem key r b).1 hb with e | e
      · subst e; exact hl
      · exact h1 b e
    · rename_i hl
      split
      · exact h
      · rename_i hne
        have hk : lessK key a = true := by
          cases e : lessK key a with
          | true => rfl
          | false => exact absurd (lessK_tri (by simpa using hl) e) hne
        refine incr_cons.2 ⟨fun b hb => ?_, h⟩
        rcases List.mem_cons.1 hb with e | e
        · subst e; exact hk
        · exact lessK_trans hk (h1 b e)

theorem among_iff2 {s : ByteArray} : ∀ {l : List ByteArray}, among l s = true ↔ s ∈ l
  | [] => by simp [among]
  | x :: r => by simp [among, among_iff2 (l := r)]

/-! ### the sort's contract -/

theorem entersL {P : Program} {f : FuncId} {fn : Func} {c : Code} (hf : P.funcs[f]? = some fn) (hb : fn.body = some c) (hname : (fn.name == "runtime.NumGoroutine") = false) (vals : Array Value) (w : World) :
    (callFunc f vals).run P w = .ok (.enter f vals) w := by
  unfold callFunc
  simp only [Sem.run_bind, run_program, Result.andThen_ok, hf, hname, hb, Bool.false_eq_true, if_false, Option.isNone_some, Sem.run_pure]

/-- The library's sort of texts, out of what the kit says of it. -/
theorem FunQ.sorts {P : Program} {f : FuncId} {e : TypeId} (he : ∀ (vals : Array Value) (w : World), (callFunc f vals).run P w = .ok (.enter f vals) w) (xs : List ByteArray) (hx : xs.length ≤ 1048576)
    (raw : ∀ (blk off cap : Nat) (ss : List (List UInt8)) (w : World), Sort.Holds encStr w blk off ss.toArray → blk < w.heap.size → ss.length < 4611686018427387904 →
      Calls P f #[.slice (some ⟨blk, off, none⟩) ss.length cap] w fun e w' => e = .returned (.tuple #[]) ∧ ∃ n os, w' = Sort.grow (Sort.putRow encStr (Sort.ahead w n) blk off (ss.mergeSort fun x y => decide (x ≤ y)).toArray) os)
    (raw0 : ∀ (A : Option Addr) (cap : Nat) (w : World), Calls P f #[.slice A 0 cap] w fun e w' => e = .returned (.tuple #[]) ∧ w' = w) :
    FunQ P f [.og 0 0] [.gr 1 e (xs.map keyRow) 0 false] (just (.tup []) [.gr 1 e ((srt xs).map keyRow) 0 false]) := by
  refine ⟨he, fun w g vals I hl hr => ?_⟩
  match vals, hl with
  | [u], _ =>
    obtain ⟨hlim0, hu⟩ := (hr 0 (.og 0 0) u rfl rfl).inv_og
    subst hu
    obtain ⟨hlim, xv, ⟨hown, hmine⟩, hz, hrel, hone, hsig⟩ := I.obs 0 _ rfl
    have hxl : xv.length = xs.length := by have := hown.1; simpa using this
    have hxv : xv = (xs.map fun x => x.data.toList).map encStr := by
      apply List.ext_getElem?
      intro i
      by_cases hi : i < xs.length
      · obtain ⟨u, hu, hd⟩ := hrel i 0 (keyRow xs[i]) (dS xs[i]) (by simp [hi]) rfl
        rw [Nat.mul_one, Nat.add_zero] at hu
        rw [hu]
        cases hd
        simp [hi]
      · rw [List.getElem?_eq_none (by omega), List.getElem?_eq_none (by simp; omega)]
    rcases hown.2 with ⟨hv, hn⟩ | ⟨b, cap, cur, hv, hb, hh, hc, hmm, hs, ht⟩
    · have h0 : xs = [] := List.eq_nil_of_length_eq_zero (by simpa using hn)
      subst h0
      rw [hv]
      refine (raw0 none 0 w).mono fun e' w' ⟨h1, h2⟩ => ?_
      subst h2
      have e0 : srt [] = [] := by simp [srt, srtL]
      exact ⟨_, _, _, g, h1, ⟨rfl, by rw [e0]⟩, I, .tup [] [] rfl fun i x u hx => by simp at hx⟩
    · rw [List.length_map] at hv hc ht
      rw [hv]
      have ht' : cur.toList.take (xs.map fun x => x.data.toList).length = (xs.map fun x => x.data.toList).map encStr := by
        rw [List.length_map, ← hxv, ← ht, Nat.mul_one]
      have hH := holds_of_block hh ht'
      have hbs : b < w.heap.size := (Array.getElem?_eq_some_iff.1 hh).1
      have hcall := raw b 0 cap (xs.map fun x => x.data.toList) w hH hbs (by simp; omega)
      rw [List.length_map] at hcall
      refine hcall.mono fun e' w' ⟨h1, n, os, h2⟩ => ?_
      have hsl := srtL_length xs
      change w' = Sort.grow (Sort.putRow encStr (Sort.ahead w n) b 0 (srtL xs).toArray) os at h2
      have hgr : w.grownBy w' (some b) := by rw [h2]; exact grownBy_sorted _
      have hnew : w'.ownsRow 0 e 1 (.slice (some ⟨b, 0, none⟩) xs.length cap) xs.length ((srtL xs).map encStr) := by
        have := ownsRow_sorted (n := n) (os := os) (ss := xs.map fun x => x.data.toList) (ts := srtL xs) (by simp [hsl]) (Nat.zero_le b) hh (by simpa using hc) hmm hs
        rw [List.length_map] at this
        rw [h2]
        exact this
      have hob : ∀ b', (g.γ 0 0).ownBlock = some b' ↔ b' = b := fun b' => by rw [hv]; simp [Value.ownBlock, eq_comm]
      have hsb : ∀ o, g.σ b o = none := by have := hsig b ((hob b).2 rfl); simpa using this
      refine ⟨_, _, _, g, h1, ⟨rfl, rfl⟩, ⟨?_, I.old, fun b' o u hu => ?_, fun k o ho => ?_, fun k hk => I.lim k (by simpa using hk), fun k k' o o' b' hne ho ho' hb' => ?_, I.ext⟩, .tup [] [] rfl fun i x u hx => by simp at hx⟩
      · refine I.below.then hgr.os hgr.tape hgr.output hgr.size fun k hk hno => hgr.block k hk fun e => hno ⟨0, _, rfl, ?_⟩
        injection e with e
        exact (hob k).2 e
      · have hne : b' ≠ b := fun e => by rw [e, hsb o] at hu; cases hu
        have h3 := I.con b' o u hu
        rw [World.cell?_of_block (w := w) (w' := w') (hgr.block b' (World.block_lt_of_cell? w ⟨b', o, none⟩ h3) fun e => by injection e with e; exact hne e)]
        exact h3
      · cases k with
        | succ k => simp at ho
        | zero =>
          simp only [List.getElem?_cons_zero, Option.some.injEq] at ho
          subst ho
          refine ⟨hlim, (srtL xs).map encStr, ⟨?_, hmine⟩, ?_, ?_, ?_, hsig⟩
          · rw [hv, List.length_map, srt_length]; exact hnew
          · intro r hr; obtain ⟨x, _, rfl⟩ := List.mem_map.1 hr; rfl
          · intro i j r x hi hj
            simp only [srt, List.map_map, List.getElem?_map, Option.map_eq_some_iff] at hi
            obtain ⟨y, hy, rfl⟩ := hi
            have hj0 : j = 0 := by
              have := (List.getElem?_eq_some_iff.1 hj).1
              simpa [keyRow] using this
            subst hj0
            have : x = dS ⟨y.toArray⟩ := by simpa [keyRow] using hj.symm
            subst this
            exact ⟨encStr y, by simp [hy], .v _⟩
          · intro u hu
            obtain ⟨y, _, rfl⟩ := List.mem_map.1 hu
            rfl
      · cases k with
        | succ k => simp at ho
        | zero =>
          cases k' with
          | zero => exact absurd rfl hne
          | succ k' => simp at ho'

theorem slicesSort_fn (xs : List ByteArray) (hx : xs.length ≤ 1048576) :
    FunQ env.P 78 [.og 0 0] [.gr 1 9 (xs.map keyRow) 0 false] (just (.tup []) [.gr 1 9 ((srt xs).map keyRow) 0 false]) :=
  FunQ.sorts (entersL Tryz.func78 (c := _) rfl (by kernel_rfl)) xs hx
    (fun blk off cap ss w hH hb hs => Any.slices_Sort_string lays190 blk off cap ss w hH hb hs) (fun A cap w => Any.slices_Sort_string_none lays190 A cap w)

end Go.Proofs.YtmmjbpgdkokjgaaGreat
end

section
set_option linter.unusedVariables false
set_option linter.unusedSimpArgs false
set_option maxRecDepth 100000
namespace Go.Proofs.YtmmjbpgdkokjgaaGreat
open Go.RowKit

theorem callI_fn (ns : List Nd) (L : List Co) (t : ByteArray) (ht : among callsL t = true) (hl : L.length ≤ 90000) : FunQ env.P 53 [.lp 0 0, .d (dS t)] (loI ns L 0) (just (.d (dI (plc ((callP t).on L)))) (loI ns ((callP t).on L) (callP t).count)) := by
  have hm : t ∈ callsL := among_iff2.1 ht
  simp only [callsL, List.mem_cons, List.not_mem_nil, or_false] at hm
  rcases hm with rfl | rfl | rfl | rfl | rfl | rfl | rfl | rfl
  · exact call_lenS_fn ns L hl
  · exact call_keysS_fn ns L hl
  · exact callNot_fn ns L hl
  · exact callEmpty_fn ns L hl
  · exact call_errorS_fn ns L hl
  · exact call_typeS_fn ns L hl
  · exact call_sortS_fn ns L hl
  · exact call_addS_fn ns L hl

end Go.Proofs.YtmmjbpgdkokjgaaGreat
end

section
set_option linter.unusedVariables false
set_option linter.unusedSimpArgs false
set_option maxRecDepth 100000
namespace Go.Proofs.YtmmjbpgdkokjgaaGreat
open Go.RowKit

theorem Rel.adoptD {N : Nm} {w0 : World} {σ0 : Bs} {tm : Nat → T} {ob : List Ob} {a : Act} {w : World} {g : Gh} (r : Rel N w0 σ0 ⟨tm, ob⟩ a w g) (i j0 : Nat) (z : Nat) (e : TypeId) {ds : List D} {z0 : Nat} (hi : tm i = .d (.agg ds)) (hj : ds[j0]? = some (.nl z0)) :
    ∃ g', g.le g' ∧ Rel N w0 σ0 ⟨upd tm i (.agg ((ds.map T.d).set j0 (.og ob.length 0))), ob ++ [.gr z e [] 0 false]⟩ a w g' := by
  obtain ⟨g', hle, I, ht⟩ := r.inv.adopt (by rw [r.hm]; exact r.hl) z e
  refine ⟨g', hle, ⟨I, r.defers, r.size, r.hm, by have := r.hl; simp at this ⊢; omega, fun j => ?_⟩⟩
  have h1 := r.tm j
  show RT g' (upd tm i _ j) _
  by_cases hjj : j = i
  · subst hjj
    have h1 : RT g (tm j) _ := h1
    rw [hi] at h1
    obtain ⟨vs, hv, hl, hat⟩ := h1.inv_d.inv_agg
    rw [show upd tm j (.agg ((ds.map T.d).set j0 (.og ob.length 0))) j = .agg ((ds.map T.d).set j0 (.og ob.length 0)) by simp [upd]]
    rw [hv]
    refine .agg _ vs (by simpa using hl) fun a x u hx hu => ?_
    by_cases hb : j0 = a
    · subst hb
      have hlo : j0 < (ds.map T.d).length := by have := (List.getElem?_eq_some_iff.1 hj).1; simpa using this
      rw [List.getElem?_set_self hlo] at hx
      simp only [Option.some.injEq] at hx
      subst hx
      have := (hat j0 _ u hj hu).inv_nl
      rw [this]
      exact ht
    · rw [List.getElem?_set_ne hb, List.getElem?_map, Option.map_eq_some_iff] at hx
      obtain ⟨y, hy, rfl⟩ := hx
      exact .d _ _ ((hat a y u hy hu).mono hle.σ)
  · rw [show upd tm i (.agg ((ds.map T.d).set j0 (.og ob.length 0))) j = tm j by simp [upd, nbeq hjj]]
    exact h1.mono hle

section
variable {E : Env} {N : Nm} {Q : Exit → St → Prop} {S : St} {tm : Nat → T} {ob ob2 : List Ob} {ops l : List Oper} {ty : TypeId} {pos : String} {after : Array Edge} {gd : Option (Nat × Bool)}
/-- A call whose argument's nil slice becomes the callee's own; the slot stays data. -/
theorem WL.callA {d : Nat} {f : FuncId} {fop : Operand} {xs : List Operand} {tys : List TypeId} {cap args : List T} {obA : List Ob} {t : T} {obB : List Ob} (i j0 : Nat) (z : Nat) (e : TypeId) {ds : List D} {z0 : Nat} (r : Rn) (hi : tm i = .d (.agg ds)) (hj : ds[j0]? = some (.nl z0))
    (hw : St.want ⟨tm, ob⟩ ops ⟨some d, .call ⟨.value fop, xs.toArray, tys.toArray⟩, ty, pos, after, gd⟩ = some true) (hd : Nat.blt d N.n = true)
    (hc : FunQ E.P f args obA (just t obB)) (hclo : cloOf (norm (ob ++ [.gr z e [] 0 false]) (St.ev ⟨upd tm i (.agg ((ds.map T.d).set j0 (.og ob.length 0))), ob ++ [.gr z e [] 0 false]⟩ fop)) = some (f, cap))
    (ha : argsT E ⟨upd tm i (.agg ((ds.map T.d).set j0 (.og ob.length 0))), ob ++ [.gr z e [] 0 false]⟩ false xs tys ++ cap = T.renL r args) (hlp : T.lpOKL r args = true) (hK : r.K = (ob ++ [Ob.gr z e [] 0 false]).length) (hnd : nodupB r.idx = true)
    (hA : Nat.beq obA.length r.idx.length = true) (hs : startL r 0 obA = true) (hmt : matchO r (ob ++ [.gr z e [] 0 false]) 0 obA) (hal : aliveN r.idx.length obB = true) (ho : mergeO r 0 (ob ++ [.gr z e [] 0 false]) r.idx obB = ob2)
    (k : WL E.P N ops l Q ⟨upd tm d (t.ren r), ob2⟩) : WL E.P N ops (⟨some d, .call ⟨.value fop, xs.toArray, tys.toArray⟩, ty, pos, after, gd⟩ :: l) Q ⟨tm, ob⟩ :=
  WL.oper hw fun w0 σ0 a w g R => by
    obtain ⟨g1, hle1, R1⟩ := R.adoptD i j0 z e hi hj
    refine R1.call r false hc hclo ha hlp hK hnd hA hs hmt (.inl rfl) (fun t2 o2 h => by obtain ⟨rfl, rfl⟩ := h; exact ⟨hal, fun h => nomatch h⟩) _ _ fun t2 o2 h v w' g' hle I' hv => ?_
    obtain ⟨rfl, rfl⟩ := h
    subst ho
    have r' : Rel N w0 σ0 ⟨tm, mergeO r 0 (ob ++ [.gr z e [] 0 false]) r.idx o2⟩ a w' g' := ⟨I', R.defers, R.size, R.hm, Nat.le_trans R1.hl (mergeO_length ..), fun j => ((R.tm j).mono hle1).mono hle⟩
    exact k w0 σ0 _ w' g' (r'.set (by simpa using hd) hv)

/-- The same in a drawn region. -/
theorem OpS1.cqA {d : Nat} {f : FuncId} {xs : List Operand} {tys : List TypeId} {args : List T} {obA obB : List Ob} {t t' : T} {KK : Nat} (i j0 : Nat) (z : Nat) (e : TypeId) {ds : List D} {z0 : Nat} (idx off : List Nat) (hw : St.want ⟨tm, ob⟩ ops ⟨some d, .call ⟨.value (.func f), xs.toArray, tys.toArray⟩, ty, pos, after, gd⟩ = some true) (hd : Nat.blt d N.n = true)
    (hc : FunQ E.P f args obA (just t obB)) (hi : tm i = .d (.agg ds)) (hj : ds[j0]? = some (.nl z0)) (hmem : .tmp i ∈ xs) (hK : KK = (ob ++ [Ob.gr z e [] 0 false]).length)
    (ha : argsT E ⟨upd tm i (.agg ((ds.map T.d).set j0 (.og ob.length 0))), ob ++ [.gr z e [] 0 false]⟩ false xs tys ++ [] = T.renL ⟨idx, off, KK⟩ args) (hlp : T.lpOKL ⟨idx, off, KK⟩ args = true) (hnd : nodupB idx = true)
    (hA : Nat.beq obA.length idx.length = true) (hs : startL ⟨idx, off, KK⟩ 0 obA = true) (hmt : matchO ⟨idx, off, KK⟩ (ob ++ [.gr z e [] 0 false]) 0 obA) (hal : aliveN idx.length obB = true) (ht : T.ren ⟨idx, off, KK⟩ t = t') (ho : mergeO ⟨idx, off, KK⟩ 0 (ob ++ [.gr z e [] 0 false]) idx obB = ob2) :
    OpS1 E.P N ops ⟨some d, .call ⟨.value (.func f), xs.toArray, tys.toArray⟩, ty, pos, after, gd⟩ tm t' ob ob2 := fun tm' hag l Q k' => by
  subst ht
  have hx : ∀ x ∈ xs, St.ev ⟨tm', ob⟩ x = St.ev ⟨tm, ob⟩ x := fun x hx => ev_agree hag (by simp only [Op.operands, Call.operands, Array.toList_append, List.mem_append]; exact .inr (by simpa using hx))
  have hi' : tm' i = .d (.agg ds) := by rw [← hi]; exact hx _ hmem
  refine WL.callA i j0 z e ⟨idx, off, KK⟩ hi' hj (by rw [want_agree hag]; exact hw) hd hc rfl ?_ hlp hK hnd hA hs hmt hal ho k'
  have hag2 : argsT E ⟨upd tm' i (.agg ((ds.map T.d).set j0 (.og ob.length 0))), ob ++ [.gr z e [] 0 false]⟩ false xs tys = argsT E ⟨upd tm i (.agg ((ds.map T.d).set j0 (.og ob.length 0))), ob ++ [.gr z e [] 0 false]⟩ false xs tys := argsT_agree (S := ⟨upd tm i (.agg ((ds.map T.d).set j0 (.og ob.length 0))), ob ++ [.gr z e [] 0 false]⟩) (S' := ⟨upd tm' i (.agg ((ds.map T.d).set j0 (.og ob.length 0))), ob ++ [.gr z e [] 0 false]⟩) rfl false fun x hxx => by
    have h := hx x hxx
    cases x with
    | tmp j =>
      have h : tm' j = tm j := h
      show upd tm' i _ j = upd tm i _ j
      unfold upd
      rw [h]
    | const v => rfl
    | func v => rfl
    | global v => rfl
  rw [hag2]
  exact ha
end

end Go.Proofs.YtmmjbpgdkokjgaaGreat
end
