/-
  A strings.Builder in a block of its own: what a write to it leaves, block by block. Conditions: fewer than 2^47 bytes.
-/
import Derived.Test.YtfmhfdegkpbeiaaGreatDoorQCoreTextPgE
import Derived.Shelf.Strings.Builder1
import Derived.Lib.AppendStr
set_option linter.unusedVariables false
set_option linter.unusedSimpArgs false
namespace Go.Proofs.YtfmhfdegkpbeiaaGreatDoor
open Go.Shelf Go.RowKit Go.Lib
section
variable {P : Program} {ρ : Ren}

/-- Where a text's bytes are appended: where the slice lay, or in a new block. -/
theorem str_at {w : World} {t u ty e : TypeId} {i : TypeInfo} (ht : P.underlying t = some (.slice e)) (hu : P.underlying u = some .string) (hi : P.info? e = some i) (hz : i.zero = some (.int .u8 0)) (hsize : i.size = 1) (hby : i.bytes = 1)
    {v v' : Value} {n : Nat} {xs : List Value} {w' : World} (hown : w.ownsRow 0 e 1 v n xs) (s : ByteArray) (hbytes : n + s.size ≤ 140737488355328)
    (hr : (Builtin.append_ #[t, u] ty #[v, .string s]).run P w = .ok v' w') : v'.ownBlock = v.ownBlock ∨ v'.ownBlock = some w.heap.size := by
  have hxl : xs.length = n := by simpa using hown.1
  rcases hown.2 with ⟨rfl, rfl⟩ | ⟨g, cap, cur, rfl, hbg, hg, hnc, hcm, hcs, htake⟩
  · by_cases hm : s.size = 0
    · have hf := run_firstCells_string (P := P) w 1 s
      rw [hm] at hf
      have h2 : (Builtin.append_ #[t, u] ty #[.slice none 0 0, .string s]).run P w = .ok (.slice none 0 0) w := by
        simp [Builtin.append_, run_underlying ht, run_underlying hu, sizeOf, typeInfo, hi, hsize, Builtin.lenOf, hm, hf]
      rw [h2] at hr
      injection hr with e1 _
      exact .inl (by rw [← e1])
    · have h2 := run_append_nil_string (P := P) w t u ty e i (.int .u8 0) ht hu hi hz s (by omega) (by omega) (by rw [hby]; omega)
      rw [h2] at hr
      injection hr with e1 _
      exact .inr (by rw [← e1]; rfl)
  · by_cases hroom : n + s.size ≤ cap
    · have hcs' : cur.size = cap := by simpa using hcs
      have h2 := run_append_room_string (P := P) w t u ty e i ht hu hi hsize g n cap cur hg s hroom (by omega)
      rw [h2] at hr
      injection hr with e1 _
      exact .inl (by rw [← e1]; rfl)
    · have holds : ∀ j u, xs[j]? = some u → w.cell? ((⟨g, 0, none⟩ : Addr).add j) = some u := hown.cells (g := g) rfl
      have h2 := run_append_grow_string (P := P) w t u ty e i (.int .u8 0) ht hu hi hz ⟨g, 0, none⟩ n cap xs (by rw [hsize]; simpa using hxl) holds s (by omega) (by omega) (by rw [hby]; exact growslice_fits (by omega) (by omega))
      rw [h2] at hr
      injection hr with e1 _
      exact .inr (by rw [← e1]; rfl)

/-- A text's bytes appended to the call's own: with the place. -/
theorem wp_append_str {w : World} {ops : Array Oper} {rest : List Oper} {o : Oper} {a : Act} {Q : Exit → Act → World → Prop} (hgd : o.guard = none) (sl x : Operand) (t u : TypeId)
    (ho : o.op = .call { callee := .builtin .append, args := #[sl, x], argTypes := #[t, u] })
    (e : TypeId) (i : TypeInfo) (ht : P.underlying t = some (.slice e)) (hu : P.underlying u = some .string) (hi : P.info? e = some i) (hz : i.zero = some (.int .u8 0)) (hsize : i.size = 1) (hby : i.bytes = 1)
    (v : Value) (n : Nat) (xs : List Value) (hs : a.eval sl = v) (hown : w.ownsRow 0 e 1 v n xs) (s : ByteArray) (hx : a.eval x = .string s) (hbytes : n + s.size ≤ 140737488355328)
    (h : ∀ v' w', w'.ownsRow 0 e 1 v' (n + s.size) (xs ++ strCells s) → w.grownBy w' v.ownBlock → (v'.ownBlock = v.ownBlock ∨ v'.ownBlock = some w.heap.size) → wpList P ops Q rest (a.put o.dst v') w') : wpList P ops Q (o :: rest) a w := by
  refine wpList_plain hgd fun K hK => ?_
  obtain ⟨v', w', hr, h2, h3, _⟩ := run_append_own_string (P := P) w 0 t u o.type e i ht hu hi hz hsize hby v n xs hown s (by unfold maxLen; omega) hbytes (Nat.zero_le _)
  have h4 := str_at ht hu hi hz hsize hby hown s hbytes hr
  unfold Oper.wp execOp
  simp only [ho, resolve, invoke, builtin, Sem.run_bind, Sem.run_pure, Result.andThen_ok, List.map_toArray, List.map_cons, List.map_nil, hs, hx, hr]
  exact hK _ _ (h v' w' h2 h3 h4)

/-- What copyCheck leaves. -/
theorem check_raw (L : Lays.n240 P ρ) (X : Builder.X72 P ρ) {b : Nat} {w : World} {p u : Value} (hp : p = .pointer none ∨ p = .pointer (some ⟨b, 0, none⟩)) (hb : w.heap[b]? = some (.cells #[p, u] (ρ.t 72) (0, 0))) :
    ∃ w1, (Calls P (ρ.f 240) #[.pointer (some ⟨b, 0, none⟩)] w fun e w' => e = .returned (.tuple #[]) ∧ w' = w1) ∧ w1.heap[b]? = some (.cells #[.pointer (some ⟨b, 0, none⟩), u] (ρ.t 72) (0, 0)) ∧ (∀ k, k ≠ b → w1.heap[k]? = w.heap[k]?) ∧
      w1.heap.size = w.heap.size ∧ w1.os = w.os ∧ w1.tape = w.tape ∧ w1.output = w.output := by
  have c0 : w.cell? ⟨b, 0, none⟩ = some p := by rw [Lib.cell_of_heap hb]; rfl
  rcases hp with rfl | rfl
  · refine ⟨w.setCell ⟨b, 0, none⟩ (.pointer (some ⟨b, 0, none⟩)), Any.Builder_copyCheck_fresh L X b w c0 (by simp [World.shape?, hb]) (Lib.frozen_of_heap hb 0), ?_, fun k hk => Below.heap_setCell _ _ _ _ hk, by simp [World.setCell], rfl, rfl, rfl⟩
    simp [World.setCell, Array.getElem?_modify, hb]
  · exact ⟨w, Any.Builder_copyCheck_used L X b w c0, hb, fun _ _ => rfl, rfl, rfl, rfl, rfl⟩

set_option maxHeartbeats 2000000 in
set_option maxRecDepth 100000 in
/-- What WriteString leaves. -/
theorem write_raw (L : Lays.n166 P ρ) (X : Builder.Extra P ρ) {b : Nat} {w : World} {p u : Value} {xs : List Value} {n : Nat} (s : ByteArray) (hp : p = .pointer none ∨ p = .pointer (some ⟨b, 0, none⟩)) (hb : w.heap[b]? = some (.cells #[p, u] (ρ.t 72) (0, 0)))
    (hown : w.ownsRow 0 (ρ.t 5) 1 u n xs) (hne : u.ownBlock ≠ some b) (hlen : n + s.size ≤ 140737488355328) :
    Calls P (ρ.f 166) #[.pointer (some ⟨b, 0, none⟩), .string s] w fun e w' => e = .returned (.tuple #[.int .i64 s.size, .nilIface]) ∧ ∃ u', w'.heap[b]? = some (.cells #[.pointer (some ⟨b, 0, none⟩), u'] (ρ.t 72) (0, 0)) ∧
      w'.ownsRow 0 (ρ.t 5) 1 u' (n + s.size) (xs ++ strCells s) ∧ u'.ownBlock ≠ some b ∧ (u'.ownBlock = u.ownBlock ∨ u'.ownBlock = some w.heap.size) ∧ w.heap.size ≤ w'.heap.size ∧ w'.os = w.os ∧ w'.tape = w.tape ∧ w'.output = w.output ∧
      ∀ k, k < w.heap.size → k ≠ b → u.ownBlock ≠ some k → w'.heap[k]? = w.heap[k]? := by
  obtain ⟨i0, hi, hz0, hz1, hz2⟩ := info_parts X.infoByte
  obtain ⟨w1, hcc, hb1, hk1, hs1, ho1, ht1, hu1⟩ := check_raw { L with } X.toX72 hp hb
  have hown1 : w1.ownsRow 0 (ρ.t 5) 1 u n xs := hown.kept (row := some b) ⟨ho1, ht1, hu1, by omega, fun k _ hk => hk1 k fun e => hk (by rw [e])⟩ (Or.inr hne)
  have hlt : b < w1.heap.size := by
    rcases Nat.lt_or_ge b w1.heap.size with h' | h'
    · exact h'
    · simp [Array.getElem?_eq_none h'] at hb1
  have mixed := L.mixed
  have t72 := L.t72; have a72 := L.a72; have z72 := L.z72; have v72 := L.v72; have u72 := run_underlying L.t72
  have t70 := L.t70; have a70 := L.a70; have z70 := L.z70; have v70 := L.v70; have u70 := run_underlying L.t70
  have t37 := L.t37; have a37 := L.a37; have z37 := L.z37; have v37 := L.v37; have u37 := run_underlying L.t37
  have t3 := L.t3; have a3 := L.a3; have z3 := L.z3; have v3 := L.v3; have u3 := run_underlying L.t3
  have t9 := L.t9; have a9 := L.a9; have z9 := L.z9; have v9 := L.v9; have u9 := run_underlying L.t9
  have t4 := L.t4; have a4 := L.a4; have z4 := L.z4; have v4 := L.v4; have u4 := run_underlying L.t4
  have t164 := L.t164; have a164 := L.a164; have z164 := L.z164; have v164 := L.v164; have u164 := run_underlying L.t164
  have t5 := X.t5; have a5 := X.a5; have z5 := X.z5; have v5 := X.v5; have u5 := run_underlying X.t5
  have e240 : ∀ args w, (callFunc (ρ.f 240) args).run P w = .ok (.enter (ρ.f 240) args) w := enters_of L.f240 (by kernel_rfl) rfl
  go_enter L.f166, Body.n166_ntmps ρ
  go_wp2_with (go_at_fn (ρ.f 240); refine hcc.mono ?_)
  rintro e w' ⟨rfl, rfl⟩
  have c0 : w'.cell? ⟨b, 0, none⟩ = some (.pointer (some ⟨b, 0, none⟩)) := by rw [Lib.cell_of_heap hb1]; rfl
  have c1 : w'.cell? ⟨b, 1, none⟩ = some u := by rw [Lib.cell_of_heap hb1]; rfl
  go_wp2_with (at_builtin; refine wp_append_str rfl _ _ (ρ.t 37) (ρ.t 9) rfl (ρ.t 5) i0 L.t37 L.t9 hi hz0 hz1 hz2 _ _ _ rfl hown1 s rfl hlen ?_)
  intro v' w2 hown' hgrow hat
  have hb2 : w2.heap[b]? = some (.cells #[.pointer (some ⟨b, 0, none⟩), u] (ρ.t 72) (0, 0)) := by
    rw [hgrow.block b hlt (fun e => hne e.symm)]
    exact hb1
  have d0 : w2.cell? ⟨b, 0, none⟩ = some (.pointer (some ⟨b, 0, none⟩)) := by rw [Lib.cell_of_heap hb2]; rfl
  have d1 : w2.cell? ⟨b, 1, none⟩ = some u := by rw [Lib.cell_of_heap hb2]; rfl
  have f1 : w2.frozen? ⟨b, 1, none⟩ = false := Lib.frozen_of_heap hb2 1
  have hne' : v'.ownBlock ≠ some b := by
    rcases hat with e | e
    · rw [e]; exact hne
    · rw [e]; intro e2; injection e2 with e2; omega
  obtain ⟨ao, n', cap, rfl⟩ : ∃ ao n' cap, v' = .slice ao n' cap := by
    rcases hown'.2 with ⟨hv, _⟩ | ⟨g, cap, cur, hv, _⟩
    · exact ⟨_, _, _, hv⟩
    · exact ⟨_, _, _, hv⟩
  go_wp2
  go_ret2
  refine ⟨rfl, .slice ao n' cap, ?_, ?_, hne', ?_, ?_, ?_, ?_, ?_, fun k hk hkb hku => ?_⟩
  · simp [World.setCell, Array.getElem?_modify, hb2]
  · exact hown'.kept (row := some b) ⟨rfl, rfl, rfl, by simp [World.setCell], fun k _ hk => Below.heap_setCell _ _ _ _ (fun e => hk (by simp [e]))⟩ (Or.inr hne')
  · exact hat
  · have := hgrow.size
    simp only [World.setCell, Array.size_modify]
    omega
  · exact hgrow.os.trans ho1
  · exact hgrow.tape.trans ht1
  · exact hgrow.output.trans hu1
  · rw [Below.heap_setCell _ _ _ _ hkb, hgrow.block k (by omega) (fun e => hku e.symm), hk1 k hkb]

end
end Go.Proofs.YtfmhfdegkpbeiaaGreatDoor
