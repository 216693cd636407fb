/- The builder's WriteString, and what it leaves of other rows of bytes; a new builder. -/
import Derived.Test.YthlfeiiolafonaaDoorBld
set_option linter.unusedVariables false
set_option linter.unusedSimpArgs false
namespace Go.Proofs.YthlfeiiolafonaaDoor
open Go.RowKit

theorem bld_new (w : World) : BldSt w.heap.size [] (w.alloc (.cells #[.pointer none, .slice none 0 0] 43)) :=
  .inl ⟨Nat.le_refl _, .slice none 0 0, heap_alloc_new w _, World.ownsRowF_of (World.ownsRow_nil _ _ _ _), by simp [Value.ownBlock]⟩
/-- the block that holds the builder's bytes -/
def bufB (b : Nat) (W : World) : Option Nat := match W.cell? ⟨b, 1, none⟩ with | some v => v.ownBlock | none => none
/-- what a write leaves: all blocks but the builder's and its bytes'; new bytes lie in new memory -/
structure BldFar (b : Nat) (w w' : World) : Prop where
  row : ∀ k, bufB b w' = some k → bufB b w = some k ∨ w.heap.size ≤ k
  blk : ∀ k, k < w.heap.size → k ≠ b → bufB b w ≠ some k → w'.heap[k]? = w.heap[k]?
theorem app_str_at {P : Program} (w : World) (base : Nat) (t u ty e : TypeId) (i : TypeInfo) (ht : P.underlying t = some (.slice e)) (hu : P.underlying u = some .string) (hi : P.info? e = some i) (hz : i.zero = some (.int .u8 0))
    (hsize : i.size = 1) (hby : i.bytes = 1) (v : Value) (n : Nat) (xs : List Value) (hown : w.ownsRowF base e 1 v n xs) (s : ByteArray) (hbytes : n + s.size ≤ 140737488355328) (hbase : base ≤ w.heap.size) :
    ∃ v' w', (Builtin.append_ #[t, u] ty #[v, .string s]).run P w = .ok v' w' ∧ w'.ownsRowF base e 1 v' (n + s.size) (xs ++ Lib.strCells s) ∧ w.grownBy w' v.ownBlock ∧ (v'.ownBlock = v.ownBlock ∨ ∀ k, v'.ownBlock = some k → w.heap.size ≤ k) := by
  have h63 : n + s.size ≤ maxLen := by unfold maxLen; omega
  obtain ⟨v', w', h1, h2, h3, _⟩ := Lib.run_append_own_stringF (P := P) w base t u ty e i ht hu hi hz hsize hby v n xs hown s h63 hbytes hbase
  refine ⟨v', w', h1, h2, h3, ?_⟩
  rcases hown.2 with ⟨rfl, rfl⟩ | ⟨g, cap, cur, fz, rfl, hbg, hg, hfz, hnc, hcm, hcs, htake⟩
  · obtain ⟨v2, w2, k1, k2, _⟩ := Lib.run_append_own_stringF (P := P) w w.heap.size t u ty e i ht hu hi hz hsize hby (.slice none 0 0) 0 xs ⟨hown.1, .inl ⟨rfl, rfl⟩⟩ s h63 hbytes (Nat.le_refl _)
    rw [h1] at k1
    injection k1 with e1 e2
    subst e1
    refine .inr fun k hk => ?_
    rcases k2.2 with ⟨e3, _⟩ | ⟨g, cap, cur, fz, e3, hb, _⟩
    · rw [e3] at hk; simp [Value.ownBlock] at hk
    · rw [e3] at hk
      simp [Value.ownBlock] at hk
      omega
  · by_cases hroom : n + s.size ≤ cap
    · have hr := Lib.run_append_room_stringF (P := P) w t u ty e i ht hu hi hsize g n cap cur fz hg (by simpa using hfz) s hroom (by simp at hcs; omega)
      rw [h1] at hr
      injection hr with e1 e2
      exact .inl (by rw [e1]; simp [Value.ownBlock])
    · have holds : ∀ j u, xs[j]? = some u → w.cell? ((⟨g, 0, none⟩ : Addr).add j) = some u := hown.cells (g := g) rfl
      have hxl : xs.length = n := by simpa using hown.1
      have hr := Lib.run_append_grow_string (P := P) w t u ty e i (.int .u8 0) ht hu hi hz ⟨g, 0, none⟩ n cap xs (by rw [hsize]; simpa using hxl) holds s (by omega) (by omega) (by rw [hby]; exact growslice_fits (by omega) (by omega))
      rw [h1] at hr
      injection hr with e1 e2
      refine .inr fun k hk => ?_
      rw [e1] at hk
      simp [Value.ownBlock] at hk
      omega
theorem wpList_app_str {P : Program} {w : World} {ops : Array Oper} {rest : List Oper} {o : Oper} {a : Act} {Q : Exit → Act → World → Prop} (hgd : o.guard = none) (sl x : Operand) (t u : TypeId)
    (ho : o.op = .call { callee := .builtin .append, args := #[sl, x], argTypes := #[t, u] })
    (base : Nat) (e : TypeId) (i : TypeInfo) (ht : P.underlying t = some (.slice e)) (hu : P.underlying u = some .string) (hi : P.info? e = some i) (hz : i.zero = some (.int .u8 0))
    (hsize : i.size = 1) (hby : i.bytes = 1) (v : Value) (n : Nat) (xs : List Value) (hs : a.eval sl = v) (hown : w.ownsRowF base e 1 v n xs) (s : ByteArray) (hx : a.eval x = .string s)
    (hbytes : n + s.size ≤ 140737488355328) (hbase : base ≤ w.heap.size)
    (h : ∀ v' w', w'.ownsRowF base e 1 v' (n + s.size) (xs ++ Lib.strCells s) → w.grownBy w' v.ownBlock → (v'.ownBlock = v.ownBlock ∨ ∀ k, v'.ownBlock = some k → w.heap.size ≤ k) → wpList P ops Q rest (a.put o.dst v') w') : wpList P ops Q (o :: rest) a w := by
  refine wpList_plain hgd fun K hK => ?_
  obtain ⟨v', w', hr, h2, h3, h4⟩ := app_str_at (P := P) w base t u o.type e i ht hu hi hz hsize hby v n xs hown s hbytes hbase
  unfold Oper.wp execOp
  simp only [ho, resolve, invoke, builtin, Sem.run_bind, Sem.run_pure, Result.andThen_ok, List.map_toArray, List.map_cons, List.map_nil, hs, hx, hr]
  exact hK _ _ (h v' w' h2 h3 h4)
theorem bld_checkX (b : Nat) (s : List UInt8) (w : World) (h : BldSt b s w) :
    Calls Tryd.prog 43 #[.pointer (some ⟨b, 0, none⟩)] w fun e w' => e = .returned (.tuple #[]) ∧ ((Lib.BuilderAtF 43 5 b b (.pointer (some ⟨b, 0, none⟩)) (Lib.byteCells s) w' ∧ Below b w w' ∧ Lib.OthersKept 5 (some b) w w') ∧ w'.heap.size = w.heap.size ∧ bufB b w' = bufB b w ∧ ∀ k, k ≠ b → w'.heap[k]? = w.heap[k]?) := by
  rcases h with h | h
  · refine (bld_check1 b w h.cell0 h.shape h.frozen0).mono ?_
    rintro e w' ⟨rfl, rfl⟩
    refine ⟨rfl, ⟨h.used _, (Below.refl b w).setCell (p := ⟨b, 0, none⟩) h.1 _, (Lib.OthersKept.refl _ _ w).setCell ⟨b, 0, none⟩ rfl _⟩, by simp [go_sem], ?_, fun k hk => Below.heap_setCell _ _ _ _ hk⟩
    unfold bufB
    rw [World.cell?_setCell_other (h := by simp)]
  · refine (bld_check2 b w h.cell0).mono ?_
    rintro e w' ⟨rfl, rfl⟩
    exact ⟨rfl, ⟨h, Below.refl b _, Lib.OthersKept.refl _ _ _⟩, rfl, rfl, fun _ _ => rfl⟩
set_option maxRecDepth 100000 in
set_option maxHeartbeats 2000000 in
theorem bld_String2 (b : Nat) (s t : List UInt8) (w : World) (h : BldSt b s w) (hlen : s.length + t.length ≤ 140737488355328) :
    Calls Tryd.prog 23 #[.pointer (some ⟨b, 0, none⟩), .string ⟨t.toArray⟩] w fun e w' => e = .returned (.tuple #[.int .i64 t.length, .nilIface]) ∧ BldTo b (s ++ t) w w' ∧ BldFar b w w' := by
  have hBw := BldSt.lt h
  obtain ⟨i0, hi, hz0, hz1, hz2⟩ := info_parts Tryd.infoU8
  have hsl : (⟨t.toArray⟩ : ByteArray).size = t.length := List.size_toArray
  have hbl := Lib.byteCells_length s
  go_enter Tryd.func23, Tryd.ntmps23
  go_wp2_with (go_at_call 43; refine (bld_checkX b s _ h).mono ?_)
  rintro e w1 ⟨rfl, ⟨h1, hb1, hk1⟩, hsz, hbu, hoth⟩
  obtain ⟨hB, v, hbk, hown, hne⟩ := h1
  have c0 : w1.cell? ⟨b, 0, none⟩ = some (.pointer (some ⟨b, 0, none⟩)) := by rw [Lib.cell_of_heap hbk]; rfl
  have c1 : w1.cell? ⟨b, 1, none⟩ = some v := by rw [Lib.cell_of_heap hbk]; rfl
  have hb1v : bufB b w1 = v.ownBlock := by unfold bufB; rw [c1]
  go_wp2_with (at_builtin; refine wpList_app_str rfl _ _ 41 9 rfl b 5 i0 Tryd.underlying41 Tryd.underlying9 hi hz0 hz1 hz2 _ _ _ rfl hown ⟨t.toArray⟩ rfl ?c4 ?c5 ?_)
  case c4 => omega
  case c5 => have := hb1.size; omega
  intro v' w2 hown' hgrow hat
  have hlt : b < w1.heap.size := by have := hb1.size; omega
  have hb2 : w2.heap[b]? = some (.cells #[.pointer (some ⟨b, 0, none⟩), v] 43 (0, 0)) := by
    rw [hgrow.block b hlt (fun e => hne e.symm)]
    exact hbk
  have d0 : w2.cell? ⟨b, 0, none⟩ = some (.pointer (some ⟨b, 0, none⟩)) := by rw [Lib.cell_of_heap hb2]; rfl
  have d1 : w2.cell? ⟨b, 1, none⟩ = some v := by rw [Lib.cell_of_heap hb2]; rfl
  have f1 : w2.frozen? ⟨b, 1, none⟩ = false := Lib.frozen_of_heap hb2 1
  obtain ⟨ao, n', cap, rfl⟩ : ∃ ao n' cap, v' = .slice ao n' cap := by
    rcases hown'.2 with ⟨hv, _⟩ | ⟨g, cap, cur, fz, hv, _⟩
    · exact ⟨_, _, _, hv⟩
    · exact ⟨_, _, _, hv⟩
  go_wp2
  refine bodyPost_ret (results_tmp2 rfl _ _ _) rfl ?_
  refine ⟨by rw [← hsl]; rfl, ⟨Or.inr ?_, ?_, (hk1.grown hgrow (Lib.ownsRowF_kind hown)).setCell ⟨b, 1, none⟩ rfl _⟩, ?_, ?_⟩
  · rw [Lib.byteCells_append]
    exact Lib.BuilderAtF.put (T := 43) (e := 5) hB hb2 (bs' := Lib.byteCells s ++ Lib.byteCells t) (by rw [show Lib.strCells ⟨t.toArray⟩ = Lib.byteCells t from rfl] at hown'; simpa [Lib.byteCells_length, hsl] using hown') (by decide)
  · exact (hb1.grown hgrow (by have := hb1.size; omega) (fun k hk => (hown.lt k hk).1)).setCell (p := ⟨b, 1, none⟩) hB _
  · intro k hk
    unfold bufB at hk
    rw [World.cell?_setCell_same (h := d1)] at hk
    simp only at hk
    rw [← hbu, hb1v]
    rcases hat with hat | hat
    · exact .inl (by rw [← hat]; exact hk)
    · exact .inr (by have := hat k hk; omega)
  · intro k hk hkb hkn
    rw [Below.heap_setCell _ _ _ _ hkb, hgrow.block k (by omega) (by rw [← hb1v, hbu]; exact fun e => hkn e.symm)]
    exact hoth k hkb
end Go.Proofs.YthlfeiiolafonaaDoor
