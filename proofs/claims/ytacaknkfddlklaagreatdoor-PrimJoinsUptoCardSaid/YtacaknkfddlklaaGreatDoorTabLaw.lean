/- The map of functions that prim.table makes: what its block is good for. -/
import Derived.Test.YtacaknkfddlklaaGreatDoorForm
import Derived.Maps.Own
import Derived.Laws.EntriesVeiled
set_option linter.unusedVariables false
set_option linter.unusedSimpArgs false
namespace Go.Proofs.YtacaknkfddlklaaGreatDoor
open Go.RowKit Go.IntWalk Go.ChangeMaps Go.MapKept

/-- Block b is a map of n entries under the keys 10, 11, ..; the entry at key 10+i has G (10+i) of its value. -/
def Tab (w : World) (G : Nat → Value → Prop) (b n : Nat) : Prop :=
  ∃ es clock, w.heap[b]? = some (.map es clock) ∧ es.size = n ∧ ∀ i, i < n → ∃ e, es.toList[i]? = some e ∧ e.key = .int .i64 ((10 + i : Nat) : Int) ∧ G (10 + i) e.val

theorem wf64 {a : Int} (h0 : 0 ≤ a) (h1 : a ≤ 2000) : (Lit.int .i64 a).wf = true := by
  have h2 : IntKind.i64.min = -9223372036854775808 := by decide
  have h3 : IntKind.i64.max = 9223372036854775807 := by decide
  simp [Lit.wf, h2, h3]
  omega
theorem Tab.lt {w : World} {G : Nat → Value → Prop} {b n : Nat} (h : Tab w G b n) : b < w.heap.size := by
  obtain ⟨es, c, hb, _⟩ := h
  exact (Array.getElem?_eq_some_iff.1 hb).1
theorem Tab.made (w : World) (G : Nat → Value → Prop) : Tab (w.alloc (.map #[] 0)) G w.heap.size 0 :=
  ⟨#[], 0, (MapKept.heap_alloc w _).1, rfl, fun i hi => absurd hi (Nat.not_lt_zero _)⟩
theorem Tab.imp {w w' : World} {G G' : Nat → Value → Prop} {b n : Nat} (h : Tab w G b n) (hh : w'.heap[b]? = w.heap[b]?) (hG : ∀ k v, G k v → G' k v) : Tab w' G' b n := by
  obtain ⟨es, c, hb, hs, he⟩ := h
  refine ⟨es, c, hh.trans hb, hs, fun i hi => ?_⟩
  obtain ⟨e, h1, h2, h3⟩ := he i hi
  exact ⟨e, h1, h2, hG _ _ h3⟩
theorem Tab.keys {P : Program} {k : TypeId} (hk : P.underlying k = some (.int .i64)) {w : World} {G : Nat → Value → Prop} {b n : Nat} (hn : n < 1000) {es : Array MapEntry} (hs : es.size = n)
    (he : ∀ i, i < n → ∃ e, es.toList[i]? = some e ∧ e.key = .int .i64 ((10 + i : Nat) : Int) ∧ G (10 + i) e.val) : ∀ e ∈ es.toList, ∃ i, i < n ∧ es.toList[i]? = some e ∧ e.key = .int .i64 ((10 + i : Nat) : Int) ∧ keyOf P k e.key = some (.int .i64 ((10 + i : Nat) : Int)) := by
  intro e hm
  obtain ⟨i, hi⟩ := List.getElem?_of_mem hm
  have hlt : i < n := by
    have := (List.getElem?_eq_some_iff.1 hi).1
    simpa [hs] using this
  obtain ⟨e', h1, h2, h3⟩ := he i hlt
  rw [hi] at h1
  cases h1
  refine ⟨i, hlt, hi, h2, ?_⟩
  rw [h2]
  exact Maps.keyOf_int_mk hk (wf64 (by omega) (by omega))
theorem Tab.update {P : Program} {t k e : TypeId} (hk : P.underlying k = some (.int .i64)) (ht : P.underlying t = some (.map k e)) {w : World} {G : Nat → Value → Prop} {b n : Nat} (h : Tab w G b n) (hn : n < 1000) {z : Int} (hz : z = ((10 + n : Nat) : Int)) {v : Value} (hv : G (10 + n) v) :
    ∃ w', (Instr.mapUpdate t (.map (some b)) (.int .i64 z) v).run P w = .ok () w' ∧ Tab w' G b (n + 1) ∧ w.grownBy w' (some b) := by
  obtain ⟨es, c, hb, hs, he⟩ := h
  have K := Maps.int_keyed (q := .i64) hk
  have hkey : keyOf P k (.int .i64 z) = some (.int .i64 z) := Maps.keyOf_int_mk hk (wf64 (by omega) (by omega))
  have hks := Tab.keys (w := w) (b := b) hk hn hs he
  rcases K.find w hkey es.toList (fun e hm => by obtain ⟨i, _, _, _, h⟩ := hks e hm; exact ⟨_, h⟩) with ⟨h1, h2⟩ | ⟨j, e0, h1, h2, h3⟩
  · refine ⟨setBlock w b (.map (es.push ⟨.int .i64 z, v, c⟩) (c + 1)), ?_, ⟨_, _, heap_setBlock_same hb _, by simp [hs], fun i hi => ?_⟩, ⟨rfl, rfl, rfl, by simp [setBlock], fun i _ hi => heap_setBlock_other hb _ (fun e => hi (by rw [e]))⟩⟩
    · simp [Instr.mapUpdate, run_underlying ht, MapKept.run_getObj_map hb, K.check w false hkey, h1, MapKept.run_setObj_map _ hb, Result.andThen, setBlock]
    · by_cases hin : i < n
      · obtain ⟨e, q1, q2, q3⟩ := he i hin
        refine ⟨e, ?_, q2, q3⟩
        rw [Array.toList_push, List.getElem?_append_left (by simpa [hs] using hin)]
        exact q1
      · have : i = n := by omega
        subst this
        refine ⟨⟨.int .i64 z, v, c⟩, by rw [Array.toList_push, List.getElem?_append_right (by simp [hs])]; simp [hs], by rw [hz], hv⟩
  · obtain ⟨i, hi, hg, hkk, _⟩ := hks e0 (List.mem_of_getElem? h2)
    rw [hkk] at h3
    injection h3 with _ h3
    omega
theorem Tab.lookup {P : Program} {t k e : TypeId} (hk : P.underlying k = some (.int .i64)) (ht : P.underlying t = some (.map k e)) {w : World} {G : Nat → Value → Prop} {b n : Nat} (h : Tab w G b n) (hn : n < 1000) (i : Nat) (hi : i < n) {z : Int} (hz : z = ((10 + i : Nat) : Int)) :
    ∃ v, (Instr.lookup t (.map (some b)) (.int .i64 z) false).run P w = .ok v w ∧ G (10 + i) v := by
  obtain ⟨es, c, hb, hs, he⟩ := h
  have K := Maps.int_keyed (q := .i64) hk
  have hkey : keyOf P k (.int .i64 z) = some (.int .i64 z) := Maps.keyOf_int_mk hk (wf64 (by omega) (by omega))
  have hks := Tab.keys (w := w) (b := b) hk hn hs he
  obtain ⟨e1, q1, q2, q3⟩ := he i hi
  rcases K.find w hkey es.toList (fun e hm => by obtain ⟨i, _, _, _, h⟩ := hks e hm; exact ⟨_, h⟩) with ⟨h1, h2⟩ | ⟨j, e0, h1, h2, h3⟩
  · exact absurd (q2.trans (by rw [hz])) (h2 e1 (List.mem_of_getElem? q1))
  · obtain ⟨i', hi', hg, hkk, _⟩ := hks e0 (List.mem_of_getElem? h2)
    rw [hkk] at h3
    injection h3 with _ h3
    have : i' = i := by omega
    rw [this, q1] at hg
    cases hg
    exact ⟨e1.val, by simp [Instr.lookup, run_underlying ht, MapKept.run_getObj_map hb, K.check w _ hkey, h1, Result.andThen], q3⟩
end Go.Proofs.YtacaknkfddlklaaGreatDoor
