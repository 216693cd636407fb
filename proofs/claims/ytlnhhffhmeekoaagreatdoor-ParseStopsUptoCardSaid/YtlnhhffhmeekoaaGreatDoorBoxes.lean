/- Boxes of a call's own: their cells, and what a store does. No function of the program is named here. -/
import Derived.Test.YtlnhhffhmeekoaaGreatDoorNode
set_option linter.unusedVariables false
set_option linter.unusedSimpArgs false
namespace Go.Proofs.YtlnhhffhmeekoaaGreatDoor
open Go.RowKit

/-- a box of a call's own, that may be written -/
def Box (g : Nat) (cs : Array Value) (t : TypeId) (W : World) : Prop := W.heap[g]? = some (.cells cs t)
theorem Box.cell {g : Nat} {cs : Array Value} {t : TypeId} {W : World} (h : Box g cs t W) (i : Nat) {v : Value} (hv : cs[i]? = some v) : W.cell? ⟨g, i, none⟩ = some v := by
  unfold Box at h
  simp [World.cell?, h, hv]
theorem Box.melt {g : Nat} {cs : Array Value} {t : TypeId} {W : World} (h : Box g cs t W) (i : Nat) : W.frozen? ⟨g, i, none⟩ = false := by
  unfold Box at h
  simp [World.frozen?, h]
theorem Box.lt {g : Nat} {cs : Array Value} {t : TypeId} {W : World} (h : Box g cs t W) : g < W.heap.size := by
  unfold Box at h
  exact (Array.getElem?_eq_some_iff.1 h).1
theorem Box.of {g : Nat} {cs : Array Value} {t : TypeId} {W W' : World} (h : Box g cs t W) (he : W'.heap[g]? = W.heap[g]?) : Box g cs t W' := he.trans h
theorem Box.below {g : Nat} {cs : Array Value} {t : TypeId} {W W' : World} (h : Box g cs t W) (hb : Below W.heap.size W W') : Box g cs t W' := h.of (hb.block g h.lt)
theorem Box.fr {g : Nat} {cs : Array Value} {t : TypeId} {W W' : World} {ok : Nat → Prop} (h : Box g cs t W) (hf : Fr ok W W') (hn : ¬ ok g) : Box g cs t W' := h.of (hf.block g h.lt hn)
theorem Box.new (W : World) (cs : Array Value) (t : TypeId) : Box W.heap.size cs t (W.alloc (.cells cs t)) := heap_alloc_new W _
theorem Box.set {g : Nat} {cs : Array Value} {t : TypeId} {W : World} (h : Box g cs t W) (i : Nat) (v : Value) : Box g (cs.setIfInBounds i v) t (W.setCell ⟨g, i, none⟩ v) := by
  unfold Box at h ⊢
  simp [World.setCell, Array.getElem?_modify, h]
theorem Box.off {g g' : Nat} {cs : Array Value} {t : TypeId} {W : World} (h : Box g cs t W) (hne : g ≠ g') (i : Nat) (v : Value) : Box g cs t (W.setCell ⟨g', i, none⟩ v) :=
  h.of (Below.heap_setCell W ⟨g', i, none⟩ v g hne)

theorem own_blk {g n c k : Nat} (h : (Value.slice (some ⟨g, 0, none⟩) n c).ownBlock = some k) : g = k := by
  simpa [Value.ownBlock] using h
theorem Fr.set1 {ok : Nat → Prop} {a w : World} (h : Fr ok a w) (g i : Nat) (hp : ok g) (u : Value) : Fr ok a (w.setCell ⟨g, i, none⟩ u) := h.setCell hp u
abbrev zNode : Array Value := #[.int .i64 0, .string ⟨#[]⟩, .int .i64 0, .int .i64 0, .string ⟨#[]⟩, .slice none 0 0, .slice none 0 0, .bool false, .slice none 0 0, .int .i64 0]
theorem ten_cells {g : Nat} {c0 c1 c2 c3 c4 c5 c6 c7 c8 c9 : Value} {t : TypeId} {W : World} (h : Box g #[c0, c1, c2, c3, c4, c5, c6, c7, c8, c9] t W) : W.cell? ⟨g, 0, none⟩ = some c0 ∧ W.cell? ⟨g, 1, none⟩ = some c1 ∧ W.cell? ⟨g, 2, none⟩ = some c2 ∧ W.cell? ⟨g, 3, none⟩ = some c3 ∧ W.cell? ⟨g, 4, none⟩ = some c4 ∧
    W.cell? ⟨g, 5, none⟩ = some c5 ∧ W.cell? ⟨g, 6, none⟩ = some c6 ∧ W.cell? ⟨g, 7, none⟩ = some c7 ∧ W.cell? ⟨g, 8, none⟩ = some c8 ∧ W.cell? ⟨g, 9, none⟩ = some c9 :=
  ⟨h.cell 0 rfl, h.cell 1 rfl, h.cell 2 rfl, h.cell 3 rfl, h.cell 4 rfl, h.cell 5 rfl, h.cell 6 rfl, h.cell 7 rfl, h.cell 8 rfl, h.cell 9 rfl⟩
theorem ten_melt {g : Nat} {cs : Array Value} {t : TypeId} {W : World} (h : Box g cs t W) : W.frozen? ⟨g, 0, none⟩ = false ∧ W.frozen? ⟨g, 1, none⟩ = false ∧ W.frozen? ⟨g, 2, none⟩ = false ∧ W.frozen? ⟨g, 3, none⟩ = false ∧ W.frozen? ⟨g, 4, none⟩ = false ∧ W.frozen? ⟨g, 5, none⟩ = false ∧ W.frozen? ⟨g, 6, none⟩ = false ∧ W.frozen? ⟨g, 7, none⟩ = false ∧ W.frozen? ⟨g, 8, none⟩ = false ∧ W.frozen? ⟨g, 9, none⟩ = false :=
  ⟨h.melt 0, h.melt 1, h.melt 2, h.melt 3, h.melt 4, h.melt 5, h.melt 6, h.melt 7, h.melt 8, h.melt 9⟩
theorem ten_res (g : Nat) (a0 a1 a2 a3 a4 a5 a6 a7 a8 a9 : Value) (W : World) : Fr (fun b => g = b) W ((((((((((W.setCell ⟨g, 0, none⟩ a0).setCell ⟨g, 1, none⟩ a1).setCell ⟨g, 2, none⟩ a2).setCell ⟨g, 3, none⟩ a3).setCell ⟨g, 4, none⟩ a4).setCell ⟨g, 5, none⟩ a5).setCell ⟨g, 6, none⟩ a6).setCell ⟨g, 7, none⟩ a7).setCell ⟨g, 8, none⟩ a8).setCell ⟨g, 9, none⟩ a9) :=
  ((((((((((Fr.refl _ W).set1 g 0 rfl a0).set1 g 1 rfl a1).set1 g 2 rfl a2).set1 g 3 rfl a3).set1 g 4 rfl a4).set1 g 5 rfl a5).set1 g 6 rfl a6).set1 g 7 rfl a7).set1 g 8 rfl a8).set1 g 9 rfl a9
theorem ten_set {g : Nat} {c0 c1 c2 c3 c4 c5 c6 c7 c8 c9 : Value} {t : TypeId} {W : World} (h : Box g #[c0, c1, c2, c3, c4, c5, c6, c7, c8, c9] t W) (a0 a1 a2 a3 a4 a5 a6 a7 a8 a9 : Value) :
    Box g #[a0, a1, a2, a3, a4, a5, a6, a7, a8, a9] t ((((((((((W.setCell ⟨g, 0, none⟩ a0).setCell ⟨g, 1, none⟩ a1).setCell ⟨g, 2, none⟩ a2).setCell ⟨g, 3, none⟩ a3).setCell ⟨g, 4, none⟩ a4).setCell ⟨g, 5, none⟩ a5).setCell ⟨g, 6, none⟩ a6).setCell ⟨g, 7, none⟩ a7).setCell ⟨g, 8, none⟩ a8).setCell ⟨g, 9, none⟩ a9) := by
  have h1 := ((((((((((h.set 0 a0).set 1 a1).set 2 a2).set 3 a3).set 4 a4).set 5 a5).set 6 a6).set 7 a7).set 8 a8).set 9 a9)
  simp only [List.setIfInBounds_toArray, List.set_cons_zero, List.set_cons_succ] at h1
  exact h1
end Go.Proofs.YtlnhhffhmeekoaaGreatDoor
