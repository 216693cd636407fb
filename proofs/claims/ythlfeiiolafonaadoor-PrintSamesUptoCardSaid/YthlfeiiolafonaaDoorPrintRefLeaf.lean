/- Contracts of the reference's IsExpr, isStatement, all, Binds, rank, least, bracket. -/
import Derived.Test.YthlfeiiolafonaaDoorPrintLeaf
import Derived.Deep.DeepCutAuto
import Derived.Deep.RegionWith
import Derived.BigQuiet
set_option linter.unusedVariables false
set_option linter.unusedSimpArgs false
namespace Go.Proofs.YthlfeiiolafonaaDoor
open Go.RowKit Go.IntWalk

theorem all_take_step {l : List N} {k : Nat} (h : k < l.length) (p : N → Bool) : (l.take (k + 1)).all p = ((l.take k).all p && p l[k]) := by
  rw [← List.take_append_getElem h, List.all_append]
  simp
theorem all_at {l : List N} {k : Nat} (h : k < l.length) {p : N → Bool} (hp : p l[k] = false) : l.all p = false := by
  rw [List.all_eq_false]
  exact ⟨l[k], List.getElem_mem h, by rw [hp]; simp⟩
/-- the rows of signs -/
def signs : List (List (List UInt8)) := [[[124, 124]], [[38, 38]], [[61, 61], [33, 61], [60], [60, 61], [62], [62, 61]], [[43], [45]], [[42], [47], [37]]]
theorem bindS_at (t : List UInt8) (i : Nat) (hi : i < 5) (j : Nat) (hj : j < (signs.getD i []).length) (h : (signs.getD i []).getD j [] = t) : bindS t = (i : Int) + 1 := by
  have hi' : i = 0 ∨ i = 1 ∨ i = 2 ∨ i = 3 ∨ i = 4 := by omega
  rcases hi' with rfl | rfl | rfl | rfl | rfl <;> simp [signs] at hj h <;> (have hj' : j = 0 ∨ j = 1 ∨ j = 2 ∨ j = 3 ∨ j = 4 ∨ j = 5 := by omega) <;> rcases hj' with rfl | rfl | rfl | rfl | rfl | rfl <;> first | omega | (simp at h; subst h; decide)
theorem bindS_none (t : List UInt8) (h : ∀ i, i < 5 → ∀ j, j < (signs.getD i []).length → (signs.getD i []).getD j [] ≠ t) : bindS t = 0 := by
  have a0 := h 0 (by decide) 0 (by decide)
  have a1 := h 1 (by decide) 0 (by decide)
  have b0 := h 2 (by decide) 0 (by decide)
  have b1 := h 2 (by decide) 1 (by decide)
  have b2 := h 2 (by decide) 2 (by decide)
  have b3 := h 2 (by decide) 3 (by decide)
  have b4 := h 2 (by decide) 4 (by decide)
  have b5 := h 2 (by decide) 5 (by decide)
  have c0 := h 3 (by decide) 0 (by decide)
  have c1 := h 3 (by decide) 1 (by decide)
  have d0 := h 4 (by decide) 0 (by decide)
  have d1 := h 4 (by decide) 1 (by decide)
  have d2 := h 4 (by decide) 2 (by decide)
  simp [signs] at a0 a1 b0 b1 b2 b3 b4 b5 c0 c1 d0 d1 d2
  simp [bindS, Ne.symm a0, Ne.symm a1, Ne.symm b0, Ne.symm b1, Ne.symm b2, Ne.symm b3, Ne.symm b4, Ne.symm b5, Ne.symm c0, Ne.symm c1, Ne.symm d0, Ne.symm d1, Ne.symm d2]
/-- what Binds' own rows hold -/
structure RowsAt (b : Nat) (W : World) : Prop where
  outer : ∀ i, i < 5 → W.cell? ⟨b + 1 + 1 + 1 + 1 + 1, i, none⟩ = some (.slice (some ⟨b + i, 0, none⟩) (signs.getD i []).length (signs.getD i []).length)
  inner : ∀ i j, i < 5 → j < (signs.getD i []).length → W.cell? ⟨b + i, j, none⟩ = some (.string ⟨((signs.getD i []).getD j []).toArray⟩)
abbrev rowsW (w : World) : World := ((((((w.alloc (.cells #[.string ⟨#[124, 124]⟩] 9)).alloc (.cells #[.string ⟨#[38, 38]⟩] 9)).alloc (.cells #[.string ⟨#[61, 61]⟩, .string ⟨#[33, 61]⟩, .string ⟨#[60]⟩, .string ⟨#[60, 61]⟩, .string ⟨#[62]⟩, .string ⟨#[62, 61]⟩] 9)).alloc (.cells #[.string ⟨#[43]⟩, .string ⟨#[45]⟩] 9)).alloc (.cells #[.string ⟨#[42]⟩, .string ⟨#[47]⟩, .string ⟨#[37]⟩] 9)).alloc (.cells #[.slice (some ⟨w.heap.size, 0, none⟩) 1 1, .slice (some ⟨w.heap.size + 1, 0, none⟩) 1 1, .slice (some ⟨w.heap.size + 1 + 1, 0, none⟩) 6 6, .slice (some ⟨w.heap.size + 1 + 1 + 1, 0, none⟩) 2 2, .slice (some ⟨w.heap.size + 1 + 1 + 1 + 1, 0, none⟩) 3 3] 23))
theorem rows_made (w : World) : RowsAt w.heap.size (rowsW w) := by
  constructor
  · intro i hi
    have hi' : i = 0 ∨ i = 1 ∨ i = 2 ∨ i = 3 ∨ i = 4 := by omega
    rcases hi' with rfl | rfl | rfl | rfl | rfl <;> exact (World.cell?_alloc_at _ _ _ _ (by simp)).trans rfl
  · intro i j hi hj
    have hi' : i = 0 ∨ i = 1 ∨ i = 2 ∨ i = 3 ∨ i = 4 := by omega
    rcases hi' with rfl | rfl | rfl | rfl | rfl <;> simp only [signs, List.getD_cons_zero, List.getD_cons_succ, List.length_cons, List.length_nil] at hj
    · obtain rfl : j = 0 := by omega
      exact bcell (one_al _ _) (bcell (one_al _ _) (bcell (one_al _ _) (bcell (one_al _ _) (bcell (one_al _ _) ((World.cell?_alloc_at _ _ _ _ (by simp)).trans rfl)))))
    · obtain rfl : j = 0 := by omega
      exact bcell (one_al _ _) (bcell (one_al _ _) (bcell (one_al _ _) (bcell (one_al _ _) ((World.cell?_alloc_at _ _ _ _ (by simp)).trans rfl))))
    · have hj' : j = 0 ∨ j = 1 ∨ j = 2 ∨ j = 3 ∨ j = 4 ∨ j = 5 := by omega
      rcases hj' with rfl | rfl | rfl | rfl | rfl | rfl <;> exact bcell (one_al _ _) (bcell (one_al _ _) (bcell (one_al _ _) ((World.cell?_alloc_at _ _ _ _ (by simp)).trans rfl)))
    · have hj' : j = 0 ∨ j = 1 := by omega
      rcases hj' with rfl | rfl <;> exact bcell (one_al _ _) (bcell (one_al _ _) ((World.cell?_alloc_at _ _ _ _ (by simp)).trans rfl))
    · have hj' : j = 0 ∨ j = 1 ∨ j = 2 := by omega
      rcases hj' with rfl | rfl | rfl <;> exact bcell (one_al _ _) ((World.cell?_alloc_at _ _ _ _ (by simp)).trans rfl)
theorem rowsW_below (w : World) : Below w.heap.size w (rowsW w) := bthen (bthen (bthen (bthen (bthen (one_al _ _) (one_al _ _)) (one_al _ _)) (one_al _ _)) (one_al _ _)) (one_al _ _)
theorem signs_len (i : Nat) : (signs.getD i []).length ≤ 6 := by
  match i with
  | 0 | 1 | 2 | 3 | 4 => decide
  | n + 5 => simp [signs]
def leastS (n : N) (i : Nat) : Int := if n.kind = 16 then 6 else if n.kind = 21 ∨ n.kind = 22 then (if i = 0 then 7 else 0) else if n.kind = 17 then (if i = 1 ∨ bindS n.text = 3 then bindS n.text + 1 else bindS n.text) else 0
theorem bindS_range (t : List UInt8) : 0 ≤ bindS t ∧ bindS t ≤ 5 := by unfold bindS; split <;> (try split) <;> (try split) <;> (try split) <;> (try split) <;> omega
theorem bracket_wrap (n : N) (i : Nat) (kid : N) : decide (bindingS kid < leastS n i) = wrapS n i kid := by
  have hb : 0 ≤ bindingS kid := by
    unfold bindingS
    split
    · exact (bindS_range _).1
    · split <;> omega
  rw [Bool.eq_iff_iff]
  unfold wrapS wrapK leastS
  repeat' split
  all_goals simp_all <;> omega
end Go.Proofs.YthlfeiiolafonaaDoor
