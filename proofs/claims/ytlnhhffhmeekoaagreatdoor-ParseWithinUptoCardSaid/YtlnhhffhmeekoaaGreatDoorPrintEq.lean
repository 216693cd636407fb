/- What the same trees are: plain facts. -/
import Derived.Test.YtlnhhffhmeekoaaGreatDoorPrintSpec
set_option linter.unusedVariables false
set_option linter.unusedSimpArgs false
namespace Go.Proofs.YtlnhhffhmeekoaaGreatDoor
open Go.RowKit

mutual
theorem eqV_self : ∀ (x : V), eqV x x = true
  | .mk k n s l ks => by rw [eqV, eqVs_self l]; simp
theorem eqVs_self : ∀ (l : List V), eqVs l l = true
  | [] => by rw [eqVs]
  | x :: l => by rw [eqVs, eqV_self x, eqVs_self l]; rfl
end
mutual
theorem eqV_eq : ∀ (x y : V), eqV x y = true → x = y
  | .mk k n s l ks, .mk k' n' s' l' ks', h => by
    rw [eqV] at h
    simp only [Bool.and_eq_true, decide_eq_true_eq] at h
    obtain ⟨rfl, rfl, rfl, rfl, h⟩ := h
    rw [eqVs_eq l l' h]
theorem eqVs_eq : ∀ (l l' : List V), eqVs l l' = true → l = l'
  | [], [], h => rfl
  | x :: l, y :: l', h => by
    rw [eqVs, Bool.and_eq_true] at h
    rw [eqV_eq x y h.1, eqVs_eq l l' h.2]
  | [], _ :: _, h => by rw [eqVs] at h; exact absurd h (by decide)
  | _ :: _, [], h => by rw [eqVs] at h; exact absurd h (by decide)
end
theorem eqV_iff (x y : V) : eqV x y = true ↔ x = y := ⟨eqV_eq x y, fun h => h ▸ eqV_self x⟩
theorem eqV_symm (x y : V) : eqV x y = eqV y x := by rw [Bool.eq_iff_iff, eqV_iff, eqV_iff]; exact eq_comm
theorem dec_symm {α : Type} [DecidableEq α] (a b : α) : decide (a = b) = decide (b = a) := by rw [Bool.eq_iff_iff]; simp [eq_comm]
mutual
theorem eqN_self : ∀ (x : N), eqN x x = true
  | .mk k t x f l a => by rw [eqN, eqV_self x, eqNs_self l]; simp
theorem eqNs_self : ∀ (l : List N), eqNs l l = true
  | [] => by rw [eqNs]
  | x :: l => by rw [eqNs, eqN_self x, eqNs_self l]; rfl
end
mutual
theorem eqN_symm : ∀ (x y : N), eqN x y = eqN y x
  | .mk k t x f l a, .mk k' t' x' f' l' a' => by rw [eqN, eqN, eqV_symm x x', eqNs_symm l l', dec_symm k k', dec_symm t t', dec_symm f f']
theorem eqNs_symm : ∀ (l l' : List N), eqNs l l' = eqNs l' l
  | [], [] => rfl
  | x :: l, y :: l' => by rw [eqNs, eqNs, eqN_symm x y, eqNs_symm l l']
  | [], _ :: _ => by rw [eqNs, eqNs]
  | _ :: _, [] => by rw [eqNs, eqNs]
end
theorem sameN_symm (a b : N) : sameN a b = sameN b a := by
  unfold sameN
  rw [eqN_symm a b]
  cases fitsN a <;> cases fitsN b <;> rfl
/-- a tree at another place -/
def N.put (n : N) (p : Int) : N := .mk n.kind n.text n.val n.flag n.kids p
theorem sameN_put (n : N) (p : Int) : sameN n (n.put p) = sameN n n := by
  have h1 : fitsN (n.put p) = fitsN n := by cases n; rfl
  have h2 : eqN n (n.put p) = eqN n n := by cases n; rfl
  unfold sameN
  rw [h1, h2]
theorem eqVs_len : ∀ {l l' : List V}, l.length ≠ l'.length → eqVs l l' = false
  | [], [], h => absurd rfl h
  | x :: l, y :: l', h => by rw [eqVs, eqVs_len (l := l) (l' := l') (by simpa using h), Bool.and_false]
  | [], _ :: _, h => by rw [eqVs]
  | _ :: _, [], h => by rw [eqVs]
theorem eqNs_len : ∀ {l l' : List N}, l.length ≠ l'.length → eqNs l l' = false
  | [], [], h => absurd rfl h
  | x :: l, y :: l', h => by rw [eqNs, eqNs_len (l := l) (l' := l') (by simpa using h), Bool.and_false]
  | [], _ :: _, h => by rw [eqNs]
  | _ :: _, [], h => by rw [eqNs]
theorem eqVs_at : ∀ {l l' : List V} (hl : l.length = l'.length), eqVs l l' = true ↔ ∀ i (h : i < l.length) (h' : i < l'.length), eqV l[i] l'[i] = true
  | [], [], hl => by simp [eqVs]
  | x :: l, y :: l', hl => by
    rw [eqVs, Bool.and_eq_true, eqVs_at (l := l) (l' := l') (by simpa using hl)]
    constructor
    · intro h i h1 h2
      cases i with
      | zero => exact h.1
      | succ i => exact h.2 i (by simpa using h1) (by simpa using h2)
    · intro h
      exact ⟨h 0 (by simp) (by simp), fun i h1 h2 => h (i + 1) (by simpa using h1) (by simpa using h2)⟩
theorem eqNs_at : ∀ {l l' : List N} (hl : l.length = l'.length), eqNs l l' = true ↔ ∀ i (h : i < l.length) (h' : i < l'.length), eqN l[i] l'[i] = true
  | [], [], hl => by simp [eqNs]
  | x :: l, y :: l', hl => by
    rw [eqNs, Bool.and_eq_true, eqNs_at (l := l) (l' := l') (by simpa using hl)]
    constructor
    · intro h i h1 h2
      cases i with
      | zero => exact h.1
      | succ i => exact h.2 i (by simpa using h1) (by simpa using h2)
    · intro h
      exact ⟨h 0 (by simp) (by simp), fun i h1 h2 => h (i + 1) (by simpa using h1) (by simpa using h2)⟩
end Go.Proofs.YtlnhhffhmeekoaaGreatDoor
