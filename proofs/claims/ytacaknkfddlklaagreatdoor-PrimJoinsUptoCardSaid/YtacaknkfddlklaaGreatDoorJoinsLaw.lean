/- What add puts together slice takes apart: the plain facts. -/
import Derived.Test.YtacaknkfddlklaaGreatDoorSlice
import Derived.Test.YtacaknkfddlklaaGreatDoorDoOps2
import Derived.Test.YtacaknkfddlklaaGreatDoorDoNum
set_option linter.unusedVariables false
set_option linter.unusedSimpArgs false
namespace Go.Proofs.YtacaknkfddlklaaGreatDoor
open Go.RowKit Go.IntWalk

theorem wL_len {around : Nat} {r : Bool} : ∀ {l : List V} {p : Option (List UInt8)} {w : Nat} {ks : List (List UInt8)} {w' : Nat}, wL around r p w l ks = some w' → w + l.length ≤ w'
  | [], p, w, ks, w', h => by
    unfold wL at h
    injection h with h
    simp; omega
  | x :: l, p, w, ks, w', h => by
    unfold wL at h
    simp only [List.length_cons]
    split at h
    · split at h
      · cases h
      · split at h
        · split at h
          · rename_i w1 h1
            have h2 := (wS_bound h1).1
            have h3 := wL_len h
            omega
          · cases h
        · cases h
    · split at h
      · rename_i w1 h1
        have h2 := (wS_bound h1).1
        have h3 := wL_len h
        omega
      · cases h
/-- a right value's form, by its kind -/
theorem right_form {X : V} (h : rightB X = true) : plainS X.kind X.num X.str X.parts.length X.keys.length = true ∧ X.str.length ≤ 2048 ∧ X.parts.length ≤ 2048 := by
  cases X with
  | mk kind n s l k =>
    unfold rightB wS at h
    split at h
    · rename_i hc
      obtain ⟨w', hw⟩ := Option.isSome_iff_exists.1 h
      have h1 := wL_len hw
      have h2 := (wL_bound hw (by omega)).2
      simp only [V.kind, V.num, V.str, V.parts, V.keys]
      exact ⟨hc.1, by omega, by omega⟩
    · cases h
theorem right_text {X : V} (h : rightB X = true) (hk : X.kind = 3) : X = .mk 3 0 X.str [] [] := by
  have hp := (right_form h).1
  cases X with
  | mk kind n s l k =>
    simp only [V.kind, V.num, V.str, V.parts, V.keys] at *
    subst hk
    simp [plainS] at hp
    obtain ⟨rfl, hl, hk⟩ := hp
    subst hl hk
    rfl
theorem right_row {X : V} (h : rightB X = true) (hk : X.kind = 4) : X = .mk 4 0 [] X.parts [] := by
  have hp := (right_form h).1
  cases X with
  | mk kind n s l k =>
    simp only [V.kind, V.num, V.str, V.parts, V.keys] at *
    subst hk
    simp [plainS] at hp
    obtain ⟨rfl, hl, hk⟩ := hp
    subst hl hk
    rfl
theorem sized_right {X : V} (h : rightB X = true) : sizedS X = (X, 0) := by simp [sizedS, h]
theorem sized_ok {X R : V} (h : sizedS X = (R, 0)) : R = X ∧ rightB X = true := by
  unfold sizedS at h
  cases hr : rightB X with
  | false => rw [hr] at h; simp at h
  | true => rw [hr] at h; simp at h; exact ⟨h.symm, rfl⟩
theorem fits2 (op : Int) (X Y : V) (hX : rightB X = true) (hY : rightB Y = true) (h : op = 10) : fitsS op V.zero [X, Y] = true := by
  subst h
  have ht : takesS 10 2 V.zero = 2 := rfl
  simp [fitsS, hX, hY, right_zero, ht]
theorem fits1 (X : V) (hX : rightB X = true) : fitsS 27 V.zero [X] = true := by
  have ht : takesS 27 1 V.zero = 1 := rfl
  simp [fitsS, hX, right_zero, ht]
theorem fits3 (X Y Z : V) (hX : rightB X = true) (hY : rightB Y = true) (hZ : rightB Z = true) : fitsS 30 V.zero [X, Y, Z] = true := by
  have ht : takesS 30 3 V.zero = 3 := rfl
  simp [fitsS, hX, hY, hZ, right_zero, ht]
theorem not_fits2 (X Y : V) (h : ¬ (rightB X = true ∧ rightB Y = true)) : (pureB 10 && fitsS 10 V.zero [X, Y]) = false := by
  rw [Bool.eq_false_iff]
  intro hh
  apply h
  simp [fitsS] at hh
  exact ⟨hh.2.2.1.1, hh.2.2.1.2⟩
/-- add, of right values -/
theorem prim_add_ans (X Y : V) (hX : rightB X = true) (hY : rightB Y = true) (R : V) (t : Int) (hR : addS X Y = (R, t)) (x0 x1 x2 x3 x4 : Value) (A : Option Addr) (c : Nat) (ok : Nat → Prop) (w : World) (hls : RdVs ok w (.slice A 2 c) 0 [X, Y]) :
    Calls Tryz.prog 46 #[.agg #[x0, x1, x2, x3, x4], .slice A 2 c] w (AnsPost w R t) := by
  obtain ⟨_, hX1, hX2⟩ := right_form hX
  obtain ⟨_, hY1, hY2⟩ := right_form hY
  unfold addS at hR
  by_cases h2 : X.kind = 2 ∧ Y.kind = 2
  · rw [if_pos h2] at hR
    injection hR with h3 h4
    subst h3 h4
    exact (prim_add_ints X Y h2.1 h2.2 _ _ _ _ _ A c ok w hls).mono fun e w' h => AnsPost.of i64ok_2 (i64ok_wrap _) h
  · rw [if_neg h2] at hR
    by_cases h3 : X.kind = 3 ∧ Y.kind = 3
    · rw [if_pos h3] at hR
      exact prim_add_str X Y h3.1 h3.2 (by omega) (by omega) R t hR _ _ _ _ _ A c ok w hls
    · rw [if_neg h3] at hR
      by_cases h4 : X.kind = 4 ∧ Y.kind = 4
      · rw [if_pos h4] at hR
        exact prim_add_arr X Y h4.1 h4.2 (by omega) R t hR _ _ _ _ _ A c ok w hls
      · rw [if_neg h4] at hR
        injection hR with h5 h6
        subst h5 h6
        exact (prim_add_not X Y h2 h3 h4 _ _ _ _ _ A c ok w hls).mono fun e w' h => AnsPost.of i64ok_0 i64ok_0 h
/-- what was put together: two texts, or two rows -/
theorem add_parts {X Y R : V} (hX : rightB X = true) (hY : rightB Y = true) (hR : addS X Y = (R, 0)) (hk : R.kind ≠ 2) :
    (X = .mk 3 0 X.str [] [] ∧ Y = .mk 3 0 Y.str [] [] ∧ R = .mk 3 0 (X.str ++ Y.str) [] [] ∧ rightB R = true) ∨ (X = .mk 4 0 [] X.parts [] ∧ Y = .mk 4 0 [] Y.parts [] ∧ R = .mk 4 0 [] (X.parts ++ Y.parts) [] ∧ rightB R = true) := by
  unfold addS at hR
  by_cases h2 : X.kind = 2 ∧ Y.kind = 2
  · rw [if_pos h2] at hR
    injection hR with h3 _
    subst h3
    exact absurd rfl hk
  · rw [if_neg h2] at hR
    by_cases h3 : X.kind = 3 ∧ Y.kind = 3
    · rw [if_pos h3] at hR
      obtain ⟨h4, h5⟩ := sized_ok hR
      have eX := right_text hX h3.1
      have eY := right_text hY h3.2
      have e1 : R = .mk 3 0 (X.str ++ Y.str) [] [] := by
        rw [h4, h3.1]
        have e2 : X.num = 0 := by rw [eX]; rfl
        have e3 : X.parts = [] := by rw [eX]; rfl
        have e4 : X.keys = [] := by rw [eX]; rfl
        rw [e2, e3, e4]
      exact Or.inl ⟨eX, eY, e1, h4 ▸ h5⟩
    · rw [if_neg h3] at hR
      by_cases h4 : X.kind = 4 ∧ Y.kind = 4
      · rw [if_pos h4] at hR
        obtain ⟨h5, h6⟩ := sized_ok hR
        exact Or.inr ⟨right_row hX h4.1, right_row hY h4.2, h5, h5 ▸ h6⟩
      · rw [if_neg h4] at hR
        injection hR with _ h5
        cases h5
end Go.Proofs.YtacaknkfddlklaaGreatDoor
