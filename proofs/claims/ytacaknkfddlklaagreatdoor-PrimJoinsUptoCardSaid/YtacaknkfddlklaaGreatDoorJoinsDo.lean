/- prim.Do's add, len and slice, as PrimJoins calls them. -/
import Derived.Test.YtacaknkfddlklaaGreatDoorJoinsLaw
set_option linter.unusedVariables false
set_option linter.unusedSimpArgs false
namespace Go.Proofs.YtacaknkfddlklaaGreatDoor
open Go.RowKit Go.IntWalk

theorem jn_add (X Y : V) (hX : rightB X = true) (hY : rightB Y = true) (R : V) (t : Int) (hR : addS X Y = (R, t)) (A : Option Addr) (c : Nat) (ok : Nat → Prop) (w : World) (hls : RdVs ok w (.slice A 2 c) 0 [X, Y]) (hlc : 2 ≤ c) (hcm : c ≤ 9223372036854775807) (hl : Hid (CodeLaid w)) :
    Calls Tryz.prog 12 #[.int .i64 10, aggV 0 0, .slice A 2 c] w (AnsPost w R t) :=
  prim_Do_10 V.zero [X, Y] _ A c ok w (zero_rd _ _) hls hlc hcm hl (fits2 10 X Y hX hY rfl) R t
    (fun w1 hb => prim_add_ans X Y hX hY R t hR _ _ _ _ _ A c ok w1 (hls.below hb))
theorem jn_bad (X Y : V) (h : ¬ (rightB X = true ∧ rightB Y = true)) (A : Option Addr) (c : Nat) (ok : Nat → Prop) (w : World) (hls : RdVs ok w (.slice A 2 c) 0 [X, Y]) (hlc : 2 ≤ c) (hcm : c ≤ 9223372036854775807) (hl : Hid (CodeLaid w)) :
    Calls Tryz.prog 12 #[.int .i64 10, aggV 0 0, .slice A 2 c] w (AnsPost w V.zero 3) :=
  (prim_Do_bad 10 V.zero [X, Y] _ A c ok w (zero_rd _ _) hls hlc hcm hl (by decide) (not_fits2 X Y h)).mono fun e w' h => AnsPost.of i64ok_0 i64ok_0 h
theorem long_ok (X : V) (h : rightB X = true) : i64ok (longS X) := by
  obtain ⟨_, h1, h2⟩ := right_form h
  unfold longS i64ok
  split
  · omega
  · split <;> omega
theorem jn_len (X : V) (hX : rightB X = true) (hk : hasLong X = true) (A : Option Addr) (c : Nat) (ok : Nat → Prop) (w : World) (hls : RdVs ok w (.slice A 1 c) 0 [X]) (hlc : 1 ≤ c) (hcm : c ≤ 9223372036854775807) (hl : Hid (CodeLaid w)) :
    Calls Tryz.prog 12 #[.int .i64 27, aggV 0 0, .slice A 1 c] w (KPost w 2 (longS X) 0) :=
  (prim_Do_27 V.zero [X] _ A c ok w (zero_rd _ _) hls hlc hcm hl (fits1 X hX) (.mk 2 (longS X) [] [] []) 0
    (fun w1 hb => (prim_len X _ _ _ _ _ A c ok w1 (hls.below hb)).mono fun e w' h => by
      simp only [hk, if_true] at h
      exact AnsPost.of i64ok_2 (long_ok X hX) h)).mono fun e w' h => KPost.of h
theorem jn_text (s : List UInt8) (i j : Int) (h0 : 0 ≤ i) (hij : i ≤ j) (hjn : j ≤ s.length) (hr : rightB (.mk 3 0 s [] []) = true) (A : Option Addr) (c : Nat) (ok : Nat → Prop) (w : World) (hls : RdVs ok w (.slice A 3 c) 0 [.mk 3 0 s [] [], numb i, numb j]) (hlc : 3 ≤ c) (hcm : c ≤ 9223372036854775807) (hl : Hid (CodeLaid w)) :
    Calls Tryz.prog 12 #[.int .i64 30, aggV 0 0, .slice A 3 c] w (AnsPost w (.mk 3 0 ((s.drop i.toNat).take (j - i).toNat) [] []) 0) := by
  have hs := (right_form hr).2.1
  simp only [V.str] at hs
  refine prim_Do_30 V.zero [.mk 3 0 s [] [], numb i, numb j] _ A c ok w (zero_rd _ _) hls hlc hcm hl (fits3 _ _ _ hr (right_numb i) (right_numb j)) _ 0 fun w1 hb => ?_
  have hlong : longS (.mk 3 0 s [] []) = s.length := rfl
  refine (prim_slice_str (.mk 3 0 s [] []) (numb i) (numb j) rfl rfl rfl (by simp only [numb, V.num]; omega) (by simp only [numb, V.num]; omega) (by rw [hlong]; simp only [numb, V.num]; omega) (by simp only [V.str]; omega) _ _ _ _ _ A c ok w1 (hls.below hb)).mono fun e w' h => ?_
  exact ⟨_, h.1, RdV.plain 3 0 _ (i64ok_small (by decide) (by decide)) i64ok_0 (by simp only [V.str, numb, V.num, List.length_take, List.length_drop]; omega), h.2⟩
theorem jn_row (l : List V) (i j : Int) (h0 : 0 ≤ i) (hij : i ≤ j) (hjn : j ≤ l.length) (hr : rightB (.mk 4 0 [] l []) = true) (R : V) (hR : sizedS (.mk 4 0 [] ((l.drop i.toNat).take (j - i).toNat) []) = (R, 0)) (A : Option Addr) (c : Nat) (ok : Nat → Prop) (w : World) (hls : RdVs ok w (.slice A 3 c) 0 [.mk 4 0 [] l [], numb i, numb j]) (hlc : 3 ≤ c) (hcm : c ≤ 9223372036854775807) (hl : Hid (CodeLaid w)) :
    Calls Tryz.prog 12 #[.int .i64 30, aggV 0 0, .slice A 3 c] w (AnsPost w R 0) := by
  have hs := (right_form hr).2.2
  simp only [V.parts] at hs
  refine prim_Do_30 V.zero [.mk 4 0 [] l [], numb i, numb j] _ A c ok w (zero_rd _ _) hls hlc hcm hl (fits3 _ _ _ hr (right_numb i) (right_numb j)) _ 0 fun w1 hb => ?_
  have hlong : longS (.mk 4 0 [] l []) = l.length := rfl
  exact prim_slice_arr (.mk 4 0 [] l []) (numb i) (numb j) rfl rfl rfl (by simp only [numb, V.num]; omega) (by simp only [numb, V.num]; omega) (by rw [hlong]; simp only [numb, V.num]; omega) (by simp only [V.parts]; omega) R 0 hR _ _ _ _ _ A c ok w1 (hls.below hb)
/-- what PrimJoins asks of the five calls -/
theorem jn_all {X Y R : V} (hX : rightB X = true) (hY : rightB Y = true) (hR : addS X Y = (R, 0)) (hk : R.kind ≠ 2) :
    rightB R = true ∧ hasLong X = true ∧ hasLong R = true ∧
    (∀ (A : Option Addr) (c : Nat) (ok : Nat → Prop) (w : World), RdVs ok w (.slice A 3 c) 0 [R, numb 0, numb (longS X)] → 3 ≤ c → c ≤ 9223372036854775807 → Hid (CodeLaid w) → Calls Tryz.prog 12 #[.int .i64 30, aggV 0 0, .slice A 3 c] w (AnsPost w X 0)) ∧
    (∀ (A : Option Addr) (c : Nat) (ok : Nat → Prop) (w : World), RdVs ok w (.slice A 3 c) 0 [R, numb (longS X), numb (longS R)] → 3 ≤ c → c ≤ 9223372036854775807 → Hid (CodeLaid w) → Calls Tryz.prog 12 #[.int .i64 30, aggV 0 0, .slice A 3 c] w (AnsPost w Y 0)) := by
  rcases add_parts hX hY hR hk with ⟨e1, e2, e3, e4⟩ | ⟨e1, e2, e3, e4⟩
  · have l1 : longS X = X.str.length := by rw [e1]; rfl
    have l2 : longS R = (X.str ++ Y.str).length := by rw [e3]; rfl
    refine ⟨e4, by rw [e1]; rfl, by rw [e3]; rfl, fun A c ok w h1 h2 h3 h4 => ?_, fun A c ok w h1 h2 h3 h4 => ?_⟩
    · have e5 : V.mk 3 0 (((X.str ++ Y.str).drop (0 : Int).toNat).take ((X.str.length : Int) - 0).toNat) [] [] = X := by
        rw [show ((X.str.length : Int) - 0).toNat = X.str.length by omega, show (0 : Int).toNat = 0 from rfl, List.drop_zero, List.take_left]
        exact e1.symm
      rw [l1, e3] at h1
      rw [e3] at e4
      have h := jn_text (X.str ++ Y.str) 0 X.str.length (by omega) (by omega) (by rw [List.length_append]; omega) e4 A c ok w h1 h2 h3 h4
      rwa [e5] at h
    · have e5 : V.mk 3 0 (((X.str ++ Y.str).drop (X.str.length : Int).toNat).take (((X.str ++ Y.str).length : Int) - X.str.length).toNat) [] [] = Y := by
        rw [show (((X.str ++ Y.str).length : Int) - X.str.length).toNat = Y.str.length by rw [List.length_append]; omega, show (X.str.length : Int).toNat = X.str.length by omega, List.drop_left, List.take_length]
        exact e2.symm
      rw [l1, l2, e3] at h1
      rw [e3] at e4
      have h := jn_text (X.str ++ Y.str) X.str.length (X.str ++ Y.str).length (by omega) (by rw [List.length_append]; omega) (by omega) e4 A c ok w h1 h2 h3 h4
      rwa [e5] at h
  · have l1 : longS X = X.parts.length := by rw [e1]; rfl
    have l2 : longS R = (X.parts ++ Y.parts).length := by rw [e3]; rfl
    refine ⟨e4, by rw [e1]; rfl, by rw [e3]; rfl, fun A c ok w h1 h2 h3 h4 => ?_, fun A c ok w h1 h2 h3 h4 => ?_⟩
    · have e5 : sizedS (V.mk 4 0 [] (((X.parts ++ Y.parts).drop (0 : Int).toNat).take ((X.parts.length : Int) - 0).toNat) []) = (X, 0) := by
        rw [show ((X.parts.length : Int) - 0).toNat = X.parts.length by omega, show (0 : Int).toNat = 0 from rfl, List.drop_zero, List.take_left, ← e1]
        exact sized_right hX
      rw [l1, e3] at h1
      rw [e3] at e4
      exact jn_row (X.parts ++ Y.parts) 0 X.parts.length (by omega) (by omega) (by rw [List.length_append]; omega) e4 X e5 A c ok w h1 h2 h3 h4
    · have e5 : sizedS (V.mk 4 0 [] (((X.parts ++ Y.parts).drop (X.parts.length : Int).toNat).take (((X.parts ++ Y.parts).length : Int) - X.parts.length).toNat) []) = (Y, 0) := by
        rw [show (((X.parts ++ Y.parts).length : Int) - X.parts.length).toNat = Y.parts.length by rw [List.length_append]; omega, show (X.parts.length : Int).toNat = X.parts.length by omega, List.drop_left, List.take_length, ← e2]
        exact sized_right hY
      rw [l1, l2, e3] at h1
      rw [e3] at e4
      exact jn_row (X.parts ++ Y.parts) X.parts.length (X.parts ++ Y.parts).length (by omega) (by rw [List.length_append]; omega) (by omega) e4 Y e5 A c ok w h1 h2 h3 h4
end Go.Proofs.YtacaknkfddlklaaGreatDoor
