/- What add puts together slice takes apart: the plain facts. prim.Do's add, len and slice, as PrimJoins calls them. Contract of the statements' Same, at one value read twice. PrimJoins, walked where nothing is put together. Printed by gen_joins.py. -/
import Derived.Test.YtacaknkfddlklaaGreatDoorSlice
import Derived.Test.YtacaknkfddlklaaGreatDoorDoOps2
import Derived.Test.YtacaknkfddlklaaGreatDoorDoB
import Derived.Test.YtacaknkfddlklaaGreatDoorElemB
set_option linter.unusedVariables false
set_option linter.unusedSimpArgs false
namespace Go.Proofs.YtacaknkfddlklaaGreatDoor
open Go.RowKit Go.IntWalk

theorem wL_len {around : Nat} {r : Bool} : ∀ {l : List V} {p : Option (List UInt8)} {w : Nat} {ks : List (List UInt8)} {w' : Nat}, wL around r p w l ks = some w' → w + l.length ≤ w'
  | [], p, w, ks, w', h => by
    unfold wL at h
    injection h with h
    simp; omega
  | x :: l, p, w, ks, w', h => by
    unfold wL at h
    simp only [List.length_cons]
    split at h
    · split at h
      · cases h
      · split at h
        · split at h
          · rename_i w1 h1
            have h2 := (wS_bound h1).1
            have h3 := wL_len h
            omega
          · cases h
        · cases h
    · split at h
      · rename_i w1 h1
        have h2 := (wS_bound h1).1
        have h3 := wL_len h
        omega
      · cases h
/-- a right value's form, by its kind -/
theorem right_form {X : V} (h : rightB X = true) : plainS X.kind X.num X.str X.parts.length X.keys.length = true ∧ X.str.length ≤ 2048 ∧ X.parts.length ≤ 2048 := by
  cases X with
  | mk kind n s l k =>
    unfold rightB wS at h
    split at h
    · rename_i hc
      obtain ⟨w', hw⟩ := Option.isSome_iff_exists.1 h
      have h1 := wL_len hw
      have h2 := (wL_bound hw (by omega)).2
      simp only [V.kind, V.num, V.str, V.parts, V.keys]
      exact ⟨hc.1, by omega, by omega⟩
    · cases h
theorem right_text {X : V} (h : rightB X = true) (hk : X.kind = 3) : X = .mk 3 0 X.str [] [] := by
  have hp := (right_form h).1
  cases X with
  | mk kind n s l k =>
    simp only [V.kind, V.num, V.str, V.parts, V.keys] at *
    subst hk
    simp [plainS] at hp
    obtain ⟨rfl, hl, hk⟩ := hp
    subst hl hk
    rfl
theorem right_row {X : V} (h : rightB X = true) (hk : X.kind = 4) : X = .mk 4 0 [] X.parts [] := by
  have hp := (right_form h).1
  cases X with
  | mk kind n s l k =>
    simp only [V.kind, V.num, V.str, V.parts, V.keys] at *
    subst hk
    simp [plainS] at hp
    obtain ⟨rfl, hl, hk⟩ := hp
    subst hl hk
    rfl
theorem sized_right {X : V} (h : rightB X = true) : sizedS X = (X, 0) := by simp [sizedS, h]
theorem sized_ok {X R : V} (h : sizedS X = (R, 0)) : R = X ∧ rightB X = true := by
  unfold sizedS at h
  cases hr : rightB X with
  | false => rw [hr] at h; simp at h
  | true => rw [hr] at h; simp at h; exact ⟨h.symm, rfl⟩
theorem fits2 (op : Int) (X Y : V) (hX : rightB X = true) (hY : rightB Y = true) (h : op = 10) : fitsS op V.zero [X, Y] = true := by
  subst h
  have ht : takesS 10 2 V.zero = 2 := rfl
  simp [fitsS, hX, hY, right_zero, ht]
theorem fits1 (X : V) (hX : rightB X = true) : fitsS 27 V.zero [X] = true := by
  have ht : takesS 27 1 V.zero = 1 := rfl
  simp [fitsS, hX, right_zero, ht]
theorem fits3 (X Y Z : V) (hX : rightB X = true) (hY : rightB Y = true) (hZ : rightB Z = true) : fitsS 30 V.zero [X, Y, Z] = true := by
  have ht : takesS 30 3 V.zero = 3 := rfl
  simp [fitsS, hX, hY, hZ, right_zero, ht]
theorem not_fits2 (X Y : V) (h : ¬ (rightB X = true ∧ rightB Y = true)) : (pureB 10 && fitsS 10 V.zero [X, Y]) = false := by
  rw [Bool.eq_false_iff]
  intro hh
  apply h
  simp [fitsS] at hh
  exact ⟨hh.2.2.1.1, hh.2.2.1.2⟩
/-- add, of right values -/
theorem prim_add_ans (X Y : V) (hX : rightB X = true) (hY : rightB Y = true) (R : V) (t : Int) (hR : addS X Y = (R, t)) (x0 x1 x2 x3 x4 : Value) (A : Option Addr) (c : Nat) (ok : Nat → Prop) (w : World) (hls : RdVs ok w (.slice A 2 c) 0 [X, Y]) :
    Calls Tryz.prog 46 #[.agg #[x0, x1, x2, x3, x4], .slice A 2 c] w (AnsPost w R t) := by
  obtain ⟨_, hX1, hX2⟩ := right_form hX
  obtain ⟨_, hY1, hY2⟩ := right_form hY
  unfold addS at hR
  by_cases h2 : X.kind = 2 ∧ Y.kind = 2
  · rw [if_pos h2] at hR
    injection hR with h3 h4
    subst h3 h4
    exact (prim_add_ints X Y h2.1 h2.2 _ _ _ _ _ A c ok w hls).mono fun e w' h => AnsPost.of i64ok_2 (i64ok_wrap _) h
  · rw [if_neg h2] at hR
    by_cases h3 : X.kind = 3 ∧ Y.kind = 3
    · rw [if_pos h3] at hR
      exact prim_add_str X Y h3.1 h3.2 (by omega) (by omega) R t hR _ _ _ _ _ A c ok w hls
    · rw [if_neg h3] at hR
      by_cases h4 : X.kind = 4 ∧ Y.kind = 4
      · rw [if_pos h4] at hR
        exact prim_add_arr X Y h4.1 h4.2 (by omega) R t hR _ _ _ _ _ A c ok w hls
      · rw [if_neg h4] at hR
        injection hR with h5 h6
        subst h5 h6
        exact (prim_add_not X Y h2 h3 h4 _ _ _ _ _ A c ok w hls).mono fun e w' h => AnsPost.of i64ok_0 i64ok_0 h
/-- what was put together: two texts, or two rows -/
theorem add_parts {X Y R : V} (hX : rightB X = true) (hY : rightB Y = true) (hR : addS X Y = (R, 0)) (hk : R.kind ≠ 2) :
    (X = .mk 3 0 X.str [] [] ∧ Y = .mk 3 0 Y.str [] [] ∧ R = .mk 3 0 (X.str ++ Y.str) [] [] ∧ rightB R = true) ∨ (X = .mk 4 0 [] X.parts [] ∧ Y = .mk 4 0 [] Y.parts [] ∧ R = .mk 4 0 [] (X.parts ++ Y.parts) [] ∧ rightB R = true) := by
  unfold addS at hR
  by_cases h2 : X.kind = 2 ∧ Y.kind = 2
  · rw [if_pos h2] at hR
    injection hR with h3 _
    subst h3
    exact absurd rfl hk
  · rw [if_neg h2] at hR
    by_cases h3 : X.kind = 3 ∧ Y.kind = 3
    · rw [if_pos h3] at hR
      obtain ⟨h4, h5⟩ := sized_ok hR
      have eX := right_text hX h3.1
      have eY := right_text hY h3.2
      have e1 : R = .mk 3 0 (X.str ++ Y.str) [] [] := by
        rw [h4, h3.1]
        have e2 : X.num = 0 := by rw [eX]; rfl
        have e3 : X.parts = [] := by rw [eX]; rfl
        have e4 : X.keys = [] := by rw [eX]; rfl
        rw [e2, e3, e4]
      exact Or.inl ⟨eX, eY, e1, h4 ▸ h5⟩
    · rw [if_neg h3] at hR
      by_cases h4 : X.kind = 4 ∧ Y.kind = 4
      · rw [if_pos h4] at hR
        obtain ⟨h5, h6⟩ := sized_ok hR
        exact Or.inr ⟨right_row hX h4.1, right_row hY h4.2, h5, h5 ▸ h6⟩
      · rw [if_neg h4] at hR
        injection hR with _ h5
        cases h5
end Go.Proofs.YtacaknkfddlklaaGreatDoor
namespace Go.Proofs.YtacaknkfddlklaaGreatDoor
open Go.RowKit Go.IntWalk

theorem jn_add (X Y : V) (hX : rightB X = true) (hY : rightB Y = true) (R : V) (t : Int) (hR : addS X Y = (R, t)) (A : Option Addr) (c : Nat) (ok : Nat → Prop) (w : World) (hls : RdVs ok w (.slice A 2 c) 0 [X, Y]) (hlc : 2 ≤ c) (hcm : c ≤ 9223372036854775807) (hl : Hid (CodeLaid w)) :
    Calls Tryz.prog 12 #[.int .i64 10, aggV 0 0, .slice A 2 c] w (AnsPost w R t) :=
  prim_Do_10 V.zero [X, Y] _ A c ok w (zero_rd _ _) hls hlc hcm hl (fits2 10 X Y hX hY rfl) R t
    (fun w1 hb => prim_add_ans X Y hX hY R t hR _ _ _ _ _ A c ok w1 (hls.below hb))
theorem jn_bad (X Y : V) (h : ¬ (rightB X = true ∧ rightB Y = true)) (A : Option Addr) (c : Nat) (ok : Nat → Prop) (w : World) (hls : RdVs ok w (.slice A 2 c) 0 [X, Y]) (hlc : 2 ≤ c) (hcm : c ≤ 9223372036854775807) (hl : Hid (CodeLaid w)) :
    Calls Tryz.prog 12 #[.int .i64 10, aggV 0 0, .slice A 2 c] w (AnsPost w V.zero 3) :=
  (prim_Do_bad 10 V.zero [X, Y] _ A c ok w (zero_rd _ _) hls hlc hcm hl (by decide) (not_fits2 X Y h)).mono fun e w' h => AnsPost.of i64ok_0 i64ok_0 h
theorem long_ok (X : V) (h : rightB X = true) : i64ok (longS X) := by
  obtain ⟨_, h1, h2⟩ := right_form h
  unfold longS i64ok
  split
  · omega
  · split <;> omega
theorem jn_len (X : V) (hX : rightB X = true) (hk : hasLong X = true) (A : Option Addr) (c : Nat) (ok : Nat → Prop) (w : World) (hls : RdVs ok w (.slice A 1 c) 0 [X]) (hlc : 1 ≤ c) (hcm : c ≤ 9223372036854775807) (hl : Hid (CodeLaid w)) :
    Calls Tryz.prog 12 #[.int .i64 27, aggV 0 0, .slice A 1 c] w (KPost w 2 (longS X) 0) :=
  (prim_Do_27 V.zero [X] _ A c ok w (zero_rd _ _) hls hlc hcm hl (fits1 X hX) (.mk 2 (longS X) [] [] []) 0
    (fun w1 hb => (prim_len X _ _ _ _ _ A c ok w1 (hls.below hb)).mono fun e w' h => by
      simp only [hk, if_true] at h
      exact AnsPost.of i64ok_2 (long_ok X hX) h)).mono fun e w' h => KPost.of h
theorem jn_text (s : List UInt8) (i j : Int) (h0 : 0 ≤ i) (hij : i ≤ j) (hjn : j ≤ s.length) (hr : rightB (.mk 3 0 s [] []) = true) (A : Option Addr) (c : Nat) (ok : Nat → Prop) (w : World) (hls : RdVs ok w (.slice A 3 c) 0 [.mk 3 0 s [] [], numb i, numb j]) (hlc : 3 ≤ c) (hcm : c ≤ 9223372036854775807) (hl : Hid (CodeLaid w)) :
    Calls Tryz.prog 12 #[.int .i64 30, aggV 0 0, .slice A 3 c] w (AnsPost w (.mk 3 0 ((s.drop i.toNat).take (j - i).toNat) [] []) 0) := by
  have hs := (right_form hr).2.1
  simp only [V.str] at hs
  refine prim_Do_30 V.zero [.mk 3 0 s [] [], numb i, numb j] _ A c ok w (zero_rd _ _) hls hlc hcm hl (fits3 _ _ _ hr (right_numb i) (right_numb j)) _ 0 fun w1 hb => ?_
  have hlong : longS (.mk 3 0 s [] []) = s.length := rfl
  refine (prim_slice_str (.mk 3 0 s [] []) (numb i) (numb j) rfl rfl rfl (by simp only [numb, V.num]; omega) (by simp only [numb, V.num]; omega) (by rw [hlong]; simp only [numb, V.num]; omega) (by simp only [V.str]; omega) _ _ _ _ _ A c ok w1 (hls.below hb)).mono fun e w' h => ?_
  exact ⟨_, h.1, RdV.plain 3 0 _ (i64ok_small (by decide) (by decide)) i64ok_0 (by simp only [V.str, numb, V.num, List.length_take, List.length_drop]; omega), h.2⟩
theorem jn_row (l : List V) (i j : Int) (h0 : 0 ≤ i) (hij : i ≤ j) (hjn : j ≤ l.length) (hr : rightB (.mk 4 0 [] l []) = true) (R : V) (hR : sizedS (.mk 4 0 [] ((l.drop i.toNat).take (j - i).toNat) []) = (R, 0)) (A : Option Addr) (c : Nat) (ok : Nat → Prop) (w : World) (hls : RdVs ok w (.slice A 3 c) 0 [.mk 4 0 [] l [], numb i, numb j]) (hlc : 3 ≤ c) (hcm : c ≤ 9223372036854775807) (hl : Hid (CodeLaid w)) :
    Calls Tryz.prog 12 #[.int .i64 30, aggV 0 0, .slice A 3 c] w (AnsPost w R 0) := by
  have hs := (right_form hr).2.2
  simp only [V.parts] at hs
  refine prim_Do_30 V.zero [.mk 4 0 [] l [], numb i, numb j] _ A c ok w (zero_rd _ _) hls hlc hcm hl (fits3 _ _ _ hr (right_numb i) (right_numb j)) _ 0 fun w1 hb => ?_
  have hlong : longS (.mk 4 0 [] l []) = l.length := rfl
  exact prim_slice_arr (.mk 4 0 [] l []) (numb i) (numb j) rfl rfl rfl (by simp only [numb, V.num]; omega) (by simp only [numb, V.num]; omega) (by rw [hlong]; simp only [numb, V.num]; omega) (by simp only [V.parts]; omega) R 0 hR _ _ _ _ _ A c ok w1 (hls.below hb)
/-- what PrimJoins asks of the five calls -/
theorem jn_all {X Y R : V} (hX : rightB X = true) (hY : rightB Y = true) (hR : addS X Y = (R, 0)) (hk : R.kind ≠ 2) :
    rightB R = true ∧ hasLong X = true ∧ hasLong R = true ∧
    (∀ (A : Option Addr) (c : Nat) (ok : Nat → Prop) (w : World), RdVs ok w (.slice A 3 c) 0 [R, numb 0, numb (longS X)] → 3 ≤ c → c ≤ 9223372036854775807 → Hid (CodeLaid w) → Calls Tryz.prog 12 #[.int .i64 30, aggV 0 0, .slice A 3 c] w (AnsPost w X 0)) ∧
    (∀ (A : Option Addr) (c : Nat) (ok : Nat → Prop) (w : World), RdVs ok w (.slice A 3 c) 0 [R, numb (longS X), numb (longS R)] → 3 ≤ c → c ≤ 9223372036854775807 → Hid (CodeLaid w) → Calls Tryz.prog 12 #[.int .i64 30, aggV 0 0, .slice A 3 c] w (AnsPost w Y 0)) := by
  rcases add_parts hX hY hR hk with ⟨e1, e2, e3, e4⟩ | ⟨e1, e2, e3, e4⟩
  · have l1 : longS X = X.str.length := by rw [e1]; rfl
    have l2 : longS R = (X.str ++ Y.str).length := by rw [e3]; rfl
    refine ⟨e4, by rw [e1]; rfl, by rw [e3]; rfl, fun A c ok w h1 h2 h3 h4 => ?_, fun A c ok w h1 h2 h3 h4 => ?_⟩
    · have e5 : V.mk 3 0 (((X.str ++ Y.str).drop (0 : Int).toNat).take ((X.str.length : Int) - 0).toNat) [] [] = X := by
        rw [show ((X.str.length : Int) - 0).toNat = X.str.length by omega, show (0 : Int).toNat = 0 from rfl, List.drop_zero, List.take_left]
        exact e1.symm
      rw [l1, e3] at h1
      rw [e3] at e4
      have h := jn_text (X.str ++ Y.str) 0 X.str.length (by omega) (by omega) (by rw [List.length_append]; omega) e4 A c ok w h1 h2 h3 h4
      rwa [e5] at h
    · have e5 : V.mk 3 0 (((X.str ++ Y.str).drop (X.str.length : Int).toNat).take (((X.str ++ Y.str).length : Int) - X.str.length).toNat) [] [] = Y := by
        rw [show (((X.str ++ Y.str).length : Int) - X.str.length).toNat = Y.str.length by rw [List.length_append]; omega, show (X.str.length : Int).toNat = X.str.length by omega, List.drop_left, List.take_length]
        exact e2.symm
      rw [l1, l2, e3] at h1
      rw [e3] at e4
      have h := jn_text (X.str ++ Y.str) X.str.length (X.str ++ Y.str).length (by omega) (by rw [List.length_append]; omega) (by omega) e4 A c ok w h1 h2 h3 h4
      rwa [e5] at h
  · have l1 : longS X = X.parts.length := by rw [e1]; rfl
    have l2 : longS R = (X.parts ++ Y.parts).length := by rw [e3]; rfl
    refine ⟨e4, by rw [e1]; rfl, by rw [e3]; rfl, fun A c ok w h1 h2 h3 h4 => ?_, fun A c ok w h1 h2 h3 h4 => ?_⟩
    · have e5 : sizedS (V.mk 4 0 [] (((X.parts ++ Y.parts).drop (0 : Int).toNat).take ((X.parts.length : Int) - 0).toNat) []) = (X, 0) := by
        rw [show ((X.parts.length : Int) - 0).toNat = X.parts.length by omega, show (0 : Int).toNat = 0 from rfl, List.drop_zero, List.take_left, ← e1]
        exact sized_right hX
      rw [l1, e3] at h1
      rw [e3] at e4
      exact jn_row (X.parts ++ Y.parts) 0 X.parts.length (by omega) (by omega) (by rw [List.length_append]; omega) e4 X e5 A c ok w h1 h2 h3 h4
    · have e5 : sizedS (V.mk 4 0 [] (((X.parts ++ Y.parts).drop (X.parts.length : Int).toNat).take (((X.parts ++ Y.parts).length : Int) - X.parts.length).toNat) []) = (Y, 0) := by
        rw [show (((X.parts ++ Y.parts).length : Int) - X.parts.length).toNat = Y.parts.length by rw [List.length_append]; omega, show (X.parts.length : Int).toNat = X.parts.length by omega, List.drop_left, List.take_length, ← e2]
        exact sized_right hY
      rw [l1, l2, e3] at h1
      rw [e3] at e4
      exact jn_row (X.parts ++ Y.parts) X.parts.length (X.parts ++ Y.parts).length (by omega) (by rw [List.length_append]; omega) (by omega) e4 Y e5 A c ok w h1 h2 h3 h4
end Go.Proofs.YtacaknkfddlklaaGreatDoor
namespace Go.Proofs.YtacaknkfddlklaaGreatDoor
open Go.RowKit Go.IntWalk

theorem two_boxes (w : World) (a0 a1 a2 a3 a4 b0 b1 b2 b3 b4 : Value) : Five ((w.alloc (.cells #[a0, a1, a2, a3, a4] 25)).alloc (.cells #[b0, b1, b2, b3, b4] 25)) w.heap.size 0 (.agg #[a0, a1, a2, a3, a4]) ∧ Five ((w.alloc (.cells #[a0, a1, a2, a3, a4] 25)).alloc (.cells #[b0, b1, b2, b3, b4] 25)) (w.heap.size + 1) 0 (.agg #[b0, b1, b2, b3, b4]) :=
  ⟨(Five.new _ _ _ _ _ _ _ rfl).below (one_b _ _), Five.new _ _ _ _ _ _ _ (by simp)⟩
theorem drw {w : World} : Below w.heap.size w w.drew := (Below.refl _ _).drew
/-- within Same: the two boxes -/
structure SameSt (w : World) (v1 v2 : Value) (wr : World) : Prop where
  one : Five wr w.heap.size 0 v1
  two : Five wr (w.heap.size + 1) 0 v2
  bel : Below w.heap.size w wr
theorem SameSt.below {w : World} {v1 v2 : Value} {wr w1 : World} (h : SameSt w v1 v2 wr) (hb : Below wr.heap.size wr w1) : SameSt w v1 v2 w1 := ⟨h.one.below hb, h.two.below hb, bthen h.bel hb⟩
set_option maxRecDepth 20000 in
set_option maxHeartbeats 2000000 in
theorem law_Same (m : Nat) : ∀ (X : V) (v1 v2 : Value) (ok1 ok2 : Nat → Prop) (w : World) (h1 : RdV ok1 w v1 X) (h2 : RdV ok2 w v2 X) (hm : SizeOf.sizeOf X ≤ m),
    Calls Tryz.prog 14 #[v1, v2] w fun e w' => e = .returned (.bool true) ∧ Below w.heap.size w w' := by
  induction m using Nat.strongRecOn with
  | _ m ih =>
  intro X v1 v2 ok1 ok2 w hv1 hv2 hm
  obtain ⟨A1, c1, B1, d1, rfl, _, _, _, _, h5, h6, h7⟩ := hv1.form
  obtain ⟨A2, c2, B2, d2, rfl, _, _, _, _, _, _, _⟩ := hv2.form
  obtain ⟨_, _, _, lv, kv, hvv, _, hl1, hk1⟩ := hv1.open
  injection hvv with hvv
  simp only [Array.mk.injEq, List.cons.injEq, and_true, true_and] at hvv
  obtain ⟨rfl, rfl⟩ := hvv
  obtain ⟨_, _, _, lv, kv, hvv, _, hl2, hk2⟩ := hv2.open
  injection hvv with hvv
  simp only [Array.mk.injEq, List.cons.injEq, and_true, true_and] at hvv
  obtain ⟨rfl, rfl⟩ := hvv
  have HK1 := Lib.hid hk1
  have HK2 := Lib.hid hk2
  have HL1 := Lib.hid hl1
  have HL2 := Lib.hid hl2
  have HB := Lib.hid (two_boxes w (.int .i64 X.kind) (.int .i64 X.num) (.string ⟨X.str.toArray⟩) (.slice A1 X.parts.length c1) (.slice B1 X.keys.length d1) (.int .i64 X.kind) (.int .i64 X.num) (.string ⟨X.str.toArray⟩) (.slice A2 X.parts.length c2) (.slice B2 X.keys.length d2))
  have HW := Lib.hid (two_alloc w (.cells #[.int .i64 X.kind, .int .i64 X.num, .string ⟨X.str.toArray⟩, .slice A1 X.parts.length c1, .slice B1 X.keys.length d1] 25) (.cells #[.int .i64 X.kind, .int .i64 X.num, .string ⟨X.str.toArray⟩, .slice A2 X.parts.length c2, .slice B2 X.keys.length d2] 25))
  have g0 : (X.kind != X.kind) = false := by simp
  have g1 : (X.num != X.num) = false := by simp
  have Hih := Lib.hid ih
  clear hv1 hv2 hl1 hl2 hk1 hk2 ih
  go_enter Tryz.func14, Tryz.ntmps14
  go_wp2_with fail
  go_loopw [5] (fun i wr => ∃ k : Nat, k ≤ X.keys.length ∧ i = .int .i64 k ∧ SameSt w (valV X A1 c1 B1 d1) (valV X A2 c2 B2 d2) wr) (fun i _ => X.keys.length - (intOf i).toNat)
  case atStart => exact ⟨0, Nat.zero_le _, rfl, HB.out.1, HB.out.2, HW.out⟩
  case round =>
    obtain ⟨k, hk, rfl, hI⟩ := hrel
    have HI := Lib.hid hI
    have f1 := hI.one.get
    have f2 := hI.two.get
    obtain ⟨p0, p1, p2, p3, p4⟩ := f1
    obtain ⟨q0, q1, q2, q3, q4⟩ := f2
    by_cases hlt : k < X.keys.length
    · have hlA : (k : Int) < (X.keys.length : Int) := by omega
      have h00 : (0 : Int) ≤ (k : Int) := by omega
      obtain ⟨ga, offa, rfl, _, ca, _⟩ := (HK1.out.below hI.bel).elem k hlt
      obtain ⟨gb, offb, rfl, _, cb, _⟩ := (HK2.out.below hI.bel).elem k hlt
      generalize X.keys[k] = s at *
      have Hlt := Lib.hid hlt
      clear hI hlt
      go_wp2_with fail
      go_upto_region 6 with fail
      go_cut [62] (fun b wx => b = .bool false ∧ wx = wr.drew)
      case first =>
        go_region
        all_goals go_wp2_with fail
        all_goals go_meet
        all_goals exact ⟨rfl, rfl⟩
      case rest =>
        obtain ⟨rfl, rfl⟩ := hcut
        go_wp2_with fail
        exact ⟨⟨k + 1, Hlt.out, by go_num, HI.out.below drw⟩, by have := Hlt.out; simp [intOf]; omega⟩
    · have hlA : ¬ (k : Int) < (X.keys.length : Int) := by omega
      clear hI hlt hk
      go_wp2_with fail
      clear p0 p1 p2 p3 p4 q0 q1 q2 q3 q4
      go_loopw [6] (fun i wr => ∃ k : Nat, k ≤ X.parts.length ∧ i = .int .i64 k ∧ SameSt w (valV X A1 c1 B1 d1) (valV X A2 c2 B2 d2) wr) (fun i _ => X.parts.length - (intOf i).toNat)
      case atStart => exact ⟨0, Nat.zero_le _, rfl, HI.out⟩
      case round =>
        obtain ⟨j, hj, rfl, hI⟩ := hrel
        have HJ := Lib.hid hI
        have f1 := hI.one.get
        have f2 := hI.two.get
        obtain ⟨p0, p1, p2, p3, p4⟩ := f1
        obtain ⟨q0, q1, q2, q3, q4⟩ := f2
        by_cases hlt : j < X.parts.length
        · have hlB : (j : Int) < (X.parts.length : Int) := by omega
          have h00 : (0 : Int) ≤ (j : Int) := by omega
          have hsz := V.sz_part hlt
          obtain ⟨ga, offa, A3, c3, B3, d3, rfl, _, hr1, ca0, ca1, ca2, ca3, ca4⟩ := (HL1.out.below hI.bel).elem j hlt
          obtain ⟨gb, offb, A4, c4, B4, d4, rfl, _, hr2, cb0, cb1, cb2, cb3, cb4⟩ := (HL2.out.below hI.bel).elem j hlt
          have hY := fun (W : World) (h1 : RdV ok1 W (valV X.parts[j] A3 c3 B3 d3) X.parts[j]) (h2 : RdV ok2 W (valV X.parts[j] A4 c4 B4 d4) X.parts[j]) => Hih.out (SizeOf.sizeOf X.parts[j]) (Nat.lt_of_lt_of_le hsz hm) X.parts[j] _ _ ok1 ok2 W h1 h2 (Nat.le_refl _)
          generalize X.parts[j] = Y at *
          have HY := Lib.hid hY
          have Hr1 := Lib.hid hr1
          have Hr2 := Lib.hid hr2
          have Hlt := Lib.hid hlt
          clear hI hlt hsz hY hr1 hr2
          go_wp2_with fail
          go_upto_region 11 with fail
          go_cut [7] (fun b wx => b = .bool true ∧ Below wr.heap.size wr wx)
          case first =>
            go_region_with (go_at_call 14; refine (HY.out _ (Hr1.out.below drw) (Hr2.out.below drw)).mono ?_; rintro e wn ⟨rfl, hb⟩; have HBn := Lib.hid (bthen drw hb); clear hb)
            all_goals go_wp2_with fail
            all_goals go_meet
            all_goals exact ⟨rfl, HBn.out⟩
          case rest =>
            obtain ⟨rfl, hbn⟩ := hcut
            have HBn := Lib.hid hbn
            clear hbn p0 p1 p2 p3 p4 q0 q1 q2 q3 q4 ca0 ca1 ca2 ca3 ca4 cb0 cb1 cb2 cb3 cb4
            go_wp2_with fail
            exact ⟨⟨j + 1, Hlt.out, by go_num, HJ.out.below HBn.out⟩, by have := Hlt.out; simp [intOf]; omega⟩
        · have hlB : ¬ (j : Int) < (X.parts.length : Int) := by omega
          clear hI hlt hj
          go_wp2_with fail
          go_ret
          exact ⟨rfl, HJ.out.bel⟩
end Go.Proofs.YtacaknkfddlklaaGreatDoor
namespace Go.Proofs.YtacaknkfddlklaaGreatDoor
open Go.RowKit Go.IntWalk

abbrev anyB : Nat → Prop := fun _ => True
theorem numb_rd {ok : Nat → Prop} {w : World} {z : Int} (hz : i64ok z) {A B : Option Addr} {c d : Nat} (hc : c ≤ 9223372036854775807) (hd : d ≤ 9223372036854775807) : RdV ok w (aggK 2 z A c B d) (numb z) :=
  RdV.close (s := []) (i64ok_small (by decide) (by decide)) hz (by simp) ⟨A, c, rfl, by simp, hc, by simp⟩ (by unfold RdVs; trivial) (RdK.nil _ _ _ _ hd)
theorem list1 {W : World} {g : Nat} (hg : g = W.heap.size) {ok1 : Nat → Prop} {a0 a1 a2 a3 a4 : Value} {X : V} (hX : RdV ok1 W (.agg #[a0, a1, a2, a3, a4]) X) :
    RdVs anyB (W.alloc (.cells #[a0, a1, a2, a3, a4] 25)) (.slice (some ⟨g, 0, none⟩) 1 1) 0 [X] := by
  subst hg
  exact RdVs.own (OwnR.lit 25 5 anyB W #[a0, a1, a2, a3, a4] 1 rfl (by decide) trivial) (((Elems.nil anyB W).cons (hX.imp fun _ _ => trivial)).below (one_b W _))
theorem list2 {W : World} {g : Nat} (hg : g = W.heap.size) {ok1 ok2 : Nat → Prop} {a0 a1 a2 a3 a4 b0 b1 b2 b3 b4 : Value} {X Y : V} (hX : RdV ok1 W (.agg #[a0, a1, a2, a3, a4]) X) (hY : RdV ok2 W (.agg #[b0, b1, b2, b3, b4]) Y) :
    RdVs anyB (W.alloc (.cells #[a0, a1, a2, a3, a4, b0, b1, b2, b3, b4] 25)) (.slice (some ⟨g, 0, none⟩) 2 2) 0 [X, Y] := by
  subst hg
  exact RdVs.own (OwnR.lit 25 5 anyB W #[a0, a1, a2, a3, a4, b0, b1, b2, b3, b4] 2 rfl (by decide) trivial) ((((Elems.nil anyB W).cons (hY.imp fun _ _ => trivial)).cons (hX.imp fun _ _ => trivial)).below (one_b W _))
theorem list3 {W : World} {g : Nat} (hg : g = W.heap.size) {ok1 ok2 ok3 : Nat → Prop} {a0 a1 a2 a3 a4 b0 b1 b2 b3 b4 c0 c1 c2 c3 c4 : Value} {X Y Z : V} (hX : RdV ok1 W (.agg #[a0, a1, a2, a3, a4]) X) (hY : RdV ok2 W (.agg #[b0, b1, b2, b3, b4]) Y) (hZ : RdV ok3 W (.agg #[c0, c1, c2, c3, c4]) Z) :
    RdVs anyB (W.alloc (.cells #[a0, a1, a2, a3, a4, b0, b1, b2, b3, b4, c0, c1, c2, c3, c4] 25)) (.slice (some ⟨g, 0, none⟩) 3 3) 0 [X, Y, Z] := by
  subst hg
  exact RdVs.own (OwnR.lit 25 5 anyB W #[a0, a1, a2, a3, a4, b0, b1, b2, b3, b4, c0, c1, c2, c3, c4] 3 rfl (by decide) trivial) (((((Elems.nil anyB W).cons (hZ.imp fun _ _ => trivial)).cons (hY.imp fun _ _ => trivial)).cons (hX.imp fun _ _ => trivial)).below (one_b W _))
/-- a box that holds a value -/
def BxV (w : World) (g : Nat) (X : V) : Prop := ∃ A c B d, Five w g 0 (valV X A c B d) ∧ RdV anyB w (valV X A c B d) X
theorem BxV.below {w w1 : World} {g : Nat} {X : V} (h : BxV w g X) (hb : Below w.heap.size w w1) : BxV w1 g X := by
  obtain ⟨A, c, B, d, h1, h2⟩ := h
  exact ⟨A, c, B, d, h1.below hb, h2.below hb⟩
/-- a box that holds the zero value, to be written -/
def Zr (w : World) (g : Nat) : Prop := w.cell? ⟨g, 0, none⟩ = some (.int .i64 0) ∧ w.cell? ⟨g, 1, none⟩ = some (.int .i64 0) ∧ w.cell? ⟨g, 2, none⟩ = some (.string ⟨#[]⟩) ∧ w.cell? ⟨g, 3, none⟩ = some (.slice none 0 0) ∧ w.cell? ⟨g, 4, none⟩ = some (.slice none 0 0) ∧ ∀ i, w.frozen? ⟨g, i, none⟩ = false
theorem Zr.made (w : World) {g : Nat} (hg : g = w.heap.size) : Zr (w.alloc (cellsV 0 0)) g := by
  subst hg
  exact ⟨World.cell?_alloc_at _ _ _ _ rfl, World.cell?_alloc_at _ _ _ _ rfl, World.cell?_alloc_at _ _ _ _ rfl, World.cell?_alloc_at _ _ _ _ rfl, World.cell?_alloc_at _ _ _ _ rfl, fun i => World.frozen?_alloc_at _ _ _ _ rfl⟩
theorem Zr.below {w w1 : World} {g : Nat} (h : Zr w g) (hb : Below w.heap.size w w1) : Zr w1 g := by
  obtain ⟨h0, h1, h2, h3, h4, hf⟩ := h
  exact ⟨bcell hb h0, bcell hb h1, bcell hb h2, bcell hb h3, bcell hb h4, frozen_below hb (lt_of_cell h0) hf⟩
theorem relV_sets {w4 w5 : World} {g n : Nat} {t : Int} {X : V} {A B : Option Addr} {c d : Nat} (h : Zr w5 g) (hg : w4.heap.size ≤ g) (hgn : g < n) (hv : RdV (newB n) w5 (valV X A c B d) X) (hb : Below w4.heap.size w4 w5) :
    ∃ g', Value.pointer (some ⟨g, 0, none⟩) = Value.pointer (some ⟨g', 0, none⟩) ∧ Value.int .i64 t = Value.int .i64 t ∧ BxV (((((w5.setCell ⟨g, 0, none⟩ (.int .i64 X.kind)).setCell ⟨g, 1, none⟩ (.int .i64 X.num)).setCell ⟨g, 2, none⟩ (.string ⟨X.str.toArray⟩)).setCell ⟨g, 3, none⟩ (.slice A X.parts.length c)).setCell ⟨g, 4, none⟩ (.slice B X.keys.length d)) g' X ∧
      Below w4.heap.size w4 (((((w5.setCell ⟨g, 0, none⟩ (.int .i64 X.kind)).setCell ⟨g, 1, none⟩ (.int .i64 X.num)).setCell ⟨g, 2, none⟩ (.string ⟨X.str.toArray⟩)).setCell ⟨g, 3, none⟩ (.slice A X.parts.length c)).setCell ⟨g, 4, none⟩ (.slice B X.keys.length d)) := by
  obtain ⟨h0, h1, h2, h3, h4, hf⟩ := h
  have hfr := ((((((Fr.refl (fun b => b = g) w5).setCell (p := ⟨g, 0, none⟩) rfl (.int .i64 X.kind)).setCell (p := ⟨g, 1, none⟩) rfl (.int .i64 X.num)).setCell (p := ⟨g, 2, none⟩) rfl (.string ⟨X.str.toArray⟩)).setCell (p := ⟨g, 3, none⟩) rfl (.slice A X.parts.length c)).setCell (p := ⟨g, 4, none⟩) rfl (.slice B X.keys.length d))
  refine ⟨g, rfl, rfl, ⟨A, c, B, d, ⟨_, _, _, _, _, rfl, ?_, ?_, ?_, ?_, ?_⟩, (hv.fr hfr fun b _ hb e => by simp only [newB] at hb; omega).imp fun _ _ => trivial⟩, five_sets hb hg _ _ _ _ _ _ _ _ _ _⟩
  · rw [sc_other (by omega), sc_other (by omega), sc_other (by omega), sc_other (by omega)]; exact sc_same h0
  · rw [sc_other (by omega), sc_other (by omega), sc_other (by omega)]; exact sc_same (u := .int .i64 0) (by rw [sc_other (by omega)]; exact h1)
  · rw [sc_other (by omega), sc_other (by omega)]; exact sc_same (u := .string ⟨#[]⟩) (by rw [sc_other (by omega), sc_other (by omega)]; exact h2)
  · rw [sc_other (by omega)]; exact sc_same (u := .slice none 0 0) (by rw [sc_other (by omega), sc_other (by omega), sc_other (by omega)]; exact h3)
  · exact sc_same (u := .slice none 0 0) (by rw [sc_other (by omega), sc_other (by omega), sc_other (by omega), sc_other (by omega)]; exact h4)
theorem relV_made {w4 w5 : World} {n : Nat} {t : Int} {X : V} {A B : Option Addr} {c d : Nat} (hv : RdV (newB n) w5 (valV X A c B d) X) (hb : Below w4.heap.size w4 w5) :
    ∃ g', Value.pointer (some ⟨w5.heap.size, 0, none⟩) = Value.pointer (some ⟨g', 0, none⟩) ∧ Value.int .i64 t = Value.int .i64 t ∧ BxV (w5.alloc (.cells #[.int .i64 X.kind, .int .i64 X.num, .string ⟨X.str.toArray⟩, .slice A X.parts.length c, .slice B X.keys.length d] 25)) g' X ∧
      Below w4.heap.size w4 (w5.alloc (.cells #[.int .i64 X.kind, .int .i64 X.num, .string ⟨X.str.toArray⟩, .slice A X.parts.length c, .slice B X.keys.length d] 25)) :=
  ⟨_, rfl, rfl, ⟨A, c, B, d, Five.new w5 _ _ _ _ _ _ rfl, (hv.below (one_b _ _)).imp fun _ _ => trivial⟩, bthen hb (one_b _ _)⟩
theorem sz2 (w : World) (X Y : Obj) : w.heap.size + 1 + 1 = ((w.alloc X).alloc Y).heap.size := by simp
theorem sz3 (w : World) (X Y Z : Obj) : w.heap.size + 1 + 1 + 1 = (((w.alloc X).alloc Y).alloc Z).heap.size := by simp
theorem le_q1 {w : World} {X : Obj} : (w.alloc X).heap.size ≤ w.heap.size + 1 := by simp
theorem le_q2 {w : World} {X : Obj} : (w.alloc X).heap.size ≤ w.heap.size + 1 + 1 := by simp
theorem le_q3 {w : World} {X : Obj} : (w.alloc X).heap.size ≤ w.heap.size + 1 + 1 + 1 := by simp
theorem lt_q1 {w : World} {X Y Z U : Obj} : w.heap.size + 1 < ((((w.alloc X).alloc Y).alloc Z).alloc U).drew.heap.size := by first | (simp; done) | (simp; omega)
theorem lt_q2 {w : World} {X Y Z U : Obj} : w.heap.size + 1 + 1 < ((((w.alloc X).alloc Y).alloc Z).alloc U).drew.heap.size := by first | (simp; done) | (simp; omega)
theorem lt_q3 {w : World} {X Y Z U : Obj} : w.heap.size + 1 + 1 + 1 < ((((w.alloc X).alloc Y).alloc Z).alloc U).drew.heap.size := by first | (simp; done) | (simp; omega)

set_option maxRecDepth 20000 in
set_option maxHeartbeats 4000000 in
theorem law_joins_short (a b R : V) (t : Int) (hs : t ≠ 0 ∨ R.kind = 2) (va vb : Value) (oka okb : Nat → Prop) (w : World) (hva : RdV oka w va a) (hvb : RdV okb w vb b) (hl : Hid (CodeLaid w))
    (HD1 : Hid (∀ A W, RdVs anyB W (.slice A 2 2) 0 [a, b] → Hid (CodeLaid W) → Calls Tryz.prog 12 #[.int .i64 10, aggV 0 0, .slice A 2 2] W (AnsPost W R t))) :
    Calls Tryz.prog 7 #[va, vb] w fun e w' => e = .returned (.bool true) ∧ Below w.heap.size w w' := by
  obtain ⟨Aa, ca, Ba, da, rfl, _⟩ := hva.form
  obtain ⟨Ab, cb, Bb, db, rfl, _⟩ := hvb.form
  have Hva := Lib.hid hva
  have Hvb := Lib.hid hvb
  have HB := Lib.hid (two_boxes w (.int .i64 a.kind) (.int .i64 a.num) (.string ⟨a.str.toArray⟩) (.slice Aa a.parts.length ca) (.slice Ba a.keys.length da) (.int .i64 b.kind) (.int .i64 b.num) (.string ⟨b.str.toArray⟩) (.slice Ab b.parts.length cb) (.slice Bb b.keys.length db))
  have HW := Lib.hid (two_alloc w (.cells #[.int .i64 a.kind, .int .i64 a.num, .string ⟨a.str.toArray⟩, .slice Aa a.parts.length ca, .slice Ba a.keys.length da] 25) (.cells #[.int .i64 b.kind, .int .i64 b.num, .string ⟨b.str.toArray⟩, .slice Ab b.parts.length cb, .slice Bb b.keys.length db] 25))
  clear hva hvb
  go_enter Tryz.func7, Tryz.ntmps7
  go_wp2_with fail
  refine (prim_shown _ (Lib.hid (hl.out.below HW.out))).mono ?_
  rintro e w1 ⟨rfl, hb1⟩
  have HB1 := Lib.hid (SameSt.mk (v1 := valV a Aa ca Ba da) (v2 := valV b Ab cb Bb db) (HB.out.1.below hb1) (HB.out.2.below hb1) (bthen HW.out hb1))
  clear hb1
  obtain ⟨p0, p1, p2, p3, p4⟩ := HB1.out.one.get
  obtain ⟨q0, q1, q2, q3, q4⟩ := HB1.out.two.get
  go_wp2_with fail
  refine (HD1.out _ _ (list2 rfl (Hva.out.below HB1.out.bel) (Hvb.out.below HB1.out.bel)) (Lib.hid (hl.out.below (bthen HB1.out.bel (one_b _ _))))).mono ?_
  rintro e w2 ⟨v', rfl, hv', hb2⟩
  obtain ⟨A6, c6, B6, d6, rfl, _⟩ := hv'.form
  have HB2 := Lib.hid (HB1.out.below (bthen (one_b _ _) hb2))
  have HR2 := Lib.hid (hv'.imp (ok' := anyB) (fun _ _ => trivial))
  clear p0 p1 p2 p3 p4 q0 q1 q2 q3 q4 hv' hb2
  by_cases h0 : t = 0
  · have g0 : (t != 0) = false := by simpa using h0
    have g1 : (R.kind == 2) = true := by
      rcases hs with h | h
      · exact absurd h0 h
      · simpa using h
    clear h0 hs
    go_wp2_with fail
    go_ret
    exact ⟨rfl, bthen HB2.out.bel (one_b _ _)⟩
  · have g0 : (t != 0) = true := by simpa using h0
    clear h0 hs
    go_wp2_with fail
    go_ret
    exact ⟨rfl, bthen HB2.out.bel (one_b _ _)⟩
end Go.Proofs.YtacaknkfddlklaaGreatDoor
