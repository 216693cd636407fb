/- Contract of prim.fits, the operation record apart. -/
import Derived.Test.YtacaknkfddlklaaGreatDoorRefTakes
set_option linter.unusedVariables false
set_option linter.unusedSimpArgs false
namespace Go.Proofs.YtacaknkfddlklaaGreatDoor
open Go.RowKit Go.IntWalk

def fitsS (op : Int) (x : V) (l : List V) : Bool :=
  rightB x && (decide (l.length ≤ 40) && (l.all rightB && ((decide (op ≠ 26) || decide (x.kind = 3)) && decide ((l.length : Int) = takesS op l.length x))))
set_option maxRecDepth 20000 in
set_option maxHeartbeats 1000000 in
theorem prim_fits (op : Int) (x : V) (l : List V) (v : Value) (A : Option Addr) (c : Nat) (ok : Nat → Prop) (w : World) (hv : RdV ok w v x) (hls : RdVs ok w (.slice A l.length c) 0 l) (hlc : l.length ≤ c) (hcm : c ≤ 9223372036854775807) (hl : Hid (CodeLaid w)) (h24 : op ≠ 24) :
    Calls Tryz.prog 28 #[.int .i64 op, v, .slice A l.length c] w fun e w' => e = .returned (.bool (fitsS op x l)) ∧ Below w.heap.size w w' := by
  obtain ⟨A1, c1, B1, d1, rfl, h1, h2, h3, h4, h5, h6, h7⟩ := hv.form
  have Hv := Lib.hid hv
  have Hls := Lib.hid hls
  have hb1 : ∀ O : Obj, Below w.heap.size w (w.alloc O) := fun O => (Below.refl _ _).alloc (Nat.le_refl _) O
  have hbx := rbox5 w (.int .i64 x.kind) (.int .i64 x.num) (.string ⟨x.str.toArray⟩) (.slice A1 x.parts.length c1) (.slice B1 x.keys.length d1) 25
  have HBX := Lib.hid hbx
  have g24 : (op == 24) = false := by simpa using h24
  have hr := fun W hv => value_Right x (valV x A1 c1 B1 d1) ok W hv
  clear hv hls hbx h24
  cases hrx : rightB x with
  | false =>
    have Hres : Hid (fitsS op x l = false) := by show _ = _; simp [fitsS, hrx]
    rw [hrx] at hr
    have HR := Lib.hid hr
    clear hr hrx
    go_enter Tryz.func28, Tryz.ntmps28
    go_wp2_with fail
    refine (HR.out _ (Hv.out.below (hb1 _))).mono ?_
    rintro e w3 ⟨rfl, hb3⟩
    go_wp2_with fail
    go_ret
    rw [Hres.out]
    exact ⟨rfl, bthen (hb1 _) hb3⟩
  | true =>
    rw [hrx] at hr
    have HR := Lib.hid hr
    have Hrx := Lib.hid hrx
    clear hr hrx
    by_cases h40 : l.length ≤ 40
    · have h40' : ¬ (40 : Int) < (l.length : Int) := by omega
      go_enter Tryz.func28, Tryz.ntmps28
      go_wp2_with fail
      refine (HR.out _ (Hv.out.below (hb1 _))).mono ?_
      rintro e w3 ⟨rfl, hb3⟩
      have HX3 := Lib.hid (HBX.out.below hb3)
      have HV3 := Lib.hid (Hv.out.below (bthen (hb1 _) hb3))
      have HL3 := Lib.hid (Hls.out.below (bthen (hb1 _) hb3))
      have HB3 := Lib.hid (bthen (hb1 _) hb3)
      have Hl3 := Lib.hid (hl.out.below (bthen (hb1 _) hb3))
      clear hb3
      go_wp2_with fail
      go_loopw [19] (fun i wr => ∃ k : Nat, k ≤ l.length ∧ i = .int .i64 k ∧ Below w3.heap.size w3 wr ∧ (l.take k).all rightB = true) (fun i _ => l.length - (intOf i).toNat)
      case atStart => exact ⟨0, Nat.zero_le _, rfl, Below.refl _ _, rfl⟩
      case round =>
        obtain ⟨k, hk, rfl, hb, hall⟩ := hrel
        have Hb := Lib.hid hb
        have Hall := Lib.hid hall
        clear hb hall
        by_cases hlt : k < l.length
        · have hlA : (k : Int) < (l.length : Int) := by omega
          have h00 : (0 : Int) ≤ (k : Int) := by omega
          obtain ⟨g, off, A', c', B', d', rfl, hog, hrd, e0, e1, e2, e3, e4⟩ := (HL3.out.below Hb.out).elem k hlt
          have htk : l.take (k + 1) = l.take k ++ [l[k]] := by rw [List.take_succ_eq_append_getElem hlt]
          have Htk := Lib.hid htk
          have hmem : l[k] ∈ l := List.getElem_mem _
          have Hmem := Lib.hid hmem
          generalize l[k] = X at *
          have hX := fun W hv => value_Right X (valV X A' c' B' d') ok W hv
          have HX := Lib.hid hX
          have HRd := Lib.hid hrd
          clear htk hmem hX hrd
          go_wp2_with fail
          refine (HX.out _ (HRd.out.below ((Below.refl _ _).alloc (Nat.le_refl _) _))).mono ?_
          rintro e w4 ⟨rfl, hb4⟩
          cases hxb : rightB X with
          | false =>
            have Hres : Hid (fitsS op x l = false) := by
              show _ = _
              have : l.all rightB = false := by
                rw [List.all_eq_false]
                exact ⟨X, Hmem.out, by rw [hxb]; simp⟩
              simp [fitsS, this]
            clear hxb
            go_wp2_with fail
            go_ret
            rw [Hres.out]
            exact ⟨rfl, bthen HB3.out (bthen Hb.out (bthen ((Below.refl _ _).alloc (Nat.le_refl _) _) hb4))⟩
          | true =>
            have Hn : Hid ((l.take (k + 1)).all rightB = true) := by
              show _ = _
              rw [Htk.out, List.all_append, Hall.out]
              simp [hxb]
            clear hxb
            go_wp2_with fail
            exact ⟨⟨k + 1, by omega, by go_num, bthen Hb.out (bthen ((Below.refl _ _).alloc (Nat.le_refl _) _) hb4), Hn.out⟩, by simp [intOf]; omega⟩
        · have Hal : Hid (l.all rightB = true) := by
            show _ = _
            have := Hall.out
            rwa [List.take_of_length_le (by omega)] at this
          obtain ⟨x0, x1, x2, x3, x4, hx, e0, e1, e2, e3, e4⟩ := HX3.out.below Hb.out
          injection hx with hx
          simp only [Array.mk.injEq, List.cons.injEq, and_true] at hx
          obtain ⟨rfl, rfl, rfl, rfl, rfl⟩ := hx
          simp only [Nat.zero_add] at e0 e1 e2 e3 e4
          have ht := fun W hv hl => prim_Takes op (l.length : Int) x (valV x A1 c1 B1 d1) ok W hv hl
          have HT := Lib.hid ht
          clear ht
          by_cases k26 : op = 26
          · subst k26
            by_cases hk3 : x.kind = 3
            · have q3 : (x.kind != 3) = false := by simpa using hk3
              have Hk3 := Lib.hid hk3
              clear hk3
              go_wp2_with fail
              refine (HT.out _ (HV3.out.below Hb.out) (Lib.hid (Hl3.out.below Hb.out))).mono ?_
              rintro e w4 ⟨rfl, hb4⟩
              go_wp2_with fail
              go_ret
              refine ⟨ret_bool ?_, bthen HB3.out (bthen Hb.out hb4)⟩
              rw [Bool.eq_iff_iff]
              simp [fitsS, Hrx.out, h40, Hal.out, Hk3.out]
            · have q3 : (x.kind != 3) = true := by simpa using hk3
              have Hk3 := Lib.hid hk3
              clear hk3
              go_wp2_with fail
              go_ret
              refine ⟨ret_bool ?_, bthen HB3.out Hb.out⟩
              simp [fitsS, Hk3.out]
          · have q26 : (op == 26) = false := by simpa using k26
            have Hk26 := Lib.hid k26
            clear k26
            go_wp2_with fail
            refine (HT.out _ (HV3.out.below Hb.out) (Lib.hid (Hl3.out.below Hb.out))).mono ?_
            rintro e w4 ⟨rfl, hb4⟩
            go_wp2_with fail
            go_ret
            refine ⟨ret_bool ?_, bthen HB3.out (bthen Hb.out hb4)⟩
            rw [Bool.eq_iff_iff]
            simp [fitsS, Hrx.out, h40, Hal.out, Hk26.out]
    · have h40' : (40 : Int) < (l.length : Int) := by omega
      have Hres : Hid (fitsS op x l = false) := by show _ = _; simp [fitsS, h40]
      go_enter Tryz.func28, Tryz.ntmps28
      go_wp2_with fail
      refine (HR.out _ (Hv.out.below (hb1 _))).mono ?_
      rintro e w3 ⟨rfl, hb3⟩
      go_wp2_with fail
      go_ret
      rw [Hres.out]
      exact ⟨rfl, bthen (hb1 _) hb3⟩
end Go.Proofs.YtacaknkfddlklaaGreatDoor
