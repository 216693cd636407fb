/- Contract of the statements' Same, at one value read twice. -/
import Derived.Test.YtacaknkfddlklaaGreatDoorAdd
set_option linter.unusedVariables false
set_option linter.unusedSimpArgs false
namespace Go.Proofs.YtacaknkfddlklaaGreatDoor
open Go.RowKit Go.IntWalk

theorem two_boxes (w : World) (a0 a1 a2 a3 a4 b0 b1 b2 b3 b4 : Value) : Five ((w.alloc (.cells #[a0, a1, a2, a3, a4] 25)).alloc (.cells #[b0, b1, b2, b3, b4] 25)) w.heap.size 0 (.agg #[a0, a1, a2, a3, a4]) ∧ Five ((w.alloc (.cells #[a0, a1, a2, a3, a4] 25)).alloc (.cells #[b0, b1, b2, b3, b4] 25)) (w.heap.size + 1) 0 (.agg #[b0, b1, b2, b3, b4]) :=
  ⟨(Five.new _ _ _ _ _ _ _ rfl).below (one_b _ _), Five.new _ _ _ _ _ _ _ (by simp)⟩
theorem drw {w : World} : Below w.heap.size w w.drew := (Below.refl _ _).drew
/-- within Same: the two boxes -/
structure SameSt (w : World) (v1 v2 : Value) (wr : World) : Prop where
  one : Five wr w.heap.size 0 v1
  two : Five wr (w.heap.size + 1) 0 v2
  bel : Below w.heap.size w wr
theorem SameSt.below {w : World} {v1 v2 : Value} {wr w1 : World} (h : SameSt w v1 v2 wr) (hb : Below wr.heap.size wr w1) : SameSt w v1 v2 w1 := ⟨h.one.below hb, h.two.below hb, bthen h.bel hb⟩
set_option maxRecDepth 20000 in
set_option maxHeartbeats 2000000 in
theorem law_Same (m : Nat) : ∀ (X : V) (v1 v2 : Value) (ok1 ok2 : Nat → Prop) (w : World) (h1 : RdV ok1 w v1 X) (h2 : RdV ok2 w v2 X) (hm : SizeOf.sizeOf X ≤ m),
    Calls Tryz.prog 14 #[v1, v2] w fun e w' => e = .returned (.bool true) ∧ Below w.heap.size w w' := by
  induction m using Nat.strongRecOn with
  | _ m ih =>
  intro X v1 v2 ok1 ok2 w hv1 hv2 hm
  obtain ⟨A1, c1, B1, d1, rfl, _, _, _, _, h5, h6, h7⟩ := hv1.form
  obtain ⟨A2, c2, B2, d2, rfl, _, _, _, _, _, _, _⟩ := hv2.form
  obtain ⟨_, _, _, lv, kv, hvv, _, hl1, hk1⟩ := hv1.open
  injection hvv with hvv
  simp only [Array.mk.injEq, List.cons.injEq, and_true, true_and] at hvv
  obtain ⟨rfl, rfl⟩ := hvv
  obtain ⟨_, _, _, lv, kv, hvv, _, hl2, hk2⟩ := hv2.open
  injection hvv with hvv
  simp only [Array.mk.injEq, List.cons.injEq, and_true, true_and] at hvv
  obtain ⟨rfl, rfl⟩ := hvv
  have HK1 := Lib.hid hk1
  have HK2 := Lib.hid hk2
  have HL1 := Lib.hid hl1
  have HL2 := Lib.hid hl2
  have HB := Lib.hid (two_boxes w (.int .i64 X.kind) (.int .i64 X.num) (.string ⟨X.str.toArray⟩) (.slice A1 X.parts.length c1) (.slice B1 X.keys.length d1) (.int .i64 X.kind) (.int .i64 X.num) (.string ⟨X.str.toArray⟩) (.slice A2 X.parts.length c2) (.slice B2 X.keys.length d2))
  have HW := Lib.hid (two_alloc w (.cells #[.int .i64 X.kind, .int .i64 X.num, .string ⟨X.str.toArray⟩, .slice A1 X.parts.length c1, .slice B1 X.keys.length d1] 25) (.cells #[.int .i64 X.kind, .int .i64 X.num, .string ⟨X.str.toArray⟩, .slice A2 X.parts.length c2, .slice B2 X.keys.length d2] 25))
  have g0 : (X.kind != X.kind) = false := by simp
  have g1 : (X.num != X.num) = false := by simp
  have Hih := Lib.hid ih
  clear hv1 hv2 hl1 hl2 hk1 hk2 ih
  go_enter Tryz.func14, Tryz.ntmps14
  go_wp2_with fail
  go_loopw [5] (fun i wr => ∃ k : Nat, k ≤ X.keys.length ∧ i = .int .i64 k ∧ SameSt w (valV X A1 c1 B1 d1) (valV X A2 c2 B2 d2) wr) (fun i _ => X.keys.length - (intOf i).toNat)
  case atStart => exact ⟨0, Nat.zero_le _, rfl, HB.out.1, HB.out.2, HW.out⟩
  case round =>
    obtain ⟨k, hk, rfl, hI⟩ := hrel
    have HI := Lib.hid hI
    have f1 := hI.one.get
    have f2 := hI.two.get
    obtain ⟨p0, p1, p2, p3, p4⟩ := f1
    obtain ⟨q0, q1, q2, q3, q4⟩ := f2
    by_cases hlt : k < X.keys.length
    · have hlA : (k : Int) < (X.keys.length : Int) := by omega
      have h00 : (0 : Int) ≤ (k : Int) := by omega
      obtain ⟨ga, offa, rfl, _, ca, _⟩ := (HK1.out.below hI.bel).elem k hlt
      obtain ⟨gb, offb, rfl, _, cb, _⟩ := (HK2.out.below hI.bel).elem k hlt
      generalize X.keys[k] = s at *
      have Hlt := Lib.hid hlt
      clear hI hlt
      go_wp2_with fail
      go_upto_region 6 with fail
      go_cut [62] (fun b wx => b = .bool false ∧ wx = wr.drew)
      case first =>
        go_region
        all_goals go_wp2_with fail
        all_goals go_meet
        all_goals exact ⟨rfl, rfl⟩
      case rest =>
        obtain ⟨rfl, rfl⟩ := hcut
        go_wp2_with fail
        exact ⟨⟨k + 1, Hlt.out, by go_num, HI.out.below drw⟩, by have := Hlt.out; simp [intOf]; omega⟩
    · have hlA : ¬ (k : Int) < (X.keys.length : Int) := by omega
      clear hI hlt hk
      go_wp2_with fail
      clear p0 p1 p2 p3 p4 q0 q1 q2 q3 q4
      go_loopw [6] (fun i wr => ∃ k : Nat, k ≤ X.parts.length ∧ i = .int .i64 k ∧ SameSt w (valV X A1 c1 B1 d1) (valV X A2 c2 B2 d2) wr) (fun i _ => X.parts.length - (intOf i).toNat)
      case atStart => exact ⟨0, Nat.zero_le _, rfl, HI.out⟩
      case round =>
        obtain ⟨j, hj, rfl, hI⟩ := hrel
        have HJ := Lib.hid hI
        have f1 := hI.one.get
        have f2 := hI.two.get
        obtain ⟨p0, p1, p2, p3, p4⟩ := f1
        obtain ⟨q0, q1, q2, q3, q4⟩ := f2
        by_cases hlt : j < X.parts.length
        · have hlB : (j : Int) < (X.parts.length : Int) := by omega
          have h00 : (0 : Int) ≤ (j : Int) := by omega
          have hsz := V.sz_part hlt
          obtain ⟨ga, offa, A3, c3, B3, d3, rfl, _, hr1, ca0, ca1, ca2, ca3, ca4⟩ := (HL1.out.below hI.bel).elem j hlt
          obtain ⟨gb, offb, A4, c4, B4, d4, rfl, _, hr2, cb0, cb1, cb2, cb3, cb4⟩ := (HL2.out.below hI.bel).elem j hlt
          have hY := fun (W : World) (h1 : RdV ok1 W (valV X.parts[j] A3 c3 B3 d3) X.parts[j]) (h2 : RdV ok2 W (valV X.parts[j] A4 c4 B4 d4) X.parts[j]) => Hih.out (SizeOf.sizeOf X.parts[j]) (Nat.lt_of_lt_of_le hsz hm) X.parts[j] _ _ ok1 ok2 W h1 h2 (Nat.le_refl _)
          generalize X.parts[j] = Y at *
          have HY := Lib.hid hY
          have Hr1 := Lib.hid hr1
          have Hr2 := Lib.hid hr2
          have Hlt := Lib.hid hlt
          clear hI hlt hsz hY hr1 hr2
          go_wp2_with fail
          go_upto_region 11 with fail
          go_cut [7] (fun b wx => b = .bool true ∧ Below wr.heap.size wr wx)
          case first =>
            go_region_with (go_at_call 14; refine (HY.out _ (Hr1.out.below drw) (Hr2.out.below drw)).mono ?_; rintro e wn ⟨rfl, hb⟩; have HBn := Lib.hid (bthen drw hb); clear hb)
            all_goals go_wp2_with fail
            all_goals go_meet
            all_goals exact ⟨rfl, HBn.out⟩
          case rest =>
            obtain ⟨rfl, hbn⟩ := hcut
            have HBn := Lib.hid hbn
            clear hbn p0 p1 p2 p3 p4 q0 q1 q2 q3 q4 ca0 ca1 ca2 ca3 ca4 cb0 cb1 cb2 cb3 cb4
            go_wp2_with fail
            exact ⟨⟨j + 1, Hlt.out, by go_num, HJ.out.below HBn.out⟩, by have := Hlt.out; simp [intOf]; omega⟩
        · have hlB : ¬ (j : Int) < (X.parts.length : Int) := by omega
          clear hI hlt hj
          go_wp2_with fail
          go_ret
          exact ⟨rfl, HJ.out.bel⟩
end Go.Proofs.YtacaknkfddlklaaGreatDoor
