/- Contract of the reference's bracket. -/
import Derived.Test.YthlfeiiolafonaaGreatDoorPrintRefLeaf
set_option linter.unusedVariables false
set_option linter.unusedSimpArgs false
namespace Go.Proofs.YthlfeiiolafonaaGreatDoor
open Go.RowKit Go.IntWalk

theorem below_undrew {w w1 : World} (h : Below w.drew.heap.size w.drew w1) : Below w.heap.size w w1 := ⟨h.os, h.tape, h.output, h.size, h.block⟩
set_option maxRecDepth 20000 in
set_option maxHeartbeats 4000000 in
theorem rf_bracket (n : N) (i : Nat) (hi : i < n.kids.length) (v : Value) (ok : Nat → Prop) (w : World) (hv : RdN ok w v n) : Calls Tryz.prog 88 #[v, .int .i64 (i : Int)] w fun e w' => e = .returned (.bool (wrapS n i n.kids[i])) ∧ Below w.heap.size w w' := by
  obtain ⟨A, c, B, d, K, e, rfl, hn⟩ := hv.form
  have hlen := hn.len
  have HV := Lib.hid hv
  obtain ⟨g, off, A', c', B', d', K', e', rfl, _, hk, k0, k1, k2, k3, k4, k5, k6, k7, k8, k9⟩ := hn.kids.elem i hi
  have hi2 : (i : Int) < (n.kids.length : Int) := by omega
  have hi0 : (0 : Int) ≤ (i : Int) := by omega
  have HL := Lib.hid (fun W hv => rf_least n i (by omega) (valN n A c B d (some ⟨g, off, none⟩) e) ok W hv)
  rw [← bracket_wrap]
  generalize n.kids[i] = kid at *
  have HK := Lib.hid hk
  have HC := Lib.hid (fun (W : World) (hb : Below w.heap.size w W) => (show CellsAt W g (off + i * 10) [.int .i64 kid.kind, .string ⟨kid.text.toArray⟩, .int .i64 kid.val.kind, .int .i64 kid.val.num, .string ⟨kid.val.str.toArray⟩, .slice A' kid.val.parts.length c', .slice B' kid.val.keys.length d', .bool kid.flag, .slice K' kid.kids.length e', .int .i64 kid.spot] from fun j u hj => by
    have hj' : j < 10 := by have := (List.getElem?_eq_some_iff.1 hj).1; simpa using this
    have hjj : j = 0 ∨ j = 1 ∨ j = 2 ∨ j = 3 ∨ j = 4 ∨ j = 5 ∨ j = 6 ∨ j = 7 ∨ j = 8 ∨ j = 9 := by omega
    rcases hjj with rfl | rfl | rfl | rfl | rfl | rfl | rfl | rfl | rfl | rfl <;> simp at hj <;> subst hj
    · exact bcell hb k0
    · exact bcell hb k1
    · exact bcell hb k2
    · exact bcell hb k3
    · exact bcell hb k4
    · exact bcell hb k5
    · exact bcell hb k6
    · exact bcell hb k7
    · exact bcell hb k8
    · exact bcell hb k9))
  replace k0 := fun X => bcell (one_al w X) k0
  replace k1 := fun X => bcell (one_al w X) k1
  replace k2 := fun X => bcell (one_al w X) k2
  replace k3 := fun X => bcell (one_al w X) k3
  replace k4 := fun X => bcell (one_al w X) k4
  replace k5 := fun X => bcell (one_al w X) k5
  replace k6 := fun X => bcell (one_al w X) k6
  replace k7 := fun X => bcell (one_al w X) k7
  replace k8 := fun X => bcell (one_al w X) k8
  replace k9 := fun X => bcell (one_al w X) k9
  clear hn hk hv
  go_enter Tryz.func88, Tryz.ntmps88
  go_upto_region 1 with fail
  go_region_with (first
    | (go_at_call 111
       first
       | (refine (rf_rank kid _ ok _ (HK.out.rd.below HL1.out)).mono ?_
          rintro e1 w1 ⟨rfl, hb⟩
          have HE := Lib.hid (bthen HL1.out hb)
          clear hb)
       | (refine (rf_rank kid _ ok _ (HK.out.rd.below (one_al _ _).drew)).mono ?_
          rintro e1 w1 ⟨rfl, hb⟩
          have HR1 := Lib.hid (bthen (one_al _ _).drew hb)
          obtain ⟨b0, b1, b2, b3, b4, b5, b6, b7, b8, b9⟩ := box10 (below_undrew hb)
          clear hb))
    | (go_at_call 112
       first
       | (refine (HL.out _ (HV.out.below HR1.out)).mono ?_
          rintro e1 w1 ⟨rfl, hb⟩
          have HE := Lib.hid (bthen HR1.out hb)
          clear hb)
       | (refine (HL.out _ (HV.out.below (one_al _ _).drew)).mono ?_
          rintro e1 w1 ⟨rfl, hb⟩
          have HL1 := Lib.hid (bthen (one_al _ _).drew hb)
          have CC := Lib.hid (HC.out _ HL1.out)
          have q0 := CC.out 0 _ rfl
          have q1 := CC.out 1 _ rfl
          have q2 := CC.out 2 _ rfl
          have q3 := CC.out 3 _ rfl
          have q4 := CC.out 4 _ rfl
          have q5 := CC.out 5 _ rfl
          have q6 := CC.out 6 _ rfl
          have q7 := CC.out 7 _ rfl
          have q8 := CC.out 8 _ rfl
          have q9 := CC.out 9 _ rfl
          simp only [Nat.add_zero] at q0
          obtain ⟨b0, b1, b2, b3, b4, b5, b6, b7, b8, b9⟩ := box10 (below_undrew hb)
          clear hb))
    | fail)
  all_goals go_wp2_with fail
  all_goals go_ret
  all_goals exact ⟨rfl, HE.out⟩
end Go.Proofs.YthlfeiiolafonaaGreatDoor
