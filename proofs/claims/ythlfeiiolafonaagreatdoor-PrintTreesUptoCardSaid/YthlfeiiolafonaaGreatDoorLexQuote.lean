/- Contract of the reference's Quote: it makes quoteS of the text's bytes too. -/
import Derived.Test.YthlfeiiolafonaaGreatDoorLexQuoteP
set_option linter.unusedVariables false
set_option linter.unusedSimpArgs false
namespace Go.Proofs.YthlfeiiolafonaaGreatDoor
open Go.RowKit

set_option maxHeartbeats 1000000 in
theorem ref_Quote (s : ByteArray) (w : World) (hs : s.size ≤ 1048576) :
    Calls Tryz.prog 56 #[.string s] w fun e w' => e = .returned (.string ⟨(quoteS s.data.toList).toArray⟩) ∧ Below w.heap.size w w' := by
  have HO := Lib.hid (OwnB.lit (fun k => w.heap.size ≤ k) w [34] _ rfl 1 rfl (by decide) (Nat.le_refl _))
  go_enter Tryz.func56, Tryz.ntmps56
  go_wp2
  go_loopw [4, 5] (fun v4 v5 wr => ∃ k : Nat, k ≤ s.size ∧ v5 = .int .i64 k ∧ OwnB (fun k => w.heap.size ≤ k) wr v4 (34 :: quoteL (s.data.toList.take k)) ∧ Fr (fun k => w.heap.size ≤ k) w wr) (fun _ i _ => s.size - (intOf i).toNat)
  case atStart => exact ⟨0, Nat.zero_le _, rfl, HO.out, (Fr.refl _ _).alloc _⟩
  case round =>
    obtain ⟨k, hk, rfl, hO, hF⟩ := hrel
    have HO' := Lib.hid hO
    have HF := Lib.hid hF
    clear hO hF
    by_cases hlt : k < s.size
    · have Hst := Lib.hid (quoteL_step s k hlt)
      have hln := quoteL_take s k hk
      have Hsb : Hid (s[k]'hlt = sB s k) := by
        show s[k]'hlt = sB s k
        rw [sB, List.getD_eq_getElem?_getD, List.getElem?_eq_getElem (by rw [data_len]; exact hlt), Option.getD_some, data_at s k hlt]
      have hix : ∀ W : World, (Instr.index 9 (.string s) (.int .i64 (k : Int))).run Tryz.prog W = .ok (.int .u8 (sB s k).toNat) W := by
        intro W
        rw [← Hsb.out]
        go_simp
      generalize sB s k = c at Hst hix
      have hc : c.toNat < 256 := c.toNat_lt
      clear Hsb
      by_cases q1 : c.toNat = 34
      · have q1' : ((c.toNat : Int) == 34) = true := by simp [q1]
        have Hq := Lib.hid (quoteB_a (.inl q1))
        clear q1
        go_wp2_with (at_builtin; refine wpB_append _ [92, c] (.tmp 35) (.tmp 37) rfl rfl _ rfl 2 2 rfl rfl rfl HO'.out HF.out (by simp; omega) (fun k h => Nat.le_trans HF.out.size h) ?_; intro v1 w1 hO1 hF1; clear HO' HF)
        exact ⟨⟨k + 1, by omega, by go_num, by rw [Hst.out, Hq.out]; exact hO1, hF1⟩, by simp [intOf]; omega⟩
      have q1' : ((c.toNat : Int) == 34) = false := by simp; omega
      by_cases q2 : c.toNat = 92
      · have q2' : ((c.toNat : Int) == 92) = true := by simp [q2]
        have Hq := Lib.hid (quoteB_a (.inr q2))
        clear q1 q2
        go_wp2_with (at_builtin; refine wpB_append _ [92, c] (.tmp 35) (.tmp 37) rfl rfl _ rfl 2 2 rfl rfl rfl HO'.out HF.out (by simp; omega) (fun k h => Nat.le_trans HF.out.size h) ?_; intro v1 w1 hO1 hF1; clear HO' HF)
        exact ⟨⟨k + 1, by omega, by go_num, by rw [Hst.out, Hq.out]; exact hO1, hF1⟩, by simp [intOf]; omega⟩
      have q2' : ((c.toNat : Int) == 92) = false := by simp; omega
      have q12 : ¬ (c.toNat = 34 ∨ c.toNat = 92) := by omega
      clear q1 q2
      by_cases q3 : c.toNat < 32
      · skip
        have Hq := Lib.hid (quoteB_b q12 (.inl q3))
        clear q12
        have hd1 := u8_quo16 c
        have hd2 := u8_rem16 c
        have hd3 : 0 ≤ (c.toNat : Int) / 16 := by omega
        have hd4 : (c.toNat : Int) / 16 < 16 := by omega
        have hd5 : 0 ≤ (c.toNat : Int) % 16 := by omega
        have hd6 : (c.toNat : Int) % 16 < 16 := by omega
        go_wp2_with fail
        go_region_held3 (fun _ => True) ((trivial)) (first
          | (refine stB_append _ [92, 120, hexd (c.toNat / 16), hexd (c.toNat % 16)] (.tmp 17) (.tmp 26) rfl rfl _ ?hc 4 4 rfl rfl rfl HO'.out.drew (HF.out.drew) (by simp; omega) (fun k h => by have := HF.out.size; simp at h; omega) ?_; (case hc => exact hex4 c); intro v1 w1 hO1 hF1; clear HO' HF))
        all_goals go_wp2
        all_goals exact ⟨⟨k + 1, by omega, by go_num, by rw [Hst.out, Hq.out]; exact hO1, hF1⟩, by simp [intOf]; omega⟩
      by_cases q4 : 126 < c.toNat
      · skip
        have Hq := Lib.hid (quoteB_b q12 (.inr q4))
        clear q12
        have hd1 := u8_quo16 c
        have hd2 := u8_rem16 c
        have hd3 : 0 ≤ (c.toNat : Int) / 16 := by omega
        have hd4 : (c.toNat : Int) / 16 < 16 := by omega
        have hd5 : 0 ≤ (c.toNat : Int) % 16 := by omega
        have hd6 : (c.toNat : Int) % 16 < 16 := by omega
        go_wp2_with fail
        go_region_held3 (fun _ => True) ((trivial)) (first
          | (refine stB_append _ [92, 120, hexd (c.toNat / 16), hexd (c.toNat % 16)] (.tmp 17) (.tmp 26) rfl rfl _ ?hc 4 4 rfl rfl rfl HO'.out.drew (HF.out.drew) (by simp; omega) (fun k h => by have := HF.out.size; simp at h; omega) ?_; (case hc => exact hex4 c); intro v1 w1 hO1 hF1; clear HO' HF))
        all_goals go_wp2
        all_goals exact ⟨⟨k + 1, by omega, by go_num, by rw [Hst.out, Hq.out]; exact hO1, hF1⟩, by simp [intOf]; omega⟩
      have Hq := Lib.hid (quoteB_c q12 (by omega) (by omega))
      clear q12
      go_wp2_with (at_builtin; refine wpB_append _ [c] (.tmp 46) (.tmp 48) rfl rfl _ rfl 1 1 rfl rfl rfl HO'.out HF.out (by simp; omega) (fun k h => Nat.le_trans HF.out.size h) ?_; intro v1 w1 hO1 hF1; clear HO' HF)
      exact ⟨⟨k + 1, by omega, by go_num, by rw [Hst.out, Hq.out]; exact hO1, hF1⟩, by simp [intOf]; omega⟩
    · go_wp2_with (first | (at_builtin; refine wpB_append _ [34] (.tmp 50) (.tmp 51) rfl rfl _ rfl 1 1 rfl rfl rfl HO'.out HF.out (by have := quoteL_take s k hk; simp; omega) (fun k h => Nat.le_trans HF.out.size h) ?_; intro v1 w1 hO1 hF1; clear HO' HF; have ht := hO1.toStr))
      go_ret
      have e : s.data.toList.take k = s.data.toList := List.take_of_length_le (by rw [data_len]; omega)
      refine ⟨?_, hF1.to_below (by intro j hj; omega)⟩
      show Ending.returned (.string ⟨(34 :: (quoteL (s.data.toList.take k) ++ [34])).toArray⟩) = _
      rw [e]
      rfl
end Go.Proofs.YthlfeiiolafonaaGreatDoor
