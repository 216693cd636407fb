/- Contract of lex.Quote: it makes quoteS of the text's bytes (texts of at most 1048576 bytes). -/
import Derived.Test.YthlfeiiolafonaaDoorMem
import Derived.Test.YthlfeiiolafonaaDoorLexLeaf
import Derived.Deep.RegionHeld3
set_option linter.unusedVariables false
set_option linter.unusedSimpArgs false
namespace Go.Proofs.YthlfeiiolafonaaDoor
open Go.RowKit

theorem quoteB_a {c : UInt8} (h : c.toNat = 34 ∨ c.toNat = 92) : quoteB c = [92, c] := by
  unfold quoteB
  rw [if_pos (by rcases h with h | h
                 · exact .inl (UInt8.toNat_inj.1 h)
                 · exact .inr (UInt8.toNat_inj.1 h))]
theorem quoteB_n {c : UInt8} (h : ¬ (c.toNat = 34 ∨ c.toNat = 92)) : ¬ (c = 34 ∨ c = 92) := by
  rintro (rfl | rfl) <;> simp at h
theorem quoteB_b {c : UInt8} (h : ¬ (c.toNat = 34 ∨ c.toNat = 92)) (h2 : c.toNat < 32 ∨ 126 < c.toNat) : quoteB c = [92, 120, hexd (c.toNat / 16), hexd (c.toNat % 16)] := by
  unfold quoteB
  rw [if_neg (quoteB_n h), if_neg (by omega)]
theorem quoteB_c {c : UInt8} (h : ¬ (c.toNat = 34 ∨ c.toNat = 92)) (h2 : 32 ≤ c.toNat) (h3 : c.toNat ≤ 126) : quoteB c = [c] := by
  unfold quoteB
  rw [if_neg (quoteB_n h), if_pos ⟨h2, h3⟩]

theorem quoteL_step (s : ByteArray) (k : Nat) (hk : k < s.size) : quoteL (s.data.toList.take (k + 1)) = quoteL (s.data.toList.take k) ++ quoteB (sB s k) := by
  have h : k < s.data.toList.length := by rw [data_len]; exact hk
  rw [List.take_succ_eq_append_getElem h, quoteL_snoc]
  simp [sB, List.getD_eq_getElem?_getD, List.getElem?_eq_getElem h]
theorem quoteL_take (s : ByteArray) (k : Nat) (hk : k ≤ s.size) : (quoteL (s.data.toList.take k)).length ≤ 4 * k := by
  have := quoteL_le (s.data.toList.take k)
  rw [List.length_take] at this
  omega


/-- the blocks that lex.Quote may write: its first row's, and those made behind the copy of the text -/
def okQ (n k : Nat) : Prop := k = n ∨ n + 2 ≤ k

/-- what stands ahead of lex.Quote's loop -/
theorem lq_start (s : ByteArray) (w : World) : ∃ wB : World, Lib.bytesWorld (w.alloc (.cells #[.int .u8 34] 5)) 5 s = wB ∧
    OwnB (okQ w.heap.size) wB (.slice (some ⟨w.heap.size, 0, none⟩) 1 1) [34] ∧ Below w.heap.size w wB ∧ w.heap.size + 2 = wB.heap.size ∧
    (∀ j, j < s.size → wB.cell? ⟨w.heap.size + 1, j, none⟩ = some (.int .u8 (sB s j).toNat)) := by
  refine ⟨_, rfl, ?_, ?_, ?_, ?_⟩
  · have h := OwnB.lit (okQ w.heap.size) w [34] _ rfl 1 rfl (by decide) (.inl rfl)
    exact OwnR.move h fun k hk => Lib.bytesWorld_at_old _ _ _ _ (OwnR.lt h k hk)
  · exact ((Below.refl _ _).alloc (Nat.le_refl _) _).trans ⟨rfl, rfl, rfl, by rw [Lib.bytesWorld_size]; omega, fun i hi => Lib.bytesWorld_at_old _ _ s i (by simp; omega)⟩
  · rw [Lib.bytesWorld_size]; simp
  · intro j hj
    have h := Lib.bytesWorld_cell (w.alloc (.cells #[.int .u8 34] 5)) 5 s j hj
    simpa [sB] using h

theorem u8_and15 (c : UInt8) : bits .and .u8 (c.toNat : Int) 15 = ((c.toNat % 16 : Nat) : Int) := by
  have h := u8_and_nat c.toNat 15 (by have := c.toNat_lt; omega) (by omega)
  rw [show ((15 : Nat) : Int) = 15 from rfl] at h
  rw [h, show (15 : Nat) = 2 ^ 4 - 1 from rfl, Nat.and_two_pow_sub_one_eq_mod]
theorem hexd_at (n : Nat) (h : n < 16) (z : Int) (hz : z.toNat = n) (hb : z.toNat < (⟨#[48, 49, 50, 51, 52, 53, 54, 55, 56, 57, 97, 98, 99, 100, 101, 102]⟩ : ByteArray).size) : (⟨#[48, 49, 50, 51, 52, 53, 54, 55, 56, 57, 97, 98, 99, 100, 101, 102]⟩ : ByteArray)[z.toNat]'hb = hexd n := by
  subst hz
  generalize z.toNat = n at *
  have key : ∀ n : Fin 16, (⟨#[48, 49, 50, 51, 52, 53, 54, 55, 56, 57, 97, 98, 99, 100, 101, 102]⟩ : ByteArray)[n.val]'(n.isLt) = hexd n.val := by decide
  exact key ⟨n, h⟩
theorem hex4 (c : UInt8) {h1 h2} : #[Value.int .u8 92, .int .u8 120, .int .u8 (((⟨#[48, 49, 50, 51, 52, 53, 54, 55, 56, 57, 97, 98, 99, 100, 101, 102]⟩ : ByteArray)[((c.toNat : Int) / 16).toNat]'h1).toNat : Int), .int .u8 (((⟨#[48, 49, 50, 51, 52, 53, 54, 55, 56, 57, 97, 98, 99, 100, 101, 102]⟩ : ByteArray)[((c.toNat : Int) % 16).toNat]'h2).toNat : Int)] = (bvals [92, 120, hexd (c.toNat / 16), hexd (c.toNat % 16)]).toArray := by
  have hc := c.toNat_lt
  rw [hexd_at (c.toNat / 16) (by omega) _ (by omega), hexd_at (c.toNat % 16) (by omega) _ (by omega)]
  rfl
theorem u8_quo16 (c : UInt8) : IntKind.u8.wrap ((c.toNat : Int) / 16) = (c.toNat : Int) / 16 := by
  have := c.toNat_lt
  simp [IntKind.wrap, IntKind.signed, IntKind.bits]
  omega
theorem u8_rem16 (c : UInt8) : (c.toNat : Int).tmod 16 = (c.toNat : Int) % 16 := by
  rw [Int.tmod_eq_emod_of_nonneg (by omega)]
theorem lq_end {l : List UInt8} : (34 :: l) ++ [34] = 34 :: (l ++ [34]) := rfl

set_option maxHeartbeats 1000000 in
theorem lex_Quote (s : ByteArray) (w : World) (hs : s.size ≤ 1048576) :
    Calls Tryd.prog 41 #[.string s] w fun e w' => e = .returned (.string ⟨(quoteS s.data.toList).toArray⟩) ∧ Below w.heap.size w w' := by
  have kb := fun W => Lib.run_convert_string_bytes (P := Tryd.prog) W 9 41 5 s Tryd.underlying9 Tryd.underlying41 Tryd.underlying5
  obtain ⟨wB, hwB, hO, hB, hz, hC⟩ := lq_start s w
  have HwB := Lib.hid hwB
  have HO := Lib.hid hO
  have HB := Lib.hid hB
  have HC := Lib.hid hC
  have Hz := Lib.hid hz
  clear hwB hO hB hC hz
  go_enter Tryd.func41, Tryd.ntmps41
  go_wp2
  generalize grownCap _ _ _ _ = cap
  rw [HwB.out]
  clear kb HwB
  go_loopw [3, 10] (fun v3 v10 wr => ∃ k : Nat, k ≤ s.size ∧ v10 = .int .i64 k ∧ OwnB (okQ w.heap.size) wr v3 (34 :: quoteL (s.data.toList.take k)) ∧ Fr (okQ w.heap.size) wB wr) (fun _ i _ => s.size - (intOf i).toNat)
  case atStart => exact ⟨0, Nat.zero_le _, rfl, HO.out, Fr.refl _ _⟩
  case round =>
    obtain ⟨k, hk, rfl, hO, hF⟩ := hrel
    have HO' := Lib.hid hO
    have HF := Lib.hid hF
    clear hO hF
    by_cases hlt : k < s.size
    · have hcell : wr.cell? ⟨w.heap.size + 1, k, none⟩ = some (.int .u8 (sB s k).toNat) := HF.out.cell (HC.out k hlt) (by simp [okQ])
      have Hst := Lib.hid (quoteL_step s k hlt)
      have hln := quoteL_take s k hk
      generalize sB s k = c at hcell Hst
      have hc := c.toNat_lt
      have hc : c.toNat < 256 := hc
      by_cases q1 : c.toNat = 34
      · have q1' : ((c.toNat : Int) == 34) = true := by simp [q1]
        have Hq := Lib.hid (quoteB_a (.inl q1))
        clear q1
        go_wp2_with (at_builtin; refine wpB_append _ [92, c] (.tmp 25) (.tmp 27) rfl rfl _ rfl 2 2 rfl rfl rfl HO'.out HF.out (by simp; omega) (fun k h => .inr (by have := HF.out.size; have := Hz.out; omega)) ?_; intro v1 w1 hO1 hF1; clear HO' HF)
        exact ⟨⟨k + 1, by omega, by go_num, by rw [Hst.out, Hq.out]; exact hO1, hF1⟩, by simp [intOf]; omega⟩
      have q1' : ((c.toNat : Int) == 34) = false := by simp; omega
      by_cases q2 : c.toNat = 92
      · have q2' : ((c.toNat : Int) == 92) = true := by simp [q2]
        have Hq := Lib.hid (quoteB_a (.inr q2))
        clear q1 q2
        go_wp2_with (at_builtin; refine wpB_append _ [92, c] (.tmp 25) (.tmp 27) rfl rfl _ rfl 2 2 rfl rfl rfl HO'.out HF.out (by simp; omega) (fun k h => .inr (by have := HF.out.size; have := Hz.out; omega)) ?_; intro v1 w1 hO1 hF1; clear HO' HF)
        exact ⟨⟨k + 1, by omega, by go_num, by rw [Hst.out, Hq.out]; exact hO1, hF1⟩, by simp [intOf]; omega⟩
      have q2' : ((c.toNat : Int) == 92) = false := by simp; omega
      have q12 : ¬ (c.toNat = 34 ∨ c.toNat = 92) := by omega
      clear q1 q2
      by_cases q3 : c.toNat < 32
      · have Hq := Lib.hid (quoteB_b q12 (.inl q3))
        clear q12
        have hand := u8_and15 c
        go_wp2_with fail
        go_region_held3 (fun _ => True) ((trivial)) (first
          | (refine stB_append _ [92, 120, hexd (c.toNat / 16), hexd (c.toNat % 16)] (.tmp 36) (.tmp 43) rfl rfl _ ?hc 4 4 rfl rfl rfl HO'.out.drew (HF.out.drew) (by simp; omega) (fun k h => .inr (by have := HF.out.size; have := Hz.out; simp at h; omega)) ?_; (case hc => exact hex4 c); intro v1 w1 hO1 hF1; clear HO' HF))
        all_goals go_wp2
        all_goals exact ⟨⟨k + 1, by omega, by go_num, by rw [Hst.out, Hq.out]; exact hO1, hF1⟩, by simp [intOf]; omega⟩
      by_cases q4 : 126 < c.toNat
      · have Hq := Lib.hid (quoteB_b q12 (.inr q4))
        clear q12
        have hand := u8_and15 c
        go_wp2_with fail
        go_region_held3 (fun _ => True) ((trivial)) (first
          | (refine stB_append _ [92, 120, hexd (c.toNat / 16), hexd (c.toNat % 16)] (.tmp 36) (.tmp 43) rfl rfl _ ?hc 4 4 rfl rfl rfl HO'.out.drew (HF.out.drew) (by simp; omega) (fun k h => .inr (by have := HF.out.size; have := Hz.out; simp at h; omega)) ?_; (case hc => exact hex4 c); intro v1 w1 hO1 hF1; clear HO' HF))
        all_goals go_wp2
        all_goals exact ⟨⟨k + 1, by omega, by go_num, by rw [Hst.out, Hq.out]; exact hO1, hF1⟩, by simp [intOf]; omega⟩
      have Hq := Lib.hid (quoteB_c q12 (by omega) (by omega))
      clear q12
      go_wp2_with (at_builtin; refine wpB_append _ [c] (.tmp 14) (.tmp 16) rfl rfl _ rfl 1 1 rfl rfl rfl HO'.out HF.out (by simp; omega) (fun k h => .inr (by have := HF.out.size; have := Hz.out; omega)) ?_; intro v1 w1 hO1 hF1; clear HO' HF)
      exact ⟨⟨k + 1, by omega, by go_num, by rw [Hst.out, Hq.out]; exact hO1, hF1⟩, by simp [intOf]; omega⟩
    · go_wp2_with (first | (at_builtin; refine wpB_append _ [34] (.tmp 46) (.tmp 47) rfl rfl _ rfl 1 1 rfl rfl rfl HO'.out HF.out (by have := quoteL_take s k hk; simp; omega) (fun k h => .inr (by have := HF.out.size; have := Hz.out; omega)) ?_; intro v1 w1 hO1 hF1; clear HO' HF; have ht := hO1.toStr))
      go_ret
      have e : s.data.toList.take k = s.data.toList := List.take_of_length_le (by rw [data_len]; omega)
      refine ⟨?_, hF1.behind HB.out (by intro j hj; simp [okQ]; omega)⟩
      · show Ending.returned (.string ⟨(34 :: (quoteL (s.data.toList.take k) ++ [34])).toArray⟩) = _
        rw [e]
        rfl
end Go.Proofs.YthlfeiiolafonaaDoor
