/- Contracts of the reference's word (at a place), number, sign and blanks. -/
import Derived.Test.YtgnoiliaidfepaaDoorLexRef
set_option linter.unusedVariables false
set_option linter.unusedSimpArgs false
namespace Go.Proofs.YtgnoiliaidfepaaDoor
open Go.RowKit

theorem wordLen_drop (s : ByteArray) (p k : Nat) (hp : p + k < s.size) (h : k ≤ wordLen (s.data.toList.drop p)) :
    (isWord (sB s (p + k)) = true → k + 1 ≤ wordLen (s.data.toList.drop p)) ∧ (isWord (sB s (p + k)) = false → wordLen (s.data.toList.drop p) = k) := by
  have hl : k < (s.data.toList.drop p).length := by rw [List.length_drop, data_len]; omega
  have e : (s.data.toList.drop p)[k]'hl = sB s (p + k) := by
    rw [List.getElem_drop, sB, List.getD_eq_getElem?_getD, List.getElem?_eq_getElem (by rw [data_len]; exact hp), Option.getD_some]
  have := wordLen_step (s.data.toList.drop p) k h hl
  rw [e] at this
  exact this

theorem ref_wordAt (s : ByteArray) (p : Nat) (w : World) (hs : s.size ≤ 1048576) (hp : p ≤ s.size) :
    Calls Tryd.prog 71 #[.string s, .int .i64 p] w fun e w' => e = .returned (.int .i64 (wordLen (s.data.toList.drop p))) ∧ w = w' := by
  go_enter Tryd.func71, Tryd.ntmps71
  go_wp2
  go_loop [5] (fun i => ∃ k : Nat, p + k ≤ s.size ∧ i = .int .i64 k ∧ k ≤ wordLen (s.data.toList.drop p)) (fun i => s.size - (intOf i).toNat)
  case atStart => exact ⟨0, by omega, rfl, Nat.zero_le _⟩
  case round =>
    obtain ⟨k, hk, rfl, hr⟩ := hrel
    by_cases hlt : p + k < s.size
    · have hs1 := wordLen_drop s p k hlt hr
      have hix := sB_lit s ((p : Int) + (k : Int)) (p + k) (by omega) hlt
      generalize sB s (p + k) = c at hs1 hix
      have hc : c.toNat < 256 := c.toNat_lt
      have Hs1 := Lib.hid hs1
      clear hs1
      have Hr := Lib.hid hr
      clear hr
      go_wp2_with (first
        | (go_at_call 72; refine (ref_letter _ _).mono ?_; rintro e w' ⟨rfl, rfl⟩)
        | (go_at_call 73; refine (ref_digit _ _).mono ?_; rintro e w' ⟨rfl, rfl⟩))
      all_goals (have hs1 := Hs1.out)
      · have h : isLetter c.toNat = true := by assumption
        have h2 := hs1.1 (by rw [isWord, h]; rfl)
        exact ⟨⟨k + 1, by omega, by go_num, h2⟩, by simp [intOf]; omega⟩
      · have h : ¬ isLetter c.toNat = true := by assumption
        have h' : (!isDigit c.toNat) = true := by assumption
        have h2 := hs1.2 (by simp at h h'; rw [isWord, h, h']; rfl)
        go_ret
        exact ⟨ret_int (by rw [h2]), rfl⟩
      · have h' : (!isDigit c.toNat) = false := by assumption
        have h2 := hs1.1 (by simp at h'; rw [isWord, h']; simp)
        exact ⟨⟨k + 1, by omega, by go_num, h2⟩, by simp [intOf]; omega⟩
    · go_wp2
      go_ret
      have hl := wordLen_le (s.data.toList.drop p)
      rw [List.length_drop, data_len] at hl
      exact ⟨ret_int (by omega), rfl⟩

/-! numbers -/
theorem valS_snoc (l : List UInt8) (c : UInt8) : valS (l ++ [c]) = 10 * valS l + (c.toNat - 48) := by simp [valS]
theorem foldl_ge (l : List UInt8) (a : Nat) : a * 10 ^ l.length ≤ l.foldl (fun a c => 10 * a + (c.toNat - 48)) a := by
  induction l generalizing a with
  | nil => simp
  | cons c l ih =>
    simp only [List.foldl_cons, List.length_cons]
    refine Nat.le_trans ?_ (ih _)
    rw [Nat.pow_succ, Nat.mul_comm (10 ^ l.length) 10, ← Nat.mul_assoc]
    exact Nat.mul_le_mul_right _ (by omega)
theorem foldl_lt (l : List UInt8) (a b : Nat) (h : l.all digitB = true) (ha : a < b) : l.foldl (fun a c => 10 * a + (c.toNat - 48)) a < b * 10 ^ l.length := by
  induction l generalizing a b with
  | nil => simpa using ha
  | cons c l ih =>
    simp only [List.foldl_cons, List.length_cons]
    simp only [List.all_cons, Bool.and_eq_true] at h
    have hc : c.toNat ≤ 57 := by have := h.1; simp [digitB, isDigit] at this; omega
    have := ih (10 * a + (c.toNat - 48)) (10 * b) h.2 (by omega)
    rw [Nat.pow_succ, Nat.mul_comm (10 ^ l.length) 10, ← Nat.mul_assoc, Nat.mul_comm b 10]
    exact this
theorem valS_lt (l : List UInt8) (h : l.all digitB = true) : valS l < 10 ^ l.length := by
  have := foldl_lt l 0 1 h (by omega)
  simpa [valS] using this
theorem numS_long (l : List UInt8) (h : 19 < l.length) : numS l = none := by
  unfold numS
  rw [if_neg]
  rintro ⟨h1, h2, h3⟩
  cases l with
  | nil => simp at h
  | cons c l =>
    have hc : c ≠ 48 := by
      rcases h2 with h2 | h2
      · omega
      · simpa using h2
    simp only [List.all_cons, Bool.and_eq_true] at h1
    have hc2 : 49 ≤ c.toNat := by
      have h4 := h1.1
      simp [digitB, isDigit] at h4
      have : c.toNat ≠ 48 := fun e => hc (UInt8.toNat_inj.1 e)
      omega
    have h5 := foldl_ge l (10 * 0 + (c.toNat - 48))
    have h6 : valS (c :: l) = l.foldl (fun a c => 10 * a + (c.toNat - 48)) (10 * 0 + (c.toNat - 48)) := rfl
    rw [← h6] at h5
    have h7 : 10 ^ 19 ≤ 10 ^ l.length := Nat.pow_le_pow_right (by omega) (by simp at h; omega)
    have h8 : 1 * 10 ^ l.length ≤ (10 * 0 + (c.toNat - 48)) * 10 ^ l.length := Nat.mul_le_mul_right _ (by omega)
    have h9 : (10 : Nat) ^ 19 = 10000000000000000000 := by decide
    omega
theorem numS_zero {c : UInt8} {l : List UInt8} (h : c.toNat = 48) (hl : l ≠ []) : numS (c :: l) = none := by
  unfold numS
  rw [if_neg]
  rintro ⟨h1, h2, h3⟩
  have : c = 48 := UInt8.toNat_inj.1 h
  subst this
  cases l with
  | nil => exact hl rfl
  | cons a l => simp at h2
theorem numS_bad {l : List UInt8} {c : UInt8} (hc : c ∈ l) (h : isDigit c.toNat = false) : numS l = none := by
  unfold numS
  rw [if_neg]
  rintro ⟨h1, -, -⟩
  rw [List.all_eq_true] at h1
  have := h1 c hc
  simp [digitB, h] at this
theorem sB_mem (s : ByteArray) (k : Nat) (h : k < s.size) : sB s k ∈ s.data.toList := by
  have h' : k < s.data.toList.length := by rw [data_len]; exact h
  have e : sB s k = s.data.toList[k] := by simp [sB, List.getD_eq_getElem?_getD, List.getElem?_eq_getElem h']
  rw [e]; exact List.getElem_mem _
theorem sB_take (s : ByteArray) (k : Nat) (h : k < s.size) : s.data.toList.take (k + 1) = s.data.toList.take k ++ [sB s k] := by
  have h' : k < s.data.toList.length := by rw [data_len]; exact h
  have e : sB s k = s.data.toList[k] := by simp [sB, List.getD_eq_getElem?_getD, List.getElem?_eq_getElem h']
  rw [List.take_succ_eq_append_getElem h', e]

theorem numS_eq (s : ByteArray) (h : s.data.toList.all digitB = true) (hz : ¬ (1 < s.size ∧ (sB s 0).toNat = 48)) : numS s.data.toList = if valS s.data.toList < 9223372036854775808 then some (valS s.data.toList) else none := by
  have h2 : s.data.toList.length ≤ 1 ∨ s.data.toList.headD 0 ≠ 48 := by
    rw [data_len]
    by_cases h1 : 1 < s.size
    · right
      intro e
      apply hz
      refine ⟨h1, ?_⟩
      have hd := sB_drop s 0 (by omega)
      rw [List.drop_zero] at hd
      rw [hd] at e
      simp only [List.headD_cons] at e
      rw [e]; rfl
    · left; omega
  unfold numS
  by_cases hv : valS s.data.toList < 9223372036854775808
  · rw [if_pos ⟨h, h2, hv⟩, if_pos hv]
  · rw [if_neg (fun hh => hv hh.2.2), if_neg hv]
set_option maxHeartbeats 1000000 in
theorem ref_number (s : ByteArray) (w : World) (hs : s.size ≤ 1048576) :
    Calls Tryd.prog 76 #[.string s] w fun e w' => (∃ v : Int, e = .returned (.tuple #[.int .i64 v, .bool (numS s.data.toList).isSome]) ∧ ∀ u, numS s.data.toList = some u → v = (u : Int)) ∧ w = w' := by
  by_cases h19 : 19 < s.size
  · have H := Lib.hid (numS_long s.data.toList (by rw [data_len]; exact h19))
    go_enter Tryd.func76, Tryd.ntmps76
    go_wp2
    go_ret2
    rw [H.out]
    exact ⟨⟨0, rfl, by simp⟩, rfl⟩
  by_cases hz : 1 < s.size ∧ (sB s 0).toNat = 48
  · have H : Hid (numS s.data.toList = none) := by
      show numS s.data.toList = none
      have hd := sB_drop s 0 (by omega)
      rw [List.drop_zero] at hd
      rw [hd]
      refine numS_zero hz.2 ?_
      rw [sB_drop s 1 hz.1]; simp
    have hix := sB_lit s 0 0 rfl (by omega)
    obtain ⟨hz1, hz2⟩ := hz
    rw [hz2] at hix
    go_enter Tryd.func76, Tryd.ntmps76
    go_wp2
    go_ret2
    rw [H.out]
    exact ⟨⟨0, rfl, by simp⟩, rfl⟩
  have hx : (1 < s.size ∧ (∀ W : World, (Instr.index 9 (.string s) (.int .i64 0)).run Tryd.prog W = .ok (.int .u8 (sB s 0).toNat) W) ∧ (((sB s 0).toNat : Int) == 48) = false) ∨ ¬ 1 < s.size := by
    by_cases h : 1 < s.size
    · exact .inl ⟨h, sB_lit s 0 0 rfl (by omega), by simp; omega⟩
    · exact .inr h
  have Hz := Lib.hid hz
  clear hz
  go_enter Tryd.func76, Tryd.ntmps76
  rcases hx with ⟨h1, hix1, hne1⟩ | h1
  all_goals go_wp2
  all_goals (go_loop [4, 5] (fun v i => ∃ k : Nat, k ≤ s.size ∧ i = .int .i64 k ∧ v = .int .u64 (valS (s.data.toList.take k) : Nat) ∧ (s.data.toList.take k).all digitB = true) (fun _ i => s.size - (intOf i).toNat))
  case atStart => exact ⟨0, Nat.zero_le _, rfl, rfl, rfl⟩
  case atStart => exact ⟨0, Nat.zero_le _, rfl, rfl, rfl⟩
  all_goals (
    obtain ⟨k, hk, rfl, rfl, hall⟩ := hrel
    have hlt := valS_lt _ hall
    have hpw : 10 ^ (s.data.toList.take k).length ≤ 10 ^ 19 := Nat.pow_le_pow_right (by omega) (by rw [List.length_take, data_len]; omega)
    have hpw' : (10 : Nat) ^ 19 = 10000000000000000000 := by decide
    have hm : valS (s.data.toList.take k) < 10000000000000000000 := by omega
    by_cases hks : k < s.size
    · have hix := sB_index s k hks
      have htk := sB_take s k hks
      have hmem := sB_mem s k hks
      have hpw2 : 10 ^ (s.data.toList.take k).length ≤ 10 ^ 18 := Nat.pow_le_pow_right (by omega) (by rw [List.length_take, data_len]; omega)
      have hpw2' : (10 : Nat) ^ 18 = 1000000000000000000 := by decide
      have hm2 : valS (s.data.toList.take k) < 1000000000000000000 := by omega
      generalize sB s k = c at hix htk hmem
      have hc : c.toNat < 256 := c.toNat_lt
      have hvs : valS (s.data.toList.take (k + 1)) = 10 * valS (s.data.toList.take k) + (c.toNat - 48) := by rw [htk, valS_snoc]
      have hal2 : isDigit c.toNat = true → (s.data.toList.take (k + 1)).all digitB = true := fun h => by rw [htk, List.all_append, hall]; simp [digitB, h]
      have Hvs := Lib.hid hvs
      have Hal := Lib.hid hal2
      have Hall := Lib.hid hall
      have Hmem := Lib.hid hmem
      clear hlt hpw hpw' hpw2 hpw2' htk hvs hal2 hall hmem
      by_cases hdg : isDigit c.toNat = true
      · have hd2 : 48 ≤ c.toNat ∧ c.toNat ≤ 57 := by simp [isDigit] at hdg; omega
        generalize valS (s.data.toList.take k) = m at *
        go_wp2_with (go_at_call 73; refine (ref_digit _ _).mono ?_; rintro e w' ⟨rfl, rfl⟩)
        exact ⟨⟨k + 1, by omega, by go_num, congrArg (Value.int .u64) (by rw [Hvs.out]; omega), Hal.out hdg⟩, by simp [intOf]; omega⟩
      · have hdf : isDigit c.toNat = false := by simpa using hdg
        have hn := numS_bad Hmem.out hdf
        have Hn := Lib.hid hn
        clear hn
        go_wp2_with (go_at_call 73; refine (ref_digit _ _).mono ?_; rintro e w' ⟨rfl, rfl⟩)
        go_ret2
        rw [Hn.out]
        exact ⟨⟨0, rfl, by simp⟩, rfl⟩
    · have e : s.data.toList.take k = s.data.toList := List.take_of_length_le (by rw [data_len]; omega)
      rw [e] at hall hm ⊢
      have Hall := Lib.hid hall
      clear hlt hpw hpw' hall e
      have H : Hid (numS s.data.toList = if valS s.data.toList < 9223372036854775808 then some (valS s.data.toList) else none) := by
        exact numS_eq s Hall.out Hz.out
      generalize valS s.data.toList = m at *
      go_wp2
      go_ret2
      refine ⟨⟨wrap64 (m : Int), ?_, ?_⟩, rfl⟩
      · rw [H.out]
        by_cases hv : m < 9223372036854775808
        · have e1 : decide ((m : Int) ≤ 9223372036854775807) = true := by simp; omega
          rw [if_pos hv]
          simp [e1]
        · have e1 : decide ((m : Int) ≤ 9223372036854775807) = false := by simp; omega
          rw [if_neg hv]
          simp [e1]
      · intro u hu
        rw [H.out] at hu
        split at hu
        · injection hu with hu
          rw [← hu]
          unfold wrap64
          omega
        · cases hu)
end Go.Proofs.YtgnoiliaidfepaaDoor
