/- Contracts of lex.IsName and the reference's. -/
import Derived.Test.YthlfeiiolafonaaGreatDoorLexLeaf
set_option linter.unusedVariables false
set_option linter.unusedSimpArgs false
namespace Go.Proofs.YthlfeiiolafonaaGreatDoor
open Go.RowKit

theorem isName1 (s : ByteArray) (w : World) (hs : s.size ≤ 9223372036854775807) (hpos : 0 < s.size) (hne : s.toList ≠ []) (h1 : isDigit (s[0]'hpos).toNat = true) :
    Calls Tryz.prog 44 #[.string s] w fun e w' => e = .returned (.bool false) ∧ Below w.heap.size w w' := by
  have hb : (s[0]'hpos).toNat < 256 := (s[0]'hpos).toNat_lt
  have he : s.toList.isEmpty = false := by simpa using hne
  clear hne
  go_enter Tryz.func44, Tryz.ntmps44
  go_wp2_with (first
    | (go_at_call 79; refine (lex_digit _ _).mono ?_; rintro e w' ⟨rfl, rfl⟩)
    | (go_at_call 80; refine (lex_word _ _ hs).mono ?_; rintro e w1 ⟨rfl, hb1⟩)
    | (go_at_call 81; refine (lex_keyword _ _).mono ?_; rintro e w' ⟨rfl, rfl⟩))
  go_ret
  exact ⟨rfl, by first | exact Below.refl _ _ | exact hb1⟩

theorem isName2 (s : ByteArray) (w : World) (hs : s.size ≤ 9223372036854775807) (hpos : 0 < s.size) (hne : s.toList ≠ []) (h1 : isDigit (s[0]'hpos).toNat = false) (h2 : 20 < s.size) :
    Calls Tryz.prog 44 #[.string s] w fun e w' => e = .returned (.bool false) ∧ Below w.heap.size w w' := by
  have hb : (s[0]'hpos).toNat < 256 := (s[0]'hpos).toNat_lt
  have he : s.toList.isEmpty = false := by simpa using hne
  clear hne
  go_enter Tryz.func44, Tryz.ntmps44
  go_wp2_with (first
    | (go_at_call 79; refine (lex_digit _ _).mono ?_; rintro e w' ⟨rfl, rfl⟩)
    | (go_at_call 80; refine (lex_word _ _ hs).mono ?_; rintro e w1 ⟨rfl, hb1⟩)
    | (go_at_call 81; refine (lex_keyword _ _).mono ?_; rintro e w' ⟨rfl, rfl⟩))
  go_ret
  exact ⟨rfl, by first | exact Below.refl _ _ | exact hb1⟩

theorem isName3 (s : ByteArray) (w : World) (hs : s.size ≤ 9223372036854775807) (hpos : 0 < s.size) (hne : s.toList ≠ []) (h1 : isDigit (s[0]'hpos).toNat = false) (h2 : s.size ≤ 20) (h3 : ((s.extract 0 (wordLen s.data.toList)).toList == s.toList) = false) :
    Calls Tryz.prog 44 #[.string s] w fun e w' => e = .returned (.bool false) ∧ Below w.heap.size w w' := by
  have hb : (s[0]'hpos).toNat < 256 := (s[0]'hpos).toNat_lt
  have he : s.toList.isEmpty = false := by simpa using hne
  clear hne
  go_enter Tryz.func44, Tryz.ntmps44
  go_wp2_with (first
    | (go_at_call 79; refine (lex_digit _ _).mono ?_; rintro e w' ⟨rfl, rfl⟩)
    | (go_at_call 80; refine (lex_word _ _ hs).mono ?_; rintro e w1 ⟨rfl, hb1⟩)
    | (go_at_call 81; refine (lex_keyword _ _).mono ?_; rintro e w' ⟨rfl, rfl⟩))
  go_ret
  exact ⟨rfl, by first | exact Below.refl _ _ | exact hb1⟩

theorem isName4 (s : ByteArray) (w : World) (hs : s.size ≤ 9223372036854775807) (hpos : 0 < s.size) (hne : s.toList ≠ []) (h1 : isDigit (s[0]'hpos).toNat = false) (h2 : s.size ≤ 20) (h3 : ((s.extract 0 (wordLen s.data.toList)).toList == s.toList) = true) :
    Calls Tryz.prog 44 #[.string s] w fun e w' => e = .returned (.bool (!isKeyword s.data.toList)) ∧ Below w.heap.size w w' := by
  have hb : (s[0]'hpos).toNat < 256 := (s[0]'hpos).toNat_lt
  have he : s.toList.isEmpty = false := by simpa using hne
  clear hne
  go_enter Tryz.func44, Tryz.ntmps44
  go_wp2_with (first
    | (go_at_call 79; refine (lex_digit _ _).mono ?_; rintro e w' ⟨rfl, rfl⟩)
    | (go_at_call 80; refine (lex_word _ _ hs).mono ?_; rintro e w1 ⟨rfl, hb1⟩)
    | (go_at_call 81; refine (lex_keyword _ _).mono ?_; rintro e w' ⟨rfl, rfl⟩))
  go_ret
  exact ⟨rfl, by first | exact Below.refl _ _ | exact hb1⟩

theorem empty_of_size (s : ByteArray) (h0 : s.size = 0) : s = ⟨#[]⟩ := by
  have : s.data = #[] := Array.eq_empty_of_size_eq_zero h0
  cases s
  simp_all
theorem headD_get (l : List UInt8) (h : 0 < l.length) : l.headD 0 = l[0] := by
  cases l with
  | nil => simp at h
  | cons a l => rfl
theorem isName_parts (s : ByteArray) (hpos : 0 < s.size) :
    isNameB s.data.toList = (!isDigit (s[0]'hpos).toNat && (decide (s.size ≤ 20) && (decide (wordLen s.data.toList = s.size) && !isKeyword s.data.toList))) ∧
    isNameB s.data.toList = (decide (s.size ≤ 20) && (isLetter (s[0]'hpos).toNat && (decide (wordLen s.data.toList = s.size) && !isKeyword s.data.toList))) ∧
    ((s.extract 0 (wordLen s.data.toList)).toList == s.toList) = decide (wordLen s.data.toList = s.size) ∧ s.toList ≠ [] := by
  have hw := wordLen_le s.data.toList
  have hh : s.data.toList.headD 0 = s[0]'hpos := by
    have h := data_at s 0 hpos
    rw [← h]
    exact headD_get _ _
  have hword : isWord (s.data.toList.headD 0) = false → wordLen s.data.toList = 0 := by
    intro h
    cases e : s.data.toList with
    | nil => rfl
    | cons a l =>
      rw [e] at h
      simp at h
      simp [wordLen, h]
  refine ⟨?_, ?_, ?_, ?_⟩
  · unfold isNameB
    rw [data_len, hh, Bool.eq_iff_iff]
    simp only [Bool.and_eq_true, decide_eq_true_eq, Bool.not_eq_true']
    constructor
    · rintro ⟨h1, h2, h3, h4, h5⟩
      exact ⟨by simp [isLetter] at h3; rw [Bool.eq_false_iff]; simp [isDigit]; omega, h2, h4, h5⟩
    · rintro ⟨h3, h2, h4, h5⟩
      refine ⟨by omega, h2, ?_, h4, h5⟩
      by_cases hl : isLetter (s[0]'hpos).toNat = true
      · exact hl
      · have := hword (by rw [hh, isWord, h3]; simpa using hl)
        omega
  · unfold isNameB
    rw [data_len, hh]
    simp [show 1 ≤ s.size by omega]
  · rw [data_len] at hw
    have e : (s.extract 0 (wordLen s.data.toList)).toList = s.data.toList.take (wordLen s.data.toList) := by
      rw [ByteArray.toList_eq]; simp [ByteArray.data_extract]
    rw [Bool.eq_iff_iff, beq_iff_eq, decide_eq_true_eq, e, ByteArray.toList_eq]
    constructor
    · intro h
      have := congrArg List.length h
      rw [List.length_take, data_len] at this
      omega
    · intro h
      rw [h, List.take_of_length_le (by rw [data_len]; omega)]
  · rw [ByteArray.toList_eq]
    intro h
    rw [← data_len, h] at hpos
    simp at hpos

theorem lex_IsName (s : ByteArray) (w : World) (hs : s.size ≤ 9223372036854775807) :
    Calls Tryz.prog 44 #[.string s] w fun e w' => e = .returned (.bool (isNameB s.data.toList)) ∧ Below w.heap.size w w' := by
  by_cases h0 : s.size = 0
  · obtain rfl := empty_of_size s h0
    go_enter Tryz.func44, Tryz.ntmps44
    go_wp2
    go_ret
    exact ⟨rfl, Below.refl _ _⟩
  · have hpos : 0 < s.size := by omega
    obtain ⟨hi, _, heq, hne⟩ := isName_parts s hpos
    rw [hi]
    cases h1 : isDigit (s[0]'hpos).toNat with
    | true => exact isName1 s w hs hpos hne h1
    | false =>
      by_cases h2 : s.size ≤ 20
      · by_cases h3 : wordLen s.data.toList = s.size
        · have := isName4 s w hs hpos hne h1 h2 (by rw [heq, h3]; simp)
          simpa [h2, h3] using this
        · have := isName3 s w hs hpos hne h1 h2 (by rw [heq]; simpa using h3)
          simpa [h2, h3] using this
      · have := isName2 s w hs hpos hne h1 (by omega)
        simpa [h2] using this

theorem ref_word (s : ByteArray) (w : World) (hs : s.size ≤ 9223372036854775807) :
    Calls Tryz.prog 91 #[.string s, .int .i64 0] w fun e w' => e = .returned (.int .i64 (wordLen s.data.toList)) ∧ w = w' := by
  go_enter Tryz.func91, Tryz.ntmps91
  go_wp2
  go_loop [5] (fun i => ∃ k : Nat, k ≤ s.size ∧ i = .int .i64 k ∧ k ≤ wordLen s.data.toList) (fun i => s.size - (intOf i).toNat)
  case atStart => exact ⟨0, Nat.zero_le _, rfl, Nat.zero_le _⟩
  case round =>
    obtain ⟨k, hk, rfl, hr⟩ := hrel
    by_cases hlt : k < s.size
    · have hs1 := wordLen_step s.data.toList k hr (by rw [data_len]; exact hlt)
      rw [data_at s k hlt] at hs1
      have Hs1 := Lib.hid hs1
      clear hs1
      go_wp2_with (first
        | (go_at_call 90; refine (ref_letter _ _).mono ?_; rintro e w' ⟨rfl, rfl⟩)
        | (go_at_call 115; refine (ref_digit _ _).mono ?_; rintro e w' ⟨rfl, rfl⟩))
      all_goals (have hs1 := Hs1.out)
      · have h : isLetter (s[k]'hlt).toNat = true := by assumption
        have h2 := hs1.1 (by rw [isWord, h]; rfl)
        exact ⟨⟨k + 1, by omega, by go_num, h2⟩, by simp [intOf]; omega⟩
      · have h : ¬ isLetter (s[k]'hlt).toNat = true := by assumption
        have h' : (!isDigit (s[k]'hlt).toNat) = true := by assumption
        have h2 := hs1.2 (by simp at h h'; rw [isWord, h, h']; rfl)
        go_ret
        exact ⟨ret_int (by rw [h2]), rfl⟩
      · have h' : (!isDigit (s[k]'hlt).toNat) = false := by assumption
        have h2 := hs1.1 (by simp at h'; rw [isWord, h']; simp)
        exact ⟨⟨k + 1, by omega, by go_num, h2⟩, by simp [intOf]; omega⟩
    · go_wp2
      go_ret
      have hl := wordLen_le s.data.toList
      rw [data_len] at hl
      exact ⟨ret_int (by omega), rfl⟩

theorem refName1 (s : ByteArray) (w : World) (h : s.size < 1) :
    Calls Tryz.prog 55 #[.string s] w fun e w' => e = .returned (.bool false) ∧ Below w.heap.size w w' := by
  go_enter Tryz.func55, Tryz.ntmps55
  go_wp2
  go_ret
  exact ⟨rfl, Below.refl _ _⟩
theorem refName2 (s : ByteArray) (w : World) (h : 20 < s.size) :
    Calls Tryz.prog 55 #[.string s] w fun e w' => e = .returned (.bool false) ∧ Below w.heap.size w w' := by
  go_enter Tryz.func55, Tryz.ntmps55
  go_wp2
  go_ret
  exact ⟨rfl, Below.refl _ _⟩
theorem refName3 (s : ByteArray) (w : World) (hpos : 0 < s.size) (h2 : s.size ≤ 20) :
    Calls Tryz.prog 55 #[.string s] w fun e w' => e = .returned (.bool (isLetter (s[0]'hpos).toNat && (decide (wordLen s.data.toList = s.size) && !isKeyword s.data.toList))) ∧ Below w.heap.size w w' := by
  go_enter Tryz.func55, Tryz.ntmps55
  go_wp2_with (first
    | (go_at_call 90; refine (ref_letter _ _).mono ?_; rintro e w' ⟨rfl, rfl⟩)
    | (go_at_call 91; refine (ref_word _ _ (by omega)).mono ?_; rintro e w1 ⟨rfl, rfl⟩)
    | (go_at_call 93; refine (ref_Keywords _).mono ?_; rintro e w1 ⟨rfl, hb1, hk1⟩; have Hk := Lib.hid hk1; clear hk1)
    | (go_at_call 92; refine (ref_isIn _ _ _ _ _ _ Hk (by omega)).mono ?_; rintro e w1 ⟨rfl, rfl⟩))
  all_goals go_ret
  all_goals exact ⟨ret_bool (by (try rw [kw_in]); simp_all <;> omega), hb1⟩

theorem ref_IsName (s : ByteArray) (w : World) :
    Calls Tryz.prog 55 #[.string s] w fun e w' => e = .returned (.bool (isNameB s.data.toList)) ∧ Below w.heap.size w w' := by
  by_cases h0 : s.size = 0
  · obtain rfl := empty_of_size s h0
    exact refName1 _ w (by decide)
  · have hpos : 0 < s.size := by omega
    obtain ⟨_, hi, _⟩ := isName_parts s hpos
    rw [hi]
    by_cases h2 : s.size ≤ 20
    · have := refName3 s w hpos h2
      simpa [h2] using this
    · have := refName2 s w (by omega)
      simpa [h2] using this
end Go.Proofs.YthlfeiiolafonaaGreatDoor
