/- Contracts of lex.IsName and the reference's. -/
import Derived.Test.YthlfeiiolafonaaDoorLexLeaf
set_option linter.unusedVariables false
set_option linter.unusedSimpArgs false
namespace Go.Proofs.YthlfeiiolafonaaDoor
open Go.RowKit

theorem isName1 (s : ByteArray) (w : World) (hs : s.size ≤ 9223372036854775807) (hpos : 0 < s.size) (hne : s.toList ≠ []) (h1 : isDigit (s[0]'hpos).toNat = true) :
    Calls Tryd.prog 40 #[.string s] w fun e w' => e = .returned (.bool false) ∧ Below w.heap.size w w' := by
  have hb : (s[0]'hpos).toNat < 256 := (s[0]'hpos).toNat_lt
  have he : s.toList.isEmpty = false := by simpa using hne
  clear hne
  go_enter Tryd.func40, Tryd.ntmps40
  go_wp2_with (first
    | (go_at_call 57; refine (lex_digit _ _).mono ?_; rintro e w' ⟨rfl, rfl⟩)
    | (go_at_call 58; refine (lex_word _ _ hs).mono ?_; rintro e w1 ⟨rfl, hb1⟩)
    | (go_at_call 59; refine (lex_keyword _ _).mono ?_; rintro e w' ⟨rfl, rfl⟩))
  go_ret
  exact ⟨rfl, by first | exact Below.refl _ _ | exact hb1⟩

theorem isName2 (s : ByteArray) (w : World) (hs : s.size ≤ 9223372036854775807) (hpos : 0 < s.size) (hne : s.toList ≠ []) (h1 : isDigit (s[0]'hpos).toNat = false) (h2 : 20 < s.size) :
    Calls Tryd.prog 40 #[.string s] w fun e w' => e = .returned (.bool false) ∧ Below w.heap.size w w' := by
  have hb : (s[0]'hpos).toNat < 256 := (s[0]'hpos).toNat_lt
  have he : s.toList.isEmpty = false := by simpa using hne
  clear hne
  go_enter Tryd.func40, Tryd.ntmps40
  go_wp2_with (first
    | (go_at_call 57; refine (lex_digit _ _).mono ?_; rintro e w' ⟨rfl, rfl⟩)
    | (go_at_call 58; refine (lex_word _ _ hs).mono ?_; rintro e w1 ⟨rfl, hb1⟩)
    | (go_at_call 59; refine (lex_keyword _ _).mono ?_; rintro e w' ⟨rfl, rfl⟩))
  go_ret
  exact ⟨rfl, by first | exact Below.refl _ _ | exact hb1⟩

theorem isName3 (s : ByteArray) (w : World) (hs : s.size ≤ 9223372036854775807) (hpos : 0 < s.size) (hne : s.toList ≠ []) (h1 : isDigit (s[0]'hpos).toNat = false) (h2 : s.size ≤ 20) (h3 : ((s.extract 0 (wordLen s.data.toList)).toList == s.toList) = false) :
    Calls Tryd.prog 40 #[.string s] w fun e w' => e = .returned (.bool false) ∧ Below w.heap.size w w' := by
  have hb : (s[0]'hpos).toNat < 256 := (s[0]'hpos).toNat_lt
  have he : s.toList.isEmpty = false := by simpa using hne
  clear hne
  go_enter Tryd.func40, Tryd.ntmps40
  go_wp2_with (first
    | (go_at_call 57; refine (lex_digit _ _).mono ?_; rintro e w' ⟨rfl, rfl⟩)
    | (go_at_call 58; refine (lex_word _ _ hs).mono ?_; rintro e w1 ⟨rfl, hb1⟩)
    | (go_at_call 59; refine (lex_keyword _ _).mono ?_; rintro e w' ⟨rfl, rfl⟩))
  go_ret
  exact ⟨rfl, by first | exact Below.refl _ _ | exact hb1⟩

theorem isName4 (s : ByteArray) (w : World) (hs : s.size ≤ 9223372036854775807) (hpos : 0 < s.size) (hne : s.toList ≠ []) (h1 : isDigit (s[0]'hpos).toNat = false) (h2 : s.size ≤ 20) (h3 : ((s.extract 0 (wordLen s.data.toList)).toList == s.toList) = true) :
    Calls Tryd.prog 40 #[.string s] w fun e w' => e = .returned (.bool (!isKeyword s.data.toList)) ∧ Below w.heap.size w w' := by
  have hb : (s[0]'hpos).toNat < 256 := (s[0]'hpos).toNat_lt
  have he : s.toList.isEmpty = false := by simpa using hne
  clear hne
  go_enter Tryd.func40, Tryd.ntmps40
  go_wp2_with (first
    | (go_at_call 57; refine (lex_digit _ _).mono ?_; rintro e w' ⟨rfl, rfl⟩)
    | (go_at_call 58; refine (lex_word _ _ hs).mono ?_; rintro e w1 ⟨rfl, hb1⟩)
    | (go_at_call 59; refine (lex_keyword _ _).mono ?_; rintro e w' ⟨rfl, rfl⟩))
  go_ret
  exact ⟨rfl, by first | exact Below.refl _ _ | exact hb1⟩

theorem empty_of_size (s : ByteArray) (h0 : s.size = 0) : s = ⟨#[]⟩ := by
  have : s.data = #[] := Array.eq_empty_of_size_eq_zero h0
  cases s
  simp_all
theorem headD_get (l : List UInt8) (h : 0 < l.length) : l.headD 0 = l[0] := by
  cases l with
  | nil => simp at h
  | cons a l => rfl
theorem isName_parts (s : ByteArray) (hpos : 0 < s.size) :
    isNameB s.data.toList = (!isDigit (s[0]'hpos).toNat && (decide (s.size ≤ 20) && (decide (wordLen s.data.toList = s.size) && !isKeyword s.data.toList))) ∧
    isNameB s.data.toList = (decide (s.size ≤ 20) && (isLetter (s[0]'hpos).toNat && (decide (wordLen s.data.toList = s.size) && !isKeyword s.data.toList))) ∧
    ((s.extract 0 (wordLen s.data.toList)).toList == s.toList) = decide (wordLen s.data.toList = s.size) ∧ s.toList ≠ [] := by
  have hw := wordLen_le s.data.toList
  have hh : s.data.toList.headD 0 = s[0]'hpos := by
    have h := data_at s 0 hpos
    rw [← h]
    exact headD_get _ _
  have hword : isWord (s.data.toList.headD 0) = false → wordLen s.data.toList = 0 := by
    intro h
    cases e : s.data.toList with
    | nil => rfl
    | cons a l =>
      rw [e] at h
      simp at h
      simp [wordLen, h]
  refine ⟨?_, ?_, ?_, ?_⟩
  · unfold isNameB
    rw [data_len, hh, Bool.eq_iff_iff]
    simp only [Bool.and_eq_true, decide_eq_true_eq, Bool.not_eq_true']
    constructor
    · rintro ⟨h1, h2, h3, h4, h5⟩
      exact ⟨by simp [isLetter] at h3; rw [Bool.eq_false_iff]; simp [isDigit]; omega, h2, h4, h5⟩
    · rintro ⟨h3, h2, h4, h5⟩
      refine ⟨by omega, h2, ?_, h4, h5⟩
      by_cases hl : isLetter (s[0]'hpos).toNat = true
      · exact hl
      · have := hword (by rw [hh, isWord, h3]; simpa using hl)
        omega
  · unfold isNameB
    rw [data_len, hh]
    simp [show 1 ≤ s.size by omega]
  · rw [data_len] at hw
    have e : (s.extract 0 (wordLen s.data.toList)).toList = s.data.toList.take (wordLen s.data.toList) := by
      rw [ByteArray.toList_eq]; simp [ByteArray.data_extract]
    rw [Bool.eq_iff_iff, beq_iff_eq, decide_eq_true_eq, e, ByteArray.toList_eq]
    constructor
    · intro h
      have := congrArg List.length h
      rw [List.length_take, data_len] at this
      omega
    · intro h
      rw [h, List.take_of_length_le (by rw [data_len]; omega)]
  · rw [ByteArray.toList_eq]
    intro h
    rw [← data_len, h] at hpos
    simp at hpos

theorem lex_IsName (s : ByteArray) (w : World) (hs : s.size ≤ 9223372036854775807) :
    Calls Tryd.prog 40 #[.string s] w fun e w' => e = .returned (.bool (isNameB s.data.toList)) ∧ Below w.heap.size w w' := by
  by_cases h0 : s.size = 0
  · obtain rfl := empty_of_size s h0
    go_enter Tryd.func40, Tryd.ntmps40
    go_wp2
    go_ret
    exact ⟨rfl, Below.refl _ _⟩
  · have hpos : 0 < s.size := by omega
    obtain ⟨hi, _, heq, hne⟩ := isName_parts s hpos
    rw [hi]
    cases h1 : isDigit (s[0]'hpos).toNat with
    | true => exact isName1 s w hs hpos hne h1
    | false =>
      by_cases h2 : s.size ≤ 20
      · by_cases h3 : wordLen s.data.toList = s.size
        · have := isName4 s w hs hpos hne h1 h2 (by rw [heq, h3]; simp)
          simpa [h2, h3] using this
        · have := isName3 s w hs hpos hne h1 h2 (by rw [heq]; simpa using h3)
          simpa [h2, h3] using this
      · have := isName2 s w hs hpos hne h1 (by omega)
        simpa [h2] using this

end Go.Proofs.YthlfeiiolafonaaDoor
