/- Contracts of the lexer's smallest functions (letters, digits, keywords): for every byte, every rune, every text. -/
import Derived.Test.YthlfeiiolafonaaDoorProg
import Derived.Test.YthlfeiiolafonaaDoorLexSpec
import Derived.WalkKit
import Derived.WalkSpells
import Derived.WalkLawsBesides
import Derived.Lib.Hide
import Derived.Deep.RegionHeld3
set_option linter.unusedVariables false
set_option linter.unusedSimpArgs false
namespace Go.Proofs.YthlfeiiolafonaaDoor
open Go.RowKit

theorem ret_bool {a b : Bool} (h : a = b) : Ending.returned (.bool a) = .returned (.bool b) := by rw [h]
theorem ret_int {k : IntKind} {a b : Int} (h : a = b) : Ending.returned (.int k a) = .returned (.int k b) := by rw [h]

theorem lex_digit (c : Nat) (w : World) :
    Calls Tryd.prog 57 #[.int .i32 c] w fun e w' => e = .returned (.bool (isDigit c)) ∧ w = w' := by
  go_enter Tryd.func57, Tryd.ntmps57
  go_wp2
  all_goals go_ret
  all_goals (refine ⟨ret_bool ?_, rfl⟩; rw [Bool.eq_iff_iff]; simp [isDigit]; omega)

theorem lex_letter (c : Nat) (w : World) :
    Calls Tryd.prog 75 #[.int .i32 c] w fun e w' => e = .returned (.bool (isLetter c)) ∧ w = w' := by
  go_enter Tryd.func75, Tryd.ntmps75
  go_wp2
  all_goals go_ret
  all_goals (refine ⟨ret_bool ?_, rfl⟩; rw [Bool.eq_iff_iff]; simp [isLetter]; omega)

theorem lex_keyword (s : ByteArray) (w : World) :
    Calls Tryd.prog 59 #[.string s] w fun e w' => e = .returned (.bool (isKeyword s.data.toList)) ∧ w = w' := by
  go_enter Tryd.func59, Tryd.ntmps59
  go_wp2
  all_goals go_ret
  all_goals (refine ⟨ret_bool ?_, rfl⟩; simp only [ByteArray.toList_eq] at *; simp_all [isKeyword, kwords])

/-- a list of strings that is read: nil, empty and others alike -/
def sAt (xs : List ByteArray) (k : Nat) : ByteArray := xs.getD k ⟨#[]⟩
def Strs (w : World) (A : Option Addr) (n : Nat) (xs : List ByteArray) : Prop :=
  xs.length = n ∧ ∀ j, j < n → ∃ ad, A = some ad ∧ w.cell? (ad.add j) = some (.string (sAt xs j))
theorem Strs.at_ {w : World} {A : Option Addr} {n : Nat} {xs : List ByteArray} (h : Strs w A n xs) (j : Nat) (hj : j < n) :
    ∃ ad, A = some ad ∧ w.cell? (ad.add j) = some (.string (sAt xs j)) := h.2 j hj

theorem Strs.below {w w1 : World} {A : Option Addr} {n : Nat} {xs : List ByteArray} (h : Strs w A n xs) (hb : Below w.heap.size w w1) (j : Nat) (hj : j < n) :
    ∃ ad, A = some ad ∧ w1.cell? (ad.add j) = some (.string (sAt xs j)) := by
  obtain ⟨ad, e, hc⟩ := h.2 j hj
  exact ⟨ad, e, (hb.cell (World.block_lt_of_cell? w _ hc)).trans hc⟩
theorem sAt_size {w : World} {A : Option Addr} {n : Nat} {xs : List ByteArray} {m : Nat} (h : Strs w A n xs) (hz : ∀ x ∈ xs, x.size ≤ m) (k : Nat) (hk : k < n) : (sAt xs k).size ≤ m := by
  have hl := h.1
  have e : sAt xs k = xs[k] := by simp [sAt, List.getElem?_eq_getElem (show k < xs.length by omega)]
  rw [e]
  exact hz _ (List.getElem_mem _)
def inStrs (xs : List ByteArray) (s : ByteArray) (k : Nat) : Bool := (xs.take k).any fun x => x.toList == s.toList
theorem inStrs_zero (xs : List ByteArray) (s : ByteArray) : inStrs xs s 0 = false := by simp [inStrs]
theorem inStrs_succ (xs : List ByteArray) (s : ByteArray) (k : Nat) (hk : k < xs.length) : inStrs xs s (k + 1) = (inStrs xs s k || ((sAt xs k).toList == s.toList)) := by
  have e : sAt xs k = xs[k] := by simp [sAt, List.getElem?_eq_getElem hk]
  simp only [inStrs, List.take_add_one, List.getElem?_eq_getElem hk, e, List.any_append, Option.toList_some, List.any_cons, List.any_nil, Bool.or_false]
theorem inStrs_hit (xs : List ByteArray) (s : ByteArray) (k n : Nat) (hk : k < n) (hn : xs.length = n) (h : ((sAt xs k).toList == s.toList) = true) : inStrs xs s n = true := by
  unfold inStrs
  rw [List.take_of_length_le (by omega), List.any_eq_true]
  refine ⟨xs[k], List.getElem_mem _, ?_⟩
  have e : sAt xs k = xs[k] := by simp [sAt, List.getElem?_eq_getElem (show k < xs.length by omega)]
  rw [← e]
  exact h

theorem add_zero_off (g j : Nat) : (⟨g, 0, none⟩ : Addr).add j = ⟨g, j, none⟩ := by unfold Addr.add; split <;> simp_all
theorem strs_lit (w : World) (e : TypeId) (xs : List ByteArray) : Strs (w.alloc (.cells (xs.map Value.string).toArray e)) (some ⟨w.heap.size, 0, none⟩) xs.length xs := by
  refine ⟨rfl, fun j hj => ⟨_, rfl, ?_⟩⟩
  rw [add_zero_off, World.cell?_alloc_at _ _ _ _ rfl]
  simp [sAt, List.getElem?_eq_getElem hj]
def kwStrs : List ByteArray := [⟨#[102, 110]⟩, ⟨#[101, 120, 112, 111, 114, 116]⟩, ⟨#[108, 101, 116]⟩, ⟨#[105, 102]⟩, ⟨#[101, 108, 115, 101]⟩, ⟨#[119, 104, 105, 108, 101]⟩, ⟨#[114, 101, 116, 117, 114, 110]⟩, ⟨#[98, 114, 101, 97, 107]⟩, ⟨#[99, 111, 110, 116, 105, 110, 117, 101]⟩, ⟨#[116, 114, 117, 101]⟩, ⟨#[102, 97, 108, 115, 101]⟩, ⟨#[117, 110, 105, 116]⟩]
theorem kw_in (s : ByteArray) : inStrs kwStrs s 12 = isKeyword s.data.toList := by
  have e : kwords = kwStrs.map fun x => x.data.toList := rfl
  rw [isKeyword, e, inStrs, Bool.eq_iff_iff, List.take_of_length_le (by decide), List.any_eq_true, List.contains_iff_mem, List.mem_map]
  simp only [beq_iff_eq, ByteArray.toList_eq]
theorem decode_word (s : ByteArray) (pos : Nat) (h : pos < s.size) :
    (isLetter (Utf8.decode s pos).1 || isDigit (Utf8.decode s pos).1) = isWord (s.data.toList[pos]'(by rw [Array.length_toList]; exact h)) ∧ (isWord (s.data.toList[pos]'(by rw [Array.length_toList]; exact h)) = true → (Utf8.decode s pos).2 = 1) := by
  have e : s.data.toList[pos]'(by rw [Array.length_toList]; exact h) = s[pos]'h := by simp; rfl
  rw [e]
  by_cases ha : (s[pos]'h).toNat < 128
  · rw [decode_ascii s pos h ha]
    exact ⟨rfl, fun _ => rfl⟩
  · have hd := decode_high s pos h (by omega)
    have hf : isWord (s[pos]'h) = false := by
      rw [Bool.eq_false_iff]; simp [isWord, isLetter, isDigit]; omega
    rw [hf]
    refine ⟨?_, by simp⟩
    rw [Bool.eq_false_iff]; simp [isLetter, isDigit]; omega

theorem below_iter (w : World) (s : ByteArray) (pos : Nat) : Below w.heap.size w (w.iter s pos) := (Below.refl _ _).alloc (Nat.le_refl _) _

/-- lex.word: it ranges over the runes; what stops it is no ASCII letter or digit -/
theorem lex_word (s : ByteArray) (w : World) (hs : s.size ≤ 9223372036854775807) :
    Calls Tryd.prog 58 #[.string s] w fun e w' => e = .returned (.string (s.extract 0 (wordLen s.data.toList))) ∧ Below w.heap.size w w' := by
  go_enter Tryd.func58, Tryd.ntmps58
  go_wp2
  go_loopw [3, 4] (fun v3 v4 w' => ∃ pos : Nat, w' = w.iter s pos ∧ pos ≤ s.size ∧ pos ≤ wordLen s.data.toList) (fun _ _ w' => s.size - w'.iterPos w.heap.size)
  case atStart => exact ⟨0, rfl, by omega, by omega⟩
  case round =>
    obtain ⟨pos, rfl, hp, hw⟩ := hrel
    by_cases hlt : pos < s.size
    · have hd := decode_word s pos hlt
      have hs1 := wordLen_step s.data.toList pos hw (by rw [Array.length_toList]; exact hlt)
      have Hd := Lib.hid hd
      have Hs1 := Lib.hid hs1
      clear hd hs1
      have hnx := fun ty => run_next_any (P := Tryd.prog) w s pos ty hlt
      go_wp2_with (first | (go_at_call 75; refine (lex_letter _ _).mono ?_; rintro e w' ⟨rfl, rfl⟩) | (go_at_call 57; refine (lex_digit _ _).mono ?_; rintro e w' ⟨rfl, rfl⟩))
      all_goals (have hd := Hd.out; have hs1 := Hs1.out)
      · have h : isLetter (Utf8.decode s pos).fst = true := by assumption
        have h1 := hd.2 (by rw [← hd.1, h]; rfl)
        have h2 := hs1.1 (by rw [← hd.1, h]; rfl)
        exact ⟨⟨pos + 1, by rw [h1], by omega, by omega⟩, by rw [h1]; simp; omega⟩
      · have h : ¬ isLetter (Utf8.decode s pos).fst = true := by assumption
        have h' : (!isDigit (Utf8.decode s pos).fst) = true := by assumption
        have h1 := hs1.2 (by rw [← hd.1]; simp at h h'; rw [h, h']; rfl)
        go_ret
        exact ⟨by rw [h1]; rfl, below_iter _ _ _⟩
      · have h : (!isDigit (Utf8.decode s pos).fst) = false := by assumption
        have h1 := hd.2 (by rw [← hd.1]; simp at h; rw [h]; simp)
        have h2 := hs1.1 (by rw [← hd.1]; simp at h; rw [h]; simp)
        exact ⟨⟨pos + 1, by rw [h1], by omega, by omega⟩, by rw [h1]; simp; omega⟩
    · have hnx := fun ty => run_next_end (P := Tryd.prog) w s pos ty hlt
      go_wp2
      go_ret
      have hl := wordLen_le s.data.toList
      rw [Array.length_toList] at hl
      have e : wordLen s.data.toList = s.size := by
        have : s.size = s.data.size := rfl
        omega
      exact ⟨by rw [e]; simp, below_iter _ _ _⟩
theorem data_len (s : ByteArray) : s.data.toList.length = s.size := by rw [Array.length_toList]; rfl
def sB (s : ByteArray) (k : Nat) : UInt8 := s.data.toList.getD k 0
theorem data_at (s : ByteArray) (i : Nat) (h : i < s.size) : s.data.toList[i]'(by rw [data_len]; exact h) = s[i]'h := by simp; rfl
end Go.Proofs.YthlfeiiolafonaaDoor
