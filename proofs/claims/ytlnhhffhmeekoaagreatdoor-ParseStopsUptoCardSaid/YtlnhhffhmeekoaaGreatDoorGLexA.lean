/- Contracts of the lexer's smallest functions (letters, digits, keywords): for every byte, every rune, every text. Contracts of the lexer's smaller functions over a place in a text: a piece of a quoted text, a sign: lex.escaped, lex.sign; the reference's hex, piece, sign, blanks. Contracts of lex.quoted and of the reference's piece and quoted: both say quoS of what stands behind the quote. -/
import Derived.Test.YtlnhhffhmeekoaaGreatDoorProg
import Derived.Test.YtlnhhffhmeekoaaGreatDoorLexSpec
import Derived.WalkKit
import Derived.WalkSpells
import Derived.WalkLawsBesides
import Derived.Lib.Hide
import Derived.Deep.RegionHeld3
import Derived.Test.YtlnhhffhmeekoaaGreatDoorShelf
import Derived.Test.YtlnhhffhmeekoaaGreatDoorLexTokSpec
import Derived.Test.YtlnhhffhmeekoaaGreatDoorMem
set_option linter.unusedVariables false
set_option linter.unusedSimpArgs false
namespace Go.Proofs.YtlnhhffhmeekoaaGreatDoor
open Go.RowKit

theorem ret_bool {a b : Bool} (h : a = b) : Ending.returned (.bool a) = .returned (.bool b) := by rw [h]
theorem ret_int {k : IntKind} {a b : Int} (h : a = b) : Ending.returned (.int k a) = .returned (.int k b) := by rw [h]

theorem lex_digit (c : Nat) (w : World) :
    Calls Tryz.prog 82 #[.int .i32 c] w fun e w' => e = .returned (.bool (isDigit c)) ∧ w = w' := by
  go_enter Tryz.func82, Tryz.ntmps82
  go_wp2
  all_goals go_ret
  all_goals (refine ⟨ret_bool ?_, rfl⟩; rw [Bool.eq_iff_iff]; simp [isDigit]; omega)

theorem lex_letter (c : Nat) (w : World) :
    Calls Tryz.prog 80 #[.int .i32 c] w fun e w' => e = .returned (.bool (isLetter c)) ∧ w = w' := by
  go_enter Tryz.func80, Tryz.ntmps80
  go_wp2
  all_goals go_ret
  all_goals (refine ⟨ret_bool ?_, rfl⟩; rw [Bool.eq_iff_iff]; simp [isLetter]; omega)

theorem ref_digit (c : Nat) (w : World) :
    Calls Tryz.prog 116 #[.int .u8 c] w fun e w' => e = .returned (.bool (isDigit c)) ∧ w = w' := by
  go_enter Tryz.func116, Tryz.ntmps116
  go_wp2
  all_goals go_ret
  all_goals (refine ⟨ret_bool ?_, rfl⟩; rw [Bool.eq_iff_iff]; simp [isDigit]; omega)

theorem ref_letter (c : Nat) (w : World) :
    Calls Tryz.prog 115 #[.int .u8 c] w fun e w' => e = .returned (.bool (isLetter c)) ∧ w = w' := by
  go_enter Tryz.func115, Tryz.ntmps115
  go_wp2
  all_goals go_ret
  all_goals (refine ⟨ret_bool ?_, rfl⟩; rw [Bool.eq_iff_iff]; simp [isLetter]; omega)

theorem lex_keyword (s : ByteArray) (w : World) :
    Calls Tryz.prog 81 #[.string s] w fun e w' => e = .returned (.bool (isKeyword s.data.toList)) ∧ w = w' := by
  go_enter Tryz.func81, Tryz.ntmps81
  go_wp2
  all_goals go_ret
  all_goals (refine ⟨ret_bool ?_, rfl⟩; simp only [ByteArray.toList_eq] at *; simp_all [isKeyword, kwords])

/-- a list of strings that is read: nil, empty and others alike -/
def sAt (xs : List ByteArray) (k : Nat) : ByteArray := xs.getD k ⟨#[]⟩
def Strs (w : World) (A : Option Addr) (n : Nat) (xs : List ByteArray) : Prop :=
  xs.length = n ∧ ∀ j, j < n → ∃ ad, A = some ad ∧ w.cell? (ad.add j) = some (.string (sAt xs j))
theorem Strs.at_ {w : World} {A : Option Addr} {n : Nat} {xs : List ByteArray} (h : Strs w A n xs) (j : Nat) (hj : j < n) :
    ∃ ad, A = some ad ∧ w.cell? (ad.add j) = some (.string (sAt xs j)) := h.2 j hj

theorem Strs.below {w w1 : World} {A : Option Addr} {n : Nat} {xs : List ByteArray} (h : Strs w A n xs) (hb : Below w.heap.size w w1) (j : Nat) (hj : j < n) :
    ∃ ad, A = some ad ∧ w1.cell? (ad.add j) = some (.string (sAt xs j)) := by
  obtain ⟨ad, e, hc⟩ := h.2 j hj
  exact ⟨ad, e, (hb.cell (World.block_lt_of_cell? w _ hc)).trans hc⟩
theorem sAt_size {w : World} {A : Option Addr} {n : Nat} {xs : List ByteArray} {m : Nat} (h : Strs w A n xs) (hz : ∀ x ∈ xs, x.size ≤ m) (k : Nat) (hk : k < n) : (sAt xs k).size ≤ m := by
  have hl := h.1
  have e : sAt xs k = xs[k] := by simp [sAt, List.getElem?_eq_getElem (show k < xs.length by omega)]
  rw [e]
  exact hz _ (List.getElem_mem _)
def inStrs (xs : List ByteArray) (s : ByteArray) (k : Nat) : Bool := (xs.take k).any fun x => x.toList == s.toList
theorem inStrs_zero (xs : List ByteArray) (s : ByteArray) : inStrs xs s 0 = false := by simp [inStrs]
theorem inStrs_succ (xs : List ByteArray) (s : ByteArray) (k : Nat) (hk : k < xs.length) : inStrs xs s (k + 1) = (inStrs xs s k || ((sAt xs k).toList == s.toList)) := by
  have e : sAt xs k = xs[k] := by simp [sAt, List.getElem?_eq_getElem hk]
  simp only [inStrs, List.take_add_one, List.getElem?_eq_getElem hk, e, List.any_append, Option.toList_some, List.any_cons, List.any_nil, Bool.or_false]
theorem inStrs_hit (xs : List ByteArray) (s : ByteArray) (k n : Nat) (hk : k < n) (hn : xs.length = n) (h : ((sAt xs k).toList == s.toList) = true) : inStrs xs s n = true := by
  unfold inStrs
  rw [List.take_of_length_le (by omega), List.any_eq_true]
  refine ⟨xs[k], List.getElem_mem _, ?_⟩
  have e : sAt xs k = xs[k] := by simp [sAt, List.getElem?_eq_getElem (show k < xs.length by omega)]
  rw [← e]
  exact h

theorem ref_isIn (A : Option Addr) (n c : Nat) (xs : List ByteArray) (s : ByteArray) (w : World) (hx : Hid (Strs w A n xs)) (hn : n ≤ 1000000) :
    Calls Tryz.prog 117 #[.slice A n c, .string s] w fun e w' => e = .returned (.bool (inStrs xs s n)) ∧ w = w' := by
  go_enter Tryz.func117, Tryz.ntmps117
  go_wp2
  go_loop [5] (fun i => ∃ k : Nat, k ≤ n ∧ i = .int .i64 k ∧ inStrs xs s k = false) (fun i => n - (intOf i).toNat)
  case atStart => exact ⟨0, Nat.zero_le _, rfl, inStrs_zero _ _⟩
  case round =>
    obtain ⟨k, hk, rfl, hr⟩ := hrel
    have Hr := Lib.hid hr
    clear hr
    by_cases hlt : k < n
    · obtain ⟨ad, rfl, hc⟩ := hx.out.at_ k hlt
      have hs := inStrs_succ xs s k (by have := hx.out.1; omega)
      have Hs := Lib.hid hs
      clear hs
      go_wp2
      · go_ret
        have h : ((sAt xs k).toList == s.toList) = true := by assumption
        exact ⟨ret_bool (inStrs_hit xs s k n hlt hx.out.1 h).symm, rfl⟩
      · have h : ((sAt xs k).toList == s.toList) = false := by assumption
        go_round
        case rel => exact ⟨k + 1, by omega, by go_num, by rw [Hs.out, Hr.out, h]; rfl⟩
        case measure => simp [intOf]; omega
    · go_wp2
      go_ret
      exact ⟨ret_bool (by have e : k = n := by omega
                          rw [← e, Hr.out]), rfl⟩

theorem add_zero_off (g j : Nat) : (⟨g, 0, none⟩ : Addr).add j = ⟨g, j, none⟩ := by unfold Addr.add; split <;> simp_all
theorem strs_lit (w : World) (e : TypeId) (xs : List ByteArray) : Strs (w.alloc (.cells (xs.map Value.string).toArray e)) (some ⟨w.heap.size, 0, none⟩) xs.length xs := by
  refine ⟨rfl, fun j hj => ⟨_, rfl, ?_⟩⟩
  rw [add_zero_off, World.cell?_alloc_at _ _ _ _ rfl]
  simp [sAt, List.getElem?_eq_getElem hj]
def kwStrs : List ByteArray := [⟨#[102, 110]⟩, ⟨#[101, 120, 112, 111, 114, 116]⟩, ⟨#[108, 101, 116]⟩, ⟨#[105, 102]⟩, ⟨#[101, 108, 115, 101]⟩, ⟨#[119, 104, 105, 108, 101]⟩, ⟨#[114, 101, 116, 117, 114, 110]⟩, ⟨#[98, 114, 101, 97, 107]⟩, ⟨#[99, 111, 110, 116, 105, 110, 117, 101]⟩, ⟨#[116, 114, 117, 101]⟩, ⟨#[102, 97, 108, 115, 101]⟩, ⟨#[117, 110, 105, 116]⟩]
theorem kw_in (s : ByteArray) : inStrs kwStrs s 12 = isKeyword s.data.toList := by
  have e : kwords = kwStrs.map fun x => x.data.toList := rfl
  rw [isKeyword, e, inStrs, Bool.eq_iff_iff, List.take_of_length_le (by decide), List.any_eq_true, List.contains_iff_mem, List.mem_map]
  simp only [beq_iff_eq, ByteArray.toList_eq]
theorem ref_Keywords (w : World) :
    Calls Tryz.prog 118 #[] w fun e w' => e = .returned (.slice (some ⟨w.heap.size, 0, none⟩) 12 12) ∧ Below w.heap.size w w' ∧ Strs w' (some ⟨w.heap.size, 0, none⟩) 12 kwStrs := by
  go_enter Tryz.func118, Tryz.ntmps118
  go_wp2
  go_ret
  exact ⟨rfl, (Below.refl _ _).alloc (Nat.le_refl _) _, strs_lit w _ kwStrs⟩

theorem decode_word (s : ByteArray) (pos : Nat) (h : pos < s.size) :
    (isLetter (Utf8.decode s pos).1 || isDigit (Utf8.decode s pos).1) = isWord (s.data.toList[pos]'(by rw [Array.length_toList]; exact h)) ∧ (isWord (s.data.toList[pos]'(by rw [Array.length_toList]; exact h)) = true → (Utf8.decode s pos).2 = 1) := by
  have e : s.data.toList[pos]'(by rw [Array.length_toList]; exact h) = s[pos]'h := by simp; rfl
  rw [e]
  by_cases ha : (s[pos]'h).toNat < 128
  · rw [decode_ascii s pos h ha]
    exact ⟨rfl, fun _ => rfl⟩
  · have hd := decode_high s pos h (by omega)
    have hf : isWord (s[pos]'h) = false := by
      rw [Bool.eq_false_iff]; simp [isWord, isLetter, isDigit]; omega
    rw [hf]
    refine ⟨?_, by simp⟩
    rw [Bool.eq_false_iff]; simp [isLetter, isDigit]; omega

theorem below_iter (w : World) (s : ByteArray) (pos : Nat) : Below w.heap.size w (w.iter s pos) := (Below.refl _ _).alloc (Nat.le_refl _) _

/-- lex.word: it ranges over the runes; what stops it is no ASCII letter or digit -/
theorem lex_word (s : ByteArray) (w : World) (hs : s.size ≤ 9223372036854775807) :
    Calls Tryz.prog 79 #[.string s] w fun e w' => e = .returned (.string (s.extract 0 (wordLen s.data.toList))) ∧ Below w.heap.size w w' := by
  go_enter Tryz.func79, Tryz.ntmps79
  go_wp2
  go_loopw [3, 4] (fun v3 v4 w' => ∃ pos : Nat, w' = w.iter s pos ∧ pos ≤ s.size ∧ pos ≤ wordLen s.data.toList) (fun _ _ w' => s.size - w'.iterPos w.heap.size)
  case atStart => exact ⟨0, rfl, by omega, by omega⟩
  case round =>
    obtain ⟨pos, rfl, hp, hw⟩ := hrel
    by_cases hlt : pos < s.size
    · have hd := decode_word s pos hlt
      have hs1 := wordLen_step s.data.toList pos hw (by rw [Array.length_toList]; exact hlt)
      have Hd := Lib.hid hd
      have Hs1 := Lib.hid hs1
      clear hd hs1
      have hnx := fun ty => run_next_any (P := Tryz.prog) w s pos ty hlt
      go_wp2_with (first | (go_at_call 80; refine (lex_letter _ _).mono ?_; rintro e w' ⟨rfl, rfl⟩) | (go_at_call 82; refine (lex_digit _ _).mono ?_; rintro e w' ⟨rfl, rfl⟩))
      all_goals (have hd := Hd.out; have hs1 := Hs1.out)
      · have h : isLetter (Utf8.decode s pos).fst = true := by assumption
        have h1 := hd.2 (by rw [← hd.1, h]; rfl)
        have h2 := hs1.1 (by rw [← hd.1, h]; rfl)
        exact ⟨⟨pos + 1, by rw [h1], by omega, by omega⟩, by rw [h1]; simp; omega⟩
      · have h : ¬ isLetter (Utf8.decode s pos).fst = true := by assumption
        have h' : (!isDigit (Utf8.decode s pos).fst) = true := by assumption
        have h1 := hs1.2 (by rw [← hd.1]; simp at h h'; rw [h, h']; rfl)
        go_ret
        exact ⟨by rw [h1]; rfl, below_iter _ _ _⟩
      · have h : (!isDigit (Utf8.decode s pos).fst) = false := by assumption
        have h1 := hd.2 (by rw [← hd.1]; simp at h; rw [h]; simp)
        have h2 := hs1.1 (by rw [← hd.1]; simp at h; rw [h]; simp)
        exact ⟨⟨pos + 1, by rw [h1], by omega, by omega⟩, by rw [h1]; simp; omega⟩
    · have hnx := fun ty => run_next_end (P := Tryz.prog) w s pos ty hlt
      go_wp2
      go_ret
      have hl := wordLen_le s.data.toList
      rw [Array.length_toList] at hl
      have e : wordLen s.data.toList = s.size := by
        have : s.size = s.data.size := rfl
        omega
      exact ⟨by rw [e]; simp, below_iter _ _ _⟩
theorem data_len (s : ByteArray) : s.data.toList.length = s.size := by rw [Array.length_toList]; rfl
def sB (s : ByteArray) (k : Nat) : UInt8 := s.data.toList.getD k 0
theorem data_at (s : ByteArray) (i : Nat) (h : i < s.size) : s.data.toList[i]'(by rw [data_len]; exact h) = s[i]'h := by simp; rfl
end Go.Proofs.YtlnhhffhmeekoaaGreatDoor
namespace Go.Proofs.YtlnhhffhmeekoaaGreatDoor
open Go.RowKit

theorem sB_at (s : ByteArray) (k : Nat) (h : k < s.size) : s[k]'h = sB s k := by
  rw [sB, List.getD_eq_getElem?_getD, List.getElem?_eq_getElem (by rw [data_len]; exact h), Option.getD_some, data_at s k h]
theorem sB_index (s : ByteArray) (k : Nat) (h : k < s.size) (W : World) : (Instr.index 9 (.string s) (.int .i64 (k : Int))).run Tryz.prog W = .ok (.int .u8 (sB s k).toNat) W := by
  rw [← sB_at s k h]
  go_simp
theorem sB_lit (s : ByteArray) (z : Int) (k : Nat) (hz : z = (k : Int)) (h : k < s.size) (W : World) : (Instr.index 9 (.string s) (.int .i64 z)).run Tryz.prog W = .ok (.int .u8 (sB s k).toNat) W := by
  rw [hz]; exact sB_index s k h W
theorem sB_drop (s : ByteArray) (k : Nat) (h : k < s.size) : s.data.toList.drop k = sB s k :: s.data.toList.drop (k + 1) := by
  have h' : k < s.data.toList.length := by rw [data_len]; exact h
  rw [List.drop_eq_getElem_cons h']
  simp [sB, List.getD_eq_getElem?_getD, List.getElem?_eq_getElem h']
theorem drop_none (s : ByteArray) (k : Nat) (h : s.size ≤ k) : s.data.toList.drop k = [] := by rw [List.drop_eq_nil_of_le]; rw [data_len]; exact h

theorem hex_index (c : UInt8) : Lib.indexByte [48, 49, 50, 51, 52, 53, 54, 55, 56, 57, 97, 98, 99, 100, 101, 102] c = match hexv c with | some a => (a : Int) | none => -1 := by
  have key : ∀ n : Fin 256, Lib.indexByte [48, 49, 50, 51, 52, 53, 54, 55, 56, 57, 97, 98, 99, 100, 101, 102] (UInt8.ofNat n.val) = match hexv (UInt8.ofNat n.val) with | some a => (a : Int) | none => -1 := by decide +kernel
  have := key ⟨c.toNat, c.toNat_lt⟩
  simpa using this
theorem hexv_lt {c : UInt8} {a : Nat} (h : hexv c = some a) : a < 16 := by
  unfold hexv at h
  repeat' split at h
  all_goals simp at h
  all_goals omega

def hexI (c : UInt8) : Int := match hexv c with | some a => (a : Int) | none => -1
theorem hexI_cases (c : UInt8) : (hexv c = none ∧ hexI c = -1) ∨ ∃ a : Nat, a < 16 ∧ hexv c = some a ∧ hexI c = (a : Int) := by
  cases h : hexv c with
  | none => exact .inl ⟨rfl, by simp [hexI, h]⟩
  | some a => exact .inr ⟨a, hexv_lt h, rfl, by simp [hexI, h]⟩
theorem hex_call (x : UInt8) (w : World) :
    Calls Tryz.prog 140 #[.string ⟨#[48, 49, 50, 51, 52, 53, 54, 55, 56, 57, 97, 98, 99, 100, 101, 102]⟩, .int .u8 x.toNat] w fun e w' => e = .returned (.int .i64 (hexI x)) ∧ w' = w := by
  have h := Tryz.strings_IndexByte ⟨#[48, 49, 50, 51, 52, 53, 54, 55, 56, 57, 97, 98, 99, 100, 101, 102]⟩ (x.toNat : Int) w
  have e : ((x.toNat : Int)).toNat.toUInt8 = x := by simp
  rw [e] at h
  refine h.mono fun e w' ⟨h1, h2⟩ => ⟨?_, h2⟩
  rw [h1]
  exact congrArg (fun z => Ending.returned (.int .i64 z)) (hex_index x)

theorem or16 (a b : Nat) (ha : a < 16) (hb : b < 16) : bits .or .i64 ((a : Int) * 16) (b : Int) % 256 = (((UInt8.ofNat (16 * a + b)).toNat : Nat) : Int) := by
  have key : ∀ a b : Fin 16, bits .or .i64 ((a.val : Int) * 16) (b.val : Int) % 256 = (((UInt8.ofNat (16 * a.val + b.val)).toNat : Nat) : Int) := by decide +kernel
  exact key ⟨a, ha⟩ ⟨b, hb⟩
def escV (o : Option (UInt8 × Nat)) : Ending := match o with
  | some (b, n) => .returned (.tuple #[.int .u8 b.toNat, .int .i64 n])
  | none => .returned (.tuple #[.int .u8 0, .int .i64 0])

set_option maxRecDepth 20000 in
theorem lex_escaped (s : ByteArray) (w : World) (hs : s.size ≤ 9223372036854775807) :
    Calls Tryz.prog 139 #[.string s] w fun e w' => e = escV (escS s.data.toList) ∧ Below w.heap.size w w' := by
  by_cases h0 : s.size = 0
  · have e0 : s.data.toList = [] := by simpa using drop_none s 0 (by omega)
    have he : s.toList = [] := by rw [ByteArray.toList_eq]; exact e0
    have H0 := Lib.hid e0
    clear e0
    go_enter Tryz.func139, Tryz.ntmps139
    go_wp2
    go_ret2
    rw [H0.out]
    exact ⟨rfl, Below.refl _ _⟩
  have hix := sB_lit s 0 0 rfl (by omega)
  have hd := sB_drop s 0 (by omega)
  rw [List.drop_zero] at hd
  have hne : s.toList.isEmpty = false := by rw [ByteArray.toList_eq, hd]; rfl
  generalize sB s 0 = c at hix hd
  have hc : c.toNat < 256 := c.toNat_lt
  have Hd := Lib.hid hd
  clear hd
  by_cases q1 : c.toNat = 34
  · have q1' : ((c.toNat : Int) == 34) = true := by simp [q1]
    go_enter Tryz.func139, Tryz.ntmps139
    go_wp2
    go_ret2
    rw [Hd.out]
    exact ⟨by simp [escS, q1, escV], Below.refl _ _⟩
  have q1' : ((c.toNat : Int) == 34) = false := by simp; omega
  by_cases q2 : c.toNat = 92
  · have q2' : ((c.toNat : Int) == 92) = true := by simp [q2]
    go_enter Tryz.func139, Tryz.ntmps139
    go_wp2
    go_ret2
    rw [Hd.out]
    exact ⟨by simp [escS, q2, escV], Below.refl _ _⟩
  have q2' : ((c.toNat : Int) == 92) = false := by simp; omega
  by_cases q3 : c.toNat = 120
  · have q3' : ((c.toNat : Int) == 120) = true := by simp [q3]
    by_cases q4 : 2 < s.size
    · have hix1 := sB_lit s 1 1 rfl (by omega)
      have hix2 := sB_lit s 2 2 rfl (by omega)
      have hd1 := sB_drop s 1 (by omega)
      have hd2 := sB_drop s 2 (by omega)
      generalize sB s 1 = x at hix1 hd1
      generalize sB s 2 = y at hix2 hd2
      have hx : x.toNat < 256 := x.toNat_lt
      have hy : y.toNat < 256 := y.toNat_lt
      have He : Hid (s.data.toList = c :: x :: y :: s.data.toList.drop 3) := by
        show s.data.toList = c :: x :: y :: s.data.toList.drop 3
        rw [← hd2, ← hd1]; exact Hd.out
      clear hd1 hd2 q1 q2
      rcases hexI_cases x with ⟨e1, i1⟩ | ⟨a, ha, e1, i1⟩
      · have Hx := Lib.hid e1
        clear e1
        go_enter Tryz.func139, Tryz.ntmps139
        go_wp2_with fail
        go_region_held3 (fun _ => True) ((trivial)) (first
          | (go_at_call 140; refine (hex_call _ _).mono ?_; rintro e w' ⟨rfl, rfl⟩))
        all_goals go_wp2
        all_goals go_ret2
        all_goals (rw [He.out]; exact ⟨by simp [escS, q3, Hx.out, escV], (Below.refl _ _).drew⟩)
      rcases hexI_cases y with ⟨e2, i2⟩ | ⟨b, hb, e2, i2⟩
      · have Hx := Lib.hid e1
        have Hy := Lib.hid e2
        clear e1 e2
        go_enter Tryz.func139, Tryz.ntmps139
        go_wp2_with fail
        go_region_held3 (fun _ => True) ((trivial)) (first
          | (go_at_call 140; refine (hex_call _ _).mono ?_; rintro e w' ⟨rfl, rfl⟩))
        all_goals go_wp2
        all_goals go_ret2
        all_goals (rw [He.out]; exact ⟨by simp [escS, q3, Hx.out, Hy.out, escV], (Below.refl _ _).drew⟩)
      have Hx := Lib.hid e1
      have Hy := Lib.hid e2
      clear e1 e2
      go_enter Tryz.func139, Tryz.ntmps139
      go_wp2_with fail
      go_region_held3 (fun _ => True) ((trivial)) (first
        | (go_at_call 140; refine (hex_call _ _).mono ?_; rintro e w' ⟨rfl, rfl⟩))
      all_goals go_wp2
      all_goals go_ret2
      all_goals (rw [He.out]; exact ⟨by simp [escS, q3, Hx.out, Hy.out, escV, or16 a b ha hb], (Below.refl _ _).drew⟩)
    · have He : escS s.data.toList = none := by
        have hl := data_len s
        rw [Hd.out] at hl ⊢
        rcases hr : List.drop (0 + 1) s.data.toList with _ | ⟨x, _ | ⟨y, r⟩⟩
        · simp [escS, q3]
        · simp [escS, q3]
        · rw [hr] at hl; simp at hl; omega
      have HE := Lib.hid He
      clear He q1 q2
      go_enter Tryz.func139, Tryz.ntmps139
      go_wp2
      go_ret2
      rw [HE.out]
      exact ⟨rfl, Below.refl _ _⟩
  have q3' : ((c.toNat : Int) == 120) = false := by simp; omega
  go_enter Tryz.func139, Tryz.ntmps139
  go_wp2
  go_ret2
  rw [Hd.out]
  exact ⟨by simp [escS, q1, q2, q3, escV], Below.refl _ _⟩
end Go.Proofs.YtlnhhffhmeekoaaGreatDoor
namespace Go.Proofs.YtlnhhffhmeekoaaGreatDoor
open Go.RowKit

def quoV (n : Nat) (o : Option (List UInt8 × List UInt8)) : Ending := match o with
  | some (b, r) => .returned (.tuple #[.string ⟨b.toArray⟩, .int .i64 ((n - r.length : Nat) : Int)])
  | none => .returned (.tuple #[.string ⟨#[]⟩, .int .i64 0])
def behind (w : World) : Nat → Prop := fun k => w.heap.size ≤ k
theorem ext_drop (s : ByteArray) (k : Nat) : (s.extract k s.size).data.toList = s.data.toList.drop k := by
  rw [ByteArray.data_extract, Array.toList_extract, List.extract_eq_take_drop, List.take_of_length_le]
  rw [List.length_drop, data_len]
  exact Nat.le_refl _

set_option maxRecDepth 20000 in
set_option maxHeartbeats 1000000 in
theorem lex_quoted (s : ByteArray) (w : World) (hs : s.size ≤ 1048576) (h0 : 0 < s.size) :
    Calls Tryz.prog 84 #[.string s] w fun e w' => e = quoV s.size (quoS s.data.toList.tail []) ∧ Below w.heap.size w w' := by
  go_enter Tryz.func84, Tryz.ntmps84
  go_wp2
  go_loopw [4, 5] (fun v3 v4 wr => ∃ (k : Nat) (acc : List UInt8), k ≤ s.size ∧ 1 ≤ k ∧ v4 = .int .i64 k ∧ acc.length ≤ 2047 ∧ OwnB (behind w) wr v3 acc ∧ Fr (behind w) w wr ∧ quoS s.data.toList.tail [] = quoS (s.data.toList.drop k) acc) (fun _ i _ => s.size - (intOf i).toNat)
  case atStart => exact ⟨1, [], h0, Nat.le_refl _, rfl, by simp, OwnR.nil _ _ _ _, Fr.refl _ _, by rw [List.drop_one]⟩
  case round =>
    obtain ⟨k, acc, hk, hk1, rfl, hacc, hO, hF, hq⟩ := hrel
    obtain ⟨A, cap, rfl, hcap⟩ := hO.slice
    have HO := Lib.hid hO
    have HF := Lib.hid hF
    have Hq := Lib.hid hq
    clear hO hF hq
    by_cases hlt : k < s.size
    · have hix := sB_index s k hlt
      have hd := sB_drop s k hlt
      generalize sB s k = c at hix hd
      have hc : c.toNat < 256 := c.toNat_lt
      have Hd := Lib.hid hd
      clear hd
      by_cases q1 : c.toNat = 34
      · have q1' : ((c.toNat : Int) == 34) = true := by simp [q1]
        have hstr := HO.out.toStr
        go_wp2
        go_ret2
        refine ⟨?_, HF.out.to_below fun j hj => by simp [behind]; omega⟩
        show Ending.returned (.tuple #[.string ⟨acc.toArray⟩, .int .i64 ((k : Int) + 1)]) = _
        rw [Hq.out, Hd.out, quoS_end q1]
        have hl := data_len s
        simp only [quoV, List.length_drop, hl]
        rw [show ((s.size - (s.size - (k + 1)) : Nat) : Int) = (k : Int) + 1 from by omega]
      have q1' : ((c.toNat : Int) == 34) = false := by simp; omega
      by_cases q2 : c.toNat < 32
      · have hn : quoS (c :: List.drop (k + 1) s.data.toList) acc = none := quoS_bad q1 (by simp [pieceS, q2])
        have Hn := Lib.hid hn
        clear hn
        go_wp2
        go_ret2
        refine ⟨?_, HF.out.to_below fun j hj => by simp [behind]; omega⟩
        rw [Hq.out, Hd.out, Hn.out]
        rfl
      by_cases q3 : 126 < c.toNat
      · have hn : quoS (c :: List.drop (k + 1) s.data.toList) acc = none := quoS_bad q1 (by simp [pieceS, q3])
        have Hn := Lib.hid hn
        clear hn
        go_wp2
        go_ret2
        refine ⟨?_, HF.out.to_below fun j hj => by simp [behind]; omega⟩
        rw [Hq.out, Hd.out, Hn.out]
        rfl
      by_cases q4 : 2047 ≤ acc.length
      · have hn : quoS (c :: List.drop (k + 1) s.data.toList) acc = none := quoS_long q1 q4
        have Hn := Lib.hid hn
        clear hn
        go_wp2
        go_ret2
        refine ⟨?_, HF.out.to_below fun j hj => by simp [behind]; omega⟩
        rw [Hq.out, Hd.out, Hn.out]
        rfl
      by_cases q5 : c.toNat = 92
      · have q5' : ((c.toNat : Int) == 92) = true := by simp [q5]
        have hp : pieceS (c :: List.drop (k + 1) s.data.toList) = escS (List.drop (k + 1) s.data.toList) := by simp [pieceS, q5]
        have hcall : ∀ W : World, Calls Tryz.prog 139 #[.string (s.extract (k + 1) s.size)] W fun e w' => e = escV (escS (List.drop (k + 1) s.data.toList)) ∧ Below W.heap.size W w' := by
          intro W
          have h := lex_escaped (s.extract (k + 1) s.size) W (by rw [ByteArray.size_extract]; omega)
          rw [ext_drop] at h
          exact h
        rcases he : escS (List.drop (k + 1) s.data.toList) with _ | ⟨b, n⟩
        · have hn : quoS (c :: List.drop (k + 1) s.data.toList) acc = none := quoS_bad q1 (by rw [hp, he])
          have Hn := Lib.hid hn
          rw [he] at hcall
          replace hcall : ∀ W : World, Calls Tryz.prog 139 #[.string (s.extract (k + 1) s.size)] W fun e w' => e = .returned (.tuple #[.int .u8 0, .int .i64 0]) ∧ Below W.heap.size W w' := hcall
          clear hn hp he
          go_wp2_with (go_at_call 139; refine (hcall _).mono ?_; rintro e w1 ⟨rfl, hb1⟩)
          go_ret2
          refine ⟨?_, (HF.out.below hb1).to_below fun j hj => by simp [behind]; omega⟩
          rw [Hq.out, Hd.out, Hn.out]
          rfl
        · have hn := quoS_step (acc := acc) q1 (by omega) (hp.trans he)
          have hpos := pieceS_pos (hp.trans he)
          have hk' : k + n ≤ s.size := by
            have := hpos.2
            simp only [List.length_cons, List.length_drop, data_len] at this
            omega
          have hn0 : 0 < n := hpos.1
          have hdd : (c :: List.drop (k + 1) s.data.toList).drop n = s.data.toList.drop (k + n) := by rw [← Hd.out, List.drop_drop]
          rw [hdd] at hn
          have Hn := Lib.hid hn
          rw [he] at hcall
          replace hcall : ∀ W : World, Calls Tryz.prog 139 #[.string (s.extract (k + 1) s.size)] W fun e w' => e = .returned (.tuple #[.int .u8 b.toNat, .int .i64 n]) ∧ Below W.heap.size W w' := hcall
          clear hn hp he hpos hdd
          have hbb : b.toNat < 256 := b.toNat_lt
          have hz : ((n : Int) == 0) = false := by simp; omega
          go_wp2_with (first
            | (go_at_call 139; refine (hcall _).mono ?_; rintro e w1 ⟨rfl, hb1⟩)
            | (at_builtin; refine wpB_append _ [b] (.tmp 52) (.tmp 54) rfl rfl _ rfl 1 1 rfl rfl rfl (HO.out.below hb1) (HF.out.below hb1) (by simp; omega) (fun k h => Nat.le_trans (HF.out.below hb1).size h) ?_; intro v1 w2 hO1 hF1; clear HO HF))
          exact ⟨⟨k + n, acc ++ [b], hk', by omega, by go_num, by simp; omega, hO1, hF1, by rw [Hq.out, Hd.out, Hn.out]⟩, by simp [intOf]; omega⟩
      have q5' : ((c.toNat : Int) == 92) = false := by simp; omega
      have hn := quoS_step (acc := acc) (r := List.drop (k + 1) s.data.toList) q1 (by omega) (show pieceS (c :: List.drop (k + 1) s.data.toList) = some (c, 1) by simp [pieceS, q1, q5]; omega)
      rw [List.drop_succ_cons, List.drop_zero] at hn
      have Hn := Lib.hid hn
      clear hn
      go_wp2_with (at_builtin; refine wpB_append _ [c] (.tmp 52) (.tmp 54) rfl rfl _ rfl 1 1 rfl rfl rfl HO.out HF.out (by simp; omega) (fun k h => Nat.le_trans HF.out.size h) ?_; intro v1 w1 hO1 hF1; clear HO HF)
      exact ⟨⟨k + 1, acc ++ [c], hlt, by omega, by go_num, by simp; omega, hO1, hF1, by rw [Hq.out, Hd.out, Hn.out]⟩, by simp [intOf]; omega⟩
    · have hn : quoS (s.data.toList.drop k) acc = none := by rw [drop_none s k (by omega)]; rfl
      have Hn := Lib.hid hn
      clear hn
      go_wp2
      go_ret2
      refine ⟨?_, HF.out.to_below fun j hj => by simp [behind]; omega⟩
      rw [Hq.out, Hn.out]
      rfl
end Go.Proofs.YtlnhhffhmeekoaaGreatDoor
