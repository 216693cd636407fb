/- Contracts of the lexer's smaller functions over a place in a text: a piece of a quoted text, a sign: lex.escaped, lex.sign; the reference's hex, piece, sign, blanks. -/
import Derived.Test.YtgnoiliaidfepaaDoorShelf
import Derived.Test.YtgnoiliaidfepaaDoorLexTokSpec
import Derived.Test.YtgnoiliaidfepaaDoorLexLeaf
set_option linter.unusedVariables false
set_option linter.unusedSimpArgs false
namespace Go.Proofs.YtgnoiliaidfepaaDoor
open Go.RowKit

theorem sB_at (s : ByteArray) (k : Nat) (h : k < s.size) : s[k]'h = sB s k := by
  rw [sB, List.getD_eq_getElem?_getD, List.getElem?_eq_getElem (by rw [data_len]; exact h), Option.getD_some, data_at s k h]
theorem sB_index (s : ByteArray) (k : Nat) (h : k < s.size) (W : World) : (Instr.index 9 (.string s) (.int .i64 (k : Int))).run Tryd.prog W = .ok (.int .u8 (sB s k).toNat) W := by
  rw [← sB_at s k h]
  go_simp
theorem sB_lit (s : ByteArray) (z : Int) (k : Nat) (hz : z = (k : Int)) (h : k < s.size) (W : World) : (Instr.index 9 (.string s) (.int .i64 z)).run Tryd.prog W = .ok (.int .u8 (sB s k).toNat) W := by
  rw [hz]; exact sB_index s k h W
theorem sB_drop (s : ByteArray) (k : Nat) (h : k < s.size) : s.data.toList.drop k = sB s k :: s.data.toList.drop (k + 1) := by
  have h' : k < s.data.toList.length := by rw [data_len]; exact h
  rw [List.drop_eq_getElem_cons h']
  simp [sB, List.getD_eq_getElem?_getD, List.getElem?_eq_getElem h']
theorem drop_none (s : ByteArray) (k : Nat) (h : s.size ≤ k) : s.data.toList.drop k = [] := by rw [List.drop_eq_nil_of_le]; rw [data_len]; exact h

theorem hex_index (c : UInt8) : Lib.indexByte [48, 49, 50, 51, 52, 53, 54, 55, 56, 57, 97, 98, 99, 100, 101, 102] c = match hexv c with | some a => (a : Int) | none => -1 := by
  have key : ∀ n : Fin 256, Lib.indexByte [48, 49, 50, 51, 52, 53, 54, 55, 56, 57, 97, 98, 99, 100, 101, 102] (UInt8.ofNat n.val) = match hexv (UInt8.ofNat n.val) with | some a => (a : Int) | none => -1 := by decide +kernel
  have := key ⟨c.toNat, c.toNat_lt⟩
  simpa using this
theorem hexv_lt {c : UInt8} {a : Nat} (h : hexv c = some a) : a < 16 := by
  unfold hexv at h
  repeat' split at h
  all_goals simp at h
  all_goals omega

def hexI (c : UInt8) : Int := match hexv c with | some a => (a : Int) | none => -1
theorem hexI_cases (c : UInt8) : (hexv c = none ∧ hexI c = -1) ∨ ∃ a : Nat, a < 16 ∧ hexv c = some a ∧ hexI c = (a : Int) := by
  cases h : hexv c with
  | none => exact .inl ⟨rfl, by simp [hexI, h]⟩
  | some a => exact .inr ⟨a, hexv_lt h, rfl, by simp [hexI, h]⟩
theorem hex_call (x : UInt8) (w : World) :
    Calls Tryd.prog 103 #[.string ⟨#[48, 49, 50, 51, 52, 53, 54, 55, 56, 57, 97, 98, 99, 100, 101, 102]⟩, .int .u8 x.toNat] w fun e w' => e = .returned (.int .i64 (hexI x)) ∧ w' = w := by
  have h := Tryd.strings_IndexByte ⟨#[48, 49, 50, 51, 52, 53, 54, 55, 56, 57, 97, 98, 99, 100, 101, 102]⟩ (x.toNat : Int) w
  have e : ((x.toNat : Int)).toNat.toUInt8 = x := by simp
  rw [e] at h
  refine h.mono fun e w' ⟨h1, h2⟩ => ⟨?_, h2⟩
  rw [h1]
  exact congrArg (fun z => Ending.returned (.int .i64 z)) (hex_index x)

theorem or16 (a b : Nat) (ha : a < 16) (hb : b < 16) : bits .or .i64 ((a : Int) * 16) (b : Int) % 256 = (((UInt8.ofNat (16 * a + b)).toNat : Nat) : Int) := by
  have key : ∀ a b : Fin 16, bits .or .i64 ((a.val : Int) * 16) (b.val : Int) % 256 = (((UInt8.ofNat (16 * a.val + b.val)).toNat : Nat) : Int) := by decide +kernel
  exact key ⟨a, ha⟩ ⟨b, hb⟩
def escV (o : Option (UInt8 × Nat)) : Ending := match o with
  | some (b, n) => .returned (.tuple #[.int .u8 b.toNat, .int .i64 n])
  | none => .returned (.tuple #[.int .u8 0, .int .i64 0])

set_option maxRecDepth 20000 in
theorem lex_escaped (s : ByteArray) (w : World) (hs : s.size ≤ 9223372036854775807) :
    Calls Tryd.prog 102 #[.string s] w fun e w' => e = escV (escS s.data.toList) ∧ Below w.heap.size w w' := by
  by_cases h0 : s.size = 0
  · have e0 : s.data.toList = [] := by simpa using drop_none s 0 (by omega)
    have he : s.toList = [] := by rw [ByteArray.toList_eq]; exact e0
    have H0 := Lib.hid e0
    clear e0
    go_enter Tryd.func102, Tryd.ntmps102
    go_wp2
    go_ret2
    rw [H0.out]
    exact ⟨rfl, Below.refl _ _⟩
  have hix := sB_lit s 0 0 rfl (by omega)
  have hd := sB_drop s 0 (by omega)
  rw [List.drop_zero] at hd
  have hne : s.toList.isEmpty = false := by rw [ByteArray.toList_eq, hd]; rfl
  generalize sB s 0 = c at hix hd
  have hc : c.toNat < 256 := c.toNat_lt
  have Hd := Lib.hid hd
  clear hd
  by_cases q1 : c.toNat = 34
  · have q1' : ((c.toNat : Int) == 34) = true := by simp [q1]
    go_enter Tryd.func102, Tryd.ntmps102
    go_wp2
    go_ret2
    rw [Hd.out]
    exact ⟨by simp [escS, q1, escV], Below.refl _ _⟩
  have q1' : ((c.toNat : Int) == 34) = false := by simp; omega
  by_cases q2 : c.toNat = 92
  · have q2' : ((c.toNat : Int) == 92) = true := by simp [q2]
    go_enter Tryd.func102, Tryd.ntmps102
    go_wp2
    go_ret2
    rw [Hd.out]
    exact ⟨by simp [escS, q2, escV], Below.refl _ _⟩
  have q2' : ((c.toNat : Int) == 92) = false := by simp; omega
  by_cases q3 : c.toNat = 120
  · have q3' : ((c.toNat : Int) == 120) = true := by simp [q3]
    by_cases q4 : 2 < s.size
    · have hix1 := sB_lit s 1 1 rfl (by omega)
      have hix2 := sB_lit s 2 2 rfl (by omega)
      have hd1 := sB_drop s 1 (by omega)
      have hd2 := sB_drop s 2 (by omega)
      generalize sB s 1 = x at hix1 hd1
      generalize sB s 2 = y at hix2 hd2
      have hx : x.toNat < 256 := x.toNat_lt
      have hy : y.toNat < 256 := y.toNat_lt
      have He : Hid (s.data.toList = c :: x :: y :: s.data.toList.drop 3) := by
        show s.data.toList = c :: x :: y :: s.data.toList.drop 3
        rw [← hd2, ← hd1]; exact Hd.out
      clear hd1 hd2 q1 q2
      rcases hexI_cases x with ⟨e1, i1⟩ | ⟨a, ha, e1, i1⟩
      · have Hx := Lib.hid e1
        clear e1
        go_enter Tryd.func102, Tryd.ntmps102
        go_wp2_with fail
        go_region_held3 (fun _ => True) ((trivial)) (first
          | (go_at_call 103; refine (hex_call _ _).mono ?_; rintro e w' ⟨rfl, rfl⟩))
        all_goals go_wp2
        all_goals go_ret2
        all_goals (rw [He.out]; exact ⟨by simp [escS, q3, Hx.out, escV], (Below.refl _ _).drew⟩)
      rcases hexI_cases y with ⟨e2, i2⟩ | ⟨b, hb, e2, i2⟩
      · have Hx := Lib.hid e1
        have Hy := Lib.hid e2
        clear e1 e2
        go_enter Tryd.func102, Tryd.ntmps102
        go_wp2_with fail
        go_region_held3 (fun _ => True) ((trivial)) (first
          | (go_at_call 103; refine (hex_call _ _).mono ?_; rintro e w' ⟨rfl, rfl⟩))
        all_goals go_wp2
        all_goals go_ret2
        all_goals (rw [He.out]; exact ⟨by simp [escS, q3, Hx.out, Hy.out, escV], (Below.refl _ _).drew⟩)
      have Hx := Lib.hid e1
      have Hy := Lib.hid e2
      clear e1 e2
      go_enter Tryd.func102, Tryd.ntmps102
      go_wp2_with fail
      go_region_held3 (fun _ => True) ((trivial)) (first
        | (go_at_call 103; refine (hex_call _ _).mono ?_; rintro e w' ⟨rfl, rfl⟩))
      all_goals go_wp2
      all_goals go_ret2
      all_goals (rw [He.out]; exact ⟨by simp [escS, q3, Hx.out, Hy.out, escV, or16 a b ha hb], (Below.refl _ _).drew⟩)
    · have He : escS s.data.toList = none := by
        have hl := data_len s
        rw [Hd.out] at hl ⊢
        rcases hr : List.drop (0 + 1) s.data.toList with _ | ⟨x, _ | ⟨y, r⟩⟩
        · simp [escS, q3]
        · simp [escS, q3]
        · rw [hr] at hl; simp at hl; omega
      have HE := Lib.hid He
      clear He q1 q2
      go_enter Tryd.func102, Tryd.ntmps102
      go_wp2
      go_ret2
      rw [HE.out]
      exact ⟨rfl, Below.refl _ _⟩
  have q3' : ((c.toNat : Int) == 120) = false := by simp; omega
  go_enter Tryd.func102, Tryd.ntmps102
  go_wp2
  go_ret2
  rw [Hd.out]
  exact ⟨by simp [escS, q1, q2, q3, escV], Below.refl _ _⟩
end Go.Proofs.YtgnoiliaidfepaaDoor
