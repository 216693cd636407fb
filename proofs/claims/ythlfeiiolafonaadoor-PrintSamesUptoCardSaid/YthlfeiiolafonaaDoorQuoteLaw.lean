/- Runes of a text, and how many bytes they take: plain facts. -/
import Derived.Test.YthlfeiiolafonaaDoorLexQuoteP
import Derived.Lib.DecodeN
set_option linter.unusedVariables false
set_option linter.unusedSimpArgs false
namespace Go.Proofs.YthlfeiiolafonaaDoor
open Go.RowKit

/-- how many bytes a code point takes -/
def encN (c : Nat) : Nat := if c < 128 then 1 else if c < 2048 then 2 else if c < 65536 then 3 else 4
theorem enc_size (c : Nat) (hv : c < 55296 ∨ (57344 ≤ c ∧ c ≤ 1114111)) : (Utf8.encode (c : Int)).size = encN c := by
  have h : Utf8.valid (c : Int) = true := by
    simp only [Utf8.valid, Bool.or_eq_true, Bool.and_eq_true, decide_eq_true_eq]
    omega
  unfold Utf8.encode encN
  rw [if_pos h, Int.toNat_natCast]
  simp only []
  split
  · rfl
  · split
    · rfl
    · split <;> rfl
set_option maxHeartbeats 4000000 in
/-- a rune from a byte of at least 128 on -/
theorem decN_facts (m b0 b1 b2 b3 : Nat) (hm : 1 ≤ m) (hb : 128 ≤ b0) (h0 : b0 < 256) (h1 : b1 < 256) (h2 : b2 < 256) (h3 : b3 < 256) :
    ∃ c n, Lib.decodeN m b0 b1 b2 b3 = (c, n) ∧ 128 ≤ c ∧ (c < 55296 ∨ (57344 ≤ c ∧ c ≤ 1114111)) ∧ 1 ≤ n ∧ n ≤ 4 ∧ n ≤ m ∧ (1 < n → 128 ≤ b1) ∧ (2 < n → 128 ≤ b2) ∧ (3 < n → 128 ≤ b3) ∧
      (if c = 65533 ∧ ¬ (3 ≤ m ∧ b0 = 239 ∧ b1 = 191 ∧ b2 = 189) then n = 1 else n = encN c) := by
  unfold Lib.decodeN
  have hb' : ¬ b0 < 128 := by omega
  rw [if_neg hb']
  by_cases q1 : b0 / 32 = 6 ∧ (1 < m ∧ b1 / 64 = 2)
  · rw [if_pos q1]
    by_cases q2 : b0 % 32 * 64 + b1 % 64 ≥ 128
    · rw [if_pos q2]
      refine ⟨_, _, rfl, by omega, by omega, by omega, by omega, by omega, by omega, by omega, by omega, ?_⟩
      rw [if_neg (by omega)]
      unfold encN
      rw [if_neg (by omega), if_pos (by omega)]
    · rw [if_neg q2]
      refine ⟨_, _, rfl, by omega, by omega, by omega, by omega, by omega, by omega, by omega, by omega, ?_⟩
      rw [if_pos ⟨rfl, by omega⟩]
  · rw [if_neg q1]
    by_cases q2 : b0 / 16 = 14 ∧ (1 < m ∧ b1 / 64 = 2) ∧ (2 < m ∧ b2 / 64 = 2)
    · rw [if_pos q2]
      by_cases q3 : b0 % 16 * 4096 + b1 % 64 * 64 + b2 % 64 ≥ 2048 ∧ (b0 % 16 * 4096 + b1 % 64 * 64 + b2 % 64 < 55296 ∨ (57344 ≤ b0 % 16 * 4096 + b1 % 64 * 64 + b2 % 64 ∧ b0 % 16 * 4096 + b1 % 64 * 64 + b2 % 64 ≤ 1114111))
      · rw [if_pos q3]
        refine ⟨_, _, rfl, by omega, by omega, by omega, by omega, by omega, by omega, by omega, by omega, ?_⟩
        rw [if_neg (by omega)]
        unfold encN
        rw [if_neg (by omega), if_neg (by omega), if_pos (by omega)]
      · rw [if_neg q3]
        refine ⟨_, _, rfl, by omega, by omega, by omega, by omega, by omega, by omega, by omega, by omega, ?_⟩
        rw [if_pos ⟨rfl, by omega⟩]
    · rw [if_neg q2]
      by_cases q3 : b0 / 8 = 30 ∧ (1 < m ∧ b1 / 64 = 2) ∧ (2 < m ∧ b2 / 64 = 2) ∧ (3 < m ∧ b3 / 64 = 2)
      · rw [if_pos q3]
        by_cases q4 : b0 % 8 * 262144 + b1 % 64 * 4096 + b2 % 64 * 64 + b3 % 64 ≥ 65536 ∧ (b0 % 8 * 262144 + b1 % 64 * 4096 + b2 % 64 * 64 + b3 % 64 < 55296 ∨ (57344 ≤ b0 % 8 * 262144 + b1 % 64 * 4096 + b2 % 64 * 64 + b3 % 64 ∧ b0 % 8 * 262144 + b1 % 64 * 4096 + b2 % 64 * 64 + b3 % 64 ≤ 1114111))
        · rw [if_pos q4]
          refine ⟨_, _, rfl, by omega, by omega, by omega, by omega, by omega, by omega, by omega, by omega, ?_⟩
          rw [if_neg (by omega)]
          unfold encN
          rw [if_neg (by omega), if_neg (by omega), if_neg (by omega)]
        · rw [if_neg q4]
          refine ⟨_, _, rfl, by omega, by omega, by omega, by omega, by omega, by omega, by omega, by omega, ?_⟩
          rw [if_pos ⟨rfl, by omega⟩]
      · rw [if_neg q3]
        refine ⟨_, _, rfl, by omega, by omega, by omega, by omega, by omega, by omega, by omega, by omega, ?_⟩
        rw [if_pos ⟨rfl, by omega⟩]
/-- do these bytes stand ahead? (the bytes of the sign for what is no rune) -/
def fffdAt (s : ByteArray) (i : Nat) : Bool := decide (3 ≤ s.size - i ∧ (s.get! i).toNat = 239 ∧ (s.get! (i + 1)).toNat = 191 ∧ (s.get! (i + 2)).toNat = 189)
theorem dec_facts (s : ByteArray) (i : Nat) (hi : i < s.size) (hb : 128 ≤ (s.get! i).toNat) :
    ∃ c n, Utf8.decode s i = (c, n) ∧ 128 ≤ c ∧ c ≤ 1114111 ∧ 1 ≤ n ∧ n ≤ 4 ∧ i + n ≤ s.size ∧ (∀ j, j < n → 128 ≤ (s.get! (i + j)).toNat) ∧ (((c == 65533) && !fffdAt s i) = true → n = 1) ∧ (((c == 65533) && !fffdAt s i) = false → n = (Utf8.encode (c : Int)).size) := by
  obtain ⟨c, n, h, h1, h2, h3, h4, h5, h6, h7, h8, h9⟩ := decN_facts (s.size - i) (s.get! i).toNat (s.get! (i + 1)).toNat (s.get! (i + 2)).toNat (s.get! (i + 3)).toNat (by omega) hb (UInt8.toNat_lt _) (UInt8.toNat_lt _) (UInt8.toNat_lt _) (UInt8.toNat_lt _)
  refine ⟨c, n, by rw [Lib.decode_at]; exact h, h1, by omega, h3, h4, by omega, ?_, ?_, ?_⟩
  · intro j hj
    have hj' : j = 0 ∨ j = 1 ∨ j = 2 ∨ j = 3 := by omega
    rcases hj' with rfl | rfl | rfl | rfl
    · exact hb
    · exact h6 hj
    · exact h7 hj
    · exact h8 hj
  · intro hc
    simp only [fffdAt, Bool.and_eq_true, beq_iff_eq, Bool.not_eq_true', decide_eq_false_iff_not] at hc
    rw [if_pos hc] at h9
    exact h9
  · intro hc
    rw [enc_size c h2]
    rw [Bool.eq_false_iff] at hc
    simp only [fffdAt, ne_eq, Bool.and_eq_true, beq_iff_eq, Bool.not_eq_true', decide_eq_false_iff_not] at hc
    rw [if_neg hc] at h9
    exact h9
theorem get_sB (s : ByteArray) (i : Nat) (hi : i < s.size) : s.get! i = sB s i := by
  rw [sB, List.getD_eq_getElem?_getD, List.getElem?_eq_getElem (by rw [data_len]; exact hi), Option.getD_some, data_at s i hi]
  cases s with
  | mk d =>
  show d[i]! = d[i]'hi
  exact getElem!_pos d i hi
/-- n bytes from place i on, each as \xhh -/
def hexes (s : ByteArray) (i n : Nat) : List UInt8 := ((List.range n).map fun j => [92, 120, hexd ((sB s (i + j)).toNat / 16), hexd ((sB s (i + j)).toNat % 16)]).flatten
theorem hexes_succ (s : ByteArray) (i n : Nat) : hexes s i (n + 1) = hexes s i n ++ [92, 120, hexd ((sB s (i + n)).toNat / 16), hexd ((sB s (i + n)).toNat % 16)] := by
  simp [hexes, List.range_succ, List.map_append, List.flatten_append]
theorem hexes_len (s : ByteArray) (i n : Nat) : (hexes s i n).length = 4 * n := by
  induction n with
  | zero => rfl
  | succ n ih => rw [hexes_succ, List.length_append, ih]; simp; omega
theorem quoteL_hi (s : ByteArray) (i : Nat) : ∀ (n : Nat), i + n ≤ s.size → (∀ j, j < n → quoteB (sB s (i + j)) = [92, 120, hexd ((sB s (i + j)).toNat / 16), hexd ((sB s (i + j)).toNat % 16)]) → quoteL (s.data.toList.take (i + n)) = quoteL (s.data.toList.take i) ++ hexes s i n
  | 0, h, hb => by simp [hexes]
  | n + 1, h, hb => by
    rw [show i + (n + 1) = i + n + 1 by omega, quoteL_step s (i + n) (by omega), quoteL_hi s i n (by omega) (fun j hj => hb j (by omega)), hb n (by omega), hexes_succ, List.append_assoc]
/-- a rune that is written as its bytes -/
theorem dec_hex (s : ByteArray) (i : Nat) (hi : i < s.size) (hq : ¬ ((sB s i).toNat = 34 ∨ (sB s i).toNat = 92)) (hp : ¬ (32 ≤ (sB s i).toNat ∧ (sB s i).toNat ≤ 126)) :
    ∃ c n, Utf8.decode s i = (c, n) ∧ c ≠ 34 ∧ c ≠ 92 ∧ ¬ (32 ≤ c ∧ c ≤ 126) ∧ c ≤ 1114111 ∧ 1 ≤ n ∧ n ≤ 4 ∧ i + n ≤ s.size ∧ quoteL (s.data.toList.take (i + n)) = quoteL (s.data.toList.take i) ++ hexes s i n ∧ (Utf8.encode (c : Int)).size ≤ 4 ∧
      (((c == 65533) && !fffdAt s i) = true → n = 1) ∧ (((c == 65533) && !fffdAt s i) = false → n = (Utf8.encode (c : Int)).size) := by
  have hg := get_sB s i hi
  by_cases hb : 128 ≤ (sB s i).toNat
  · obtain ⟨c, n, h, h1, h2, h3, h4, h5, h6, h7, h8⟩ := dec_facts s i hi (by rw [hg]; exact hb)
    refine ⟨c, n, h, by omega, by omega, by omega, h2, h3, h4, h5, ?_, ?_, h7, h8⟩
    · refine quoteL_hi s i n h5 fun j hj => ?_
      have := h6 j hj
      rw [get_sB s (i + j) (by omega)] at this
      exact quoteB_b (by omega) (.inr (by omega))
    · have hv : Utf8.valid (c : Int) = true ∨ Utf8.valid (c : Int) = false := by cases Utf8.valid (c : Int) <;> simp
      have h : (Utf8.encode (c : Int)).size ≤ 4 := by
        unfold Utf8.encode
        simp only []
        repeat' split
        all_goals (first | decide | (show _ ≤ 4; exact Nat.le_of_ble_eq_true rfl))
      exact h
  · have hd : Utf8.decode s i = ((sB s i).toNat, 1) := by
      rw [Lib.decode_at, hg]
      unfold Lib.decodeN
      rw [if_pos (by omega)]
    have he : (Utf8.encode ((sB s i).toNat : Int)).size = 1 := by
      rw [enc_size _ (by omega)]
      unfold encN
      rw [if_pos (by omega)]
    refine ⟨(sB s i).toNat, 1, hd, by omega, by omega, hp, by omega, by omega, by omega, by omega, ?_, by omega, ?_, ?_⟩
    · exact quoteL_hi s i 1 (by omega) fun j hj => by
        obtain rfl : j = 0 := by omega
        exact quoteB_b hq (by simp only [Nat.add_zero]; omega)
    · intro _; rfl
    · intro _; rw [he]
theorem dec_low (s : ByteArray) (i : Nat) (hi : i < s.size) (h : (sB s i).toNat < 128) : Utf8.decode s i = ((sB s i).toNat, 1) := by
  rw [Lib.decode_at, get_sB s i hi]
  unfold Lib.decodeN
  rw [if_pos h]
theorem encode_hex (n : Nat) (h : n < 16) : Utf8.encode ((hexd n).toNat : Int) = ⟨#[hexd n]⟩ := by
  have key : ∀ n : Fin 16, Utf8.encode ((hexd n.val).toNat : Int) = ⟨#[hexd n.val]⟩ := by decide
  exact key ⟨n, h⟩
end Go.Proofs.YthlfeiiolafonaaDoor
