/- Contracts of the law's decimals and written: a token as a source says it. -/
import Derived.Test.YtgnoiliaidfepaaDoorLexShown
import Derived.Test.YtgnoiliaidfepaaDoorLexRound
import Derived.Test.YtgnoiliaidfepaaDoorLexQuoteP
set_option linter.unusedVariables false
set_option linter.unusedSimpArgs false
namespace Go.Proofs.YtgnoiliaidfepaaDoor
open Go.RowKit Go.IntWalk

/-- the digits that are still to come, ahead of those that are there -/
def decP (f k : Nat) : List UInt8 := if k = 0 then [] else decF f k
theorem decF_step (f k : Nat) (hk : k < 10 ^ (f + 1)) : decF (f + 1) k = decP f (k / 10) ++ [UInt8.ofNat (48 + k % 10)] := by
  rw [decF, decP]
  by_cases h : k < 10
  · rw [if_pos h, if_pos (by omega), Nat.mod_eq_of_lt h]; rfl
  · rw [if_neg h, if_neg (by omega)]
theorem decP_step (f k : Nat) (h : 0 < k) (hk : k < 10 ^ (f + 1)) : decP (f + 1) k = decP f (k / 10) ++ [UInt8.ofNat (48 + k % 10)] := by
  rw [← decF_step f k hk, decP, if_neg (by omega)]
theorem pow_div {f k : Nat} (hk : k < 10 ^ (f + 1)) : k / 10 < 10 ^ f := by
  rw [Nat.div_lt_iff_lt_mul (by omega)]
  rw [Nat.pow_succ] at hk
  exact hk
theorem dig_conv (k : Nat) (W : World) : (convert 66 9 (.slice (some ⟨W.heap.size, 0, none⟩) 1 1)).run Tryd.prog (W.alloc (.cells #[.int .u8 ((48 : Int) + ((k : Int) % 10))] 5)) = .ok (.string ⟨#[UInt8.ofNat (48 + k % 10)]⟩) (W.alloc (.cells #[.int .u8 ((48 : Int) + ((k : Int) % 10))] 5)) := by
  have hd : (UInt8.ofNat (48 + k % 10)).toNat = 48 + k % 10 := digit_of (Nat.mod_lt _ (by omega))
  have e : (48 : Int) + ((k : Int) % 10) = ((UInt8.ofNat (48 + k % 10)).toNat : Int) := by rw [hd]; omega
  rw [e]
  exact (OwnB.lit (fun _ => True) W [UInt8.ofNat (48 + k % 10)] _ rfl 1 rfl (by simp) trivial).toStr

theorem ba_app (a b : List UInt8) : (⟨a.toArray⟩ ++ ⟨b.toArray⟩ : ByteArray) = ⟨(a ++ b).toArray⟩ := ByteArray.ext (by simp [ByteArray.data_append])
theorem dig_app (k : Nat) (l : List UInt8) : (⟨#[48 + UInt8.ofNat (k % 10)]⟩ ++ ⟨l.toArray⟩ : ByteArray) = ⟨(UInt8.ofNat (48 + k % 10) :: l).toArray⟩ := by
  have h := ba_app [48 + UInt8.ofNat (k % 10)] l
  rw [show (UInt8.ofNat (48 + k % 10)) = 48 + UInt8.ofNat (k % 10) by simp]
  exact h

set_option maxRecDepth 20000 in
set_option maxHeartbeats 400000 in
theorem law_decimals (n : Nat) (w : World) (hn : n < 9223372036854775808) :
    Calls Tryd.prog 41 #[.int .i64 (n : Int)] w fun e w' => e = .returned (.string ⟨(decS n).toArray⟩) ∧ Below w.heap.size w w' := by
  have h20 : n < 10 ^ (19 + 1) := by omega
  go_enter Tryd.func41, Tryd.ntmps41
  go_wp2
  go_loopw [0, 3] (fun v s wr => ∃ (f k : Nat) (l : List UInt8), v = .int .i64 (k : Int) ∧ s = .string ⟨l.toArray⟩ ∧ k ≤ n ∧ k < 10 ^ f ∧ l.length + f ≤ 20 ∧ ((l = [] ∧ k = n ∧ f = 20) ∨ (l ≠ [] ∧ decS n = decP f k ++ l)) ∧ Below w.heap.size w wr) (fun v s _ => 1 + (intOf v).toNat - (match s with | .string b => if b.size = 0 then 0 else 1 | _ => 0))
  case atStart => exact ⟨20, n, [], rfl, rfl, by omega, h20, by simp, .inl ⟨rfl, rfl, rfl⟩, Below.refl _ _⟩
  case round =>
    obtain ⟨f, k, l, rfl, rfl, hk, hkf, hlf, hcase, hb⟩ := hrel
    have Hkf := Lib.hid hkf
    have Hb := Lib.hid hb
    clear hkf hb h20
    have hdc := dig_conv k
    have hk10 : IntKind.u8.wrap ((48 : Int) + (k : Int) % 10) = 48 + (k : Int) % 10 := IntWalk.u8_in _ (by omega)
    rcases hcase with ⟨rfl, hkn, hf20⟩ | ⟨hne, hdec⟩
    · have Hkn : Hid (k = n ∧ f = 20) := ⟨hkn, hf20⟩
      clear hkn hf20
      go_wp2
      have e : (⟨#[48 + UInt8.ofNat (k % 10)]⟩ ++ ⟨#[]⟩ : ByteArray) = ⟨([UInt8.ofNat (48 + k % 10)] : List UInt8).toArray⟩ := dig_app k []
      rw [e]
      obtain ⟨rfl, rfl⟩ := Hkn.out
      have hp := pow_div (f := 19) Hkf.out
      have hd := decF_step 19 k Hkf.out
      refine ⟨⟨19, k / 10, [UInt8.ofNat (48 + k % 10)], by go_num, rfl, by omega, hp, by simp, .inr ⟨by simp, hd⟩, Hb.out.alloc (by have := Hb.out.size; omega) _⟩, ?_⟩
      simp [intOf, ByteArray.size]
      omega
    · have Hdec := Lib.hid hdec
      clear hdec
      have hem : l.isEmpty = false := by simpa using hne
      by_cases h0 : 0 < k
      · go_wp2
        have e : (⟨#[48 + UInt8.ofNat (k % 10)]⟩ ++ ⟨l.toArray⟩ : ByteArray) = ⟨(UInt8.ofNat (48 + k % 10) :: l).toArray⟩ := dig_app k l
        rw [e]
        have hkf := Hkf.out
        obtain ⟨f, rfl⟩ : ∃ m, f = m + 1 := by
          cases f with
          | zero => simp at hkf; omega
          | succ f => exact ⟨f, rfl⟩
        have hp := pow_div hkf
        have hd := decP_step f k h0 hkf
        have hl0 : 0 < l.length := List.length_pos_iff.2 hne
        refine ⟨⟨f, k / 10, UInt8.ofNat (48 + k % 10) :: l, by go_num, rfl, by omega, hp, by simp; omega, .inr ⟨by simp, by rw [Hdec.out, hd]; simp⟩, Hb.out.alloc (by have := Hb.out.size; omega) _⟩, ?_⟩
        have z1 : (⟨l.toArray⟩ : ByteArray).size = l.length := by simp [ByteArray.size]
        simp only [intOf, z1, if_neg (show ¬ l.length = 0 by omega)]
        simp [ByteArray.size]
        omega
      · obtain rfl : k = 0 := by omega
        go_wp2
        go_ret
        have hd := Hdec.out
        rw [show decP f 0 = [] by rfl, List.nil_append] at hd
        exact ⟨by rw [hd]; rfl, Hb.out⟩

abbrev tokAs (X : Tok) : Value := .agg #[.int .i64 (X.kind : Int), .string ⟨X.text.toArray⟩, .int .i64 (X.n : Int), .int .i64 (X.pos : Int)]
set_option maxRecDepth 20000 in
set_option maxHeartbeats 400000 in
theorem law_written (X : Tok) (w : World) (hn : X.n < 9223372036854775808) (ht : X.text.length ≤ 1048576) :
    Calls Tryd.prog 20 #[tokAs X] w fun e w' => e = .returned (.string ⟨(writtenS X).toArray⟩) ∧ Below w.heap.size w w' := by
  have hd := fun W => law_decimals X.n W hn
  have hq := fun W => lex_Quote ⟨X.text.toArray⟩ W (by simpa [ByteArray.size] using ht)
  obtain ⟨kd, t, n, p⟩ := X
  by_cases h3 : kd = 3
  · subst h3
    have e : writtenS ⟨3, t, n, p⟩ = decS n := rfl
    rw [e]
    clear hq e
    go_enter Tryd.func20, Tryd.ntmps20
    go_wp2_with (go_at_call 41; refine (hd _).mono ?_; rintro e w1 ⟨rfl, hb1⟩)
    go_ret
    exact ⟨rfl, bthen ((Below.refl _ _).alloc (Nat.le_refl _) _) hb1⟩
  have g3 : ((kd : Int) == 3) = false := by simp; omega
  by_cases h4 : kd = 4
  · subst h4
    have e : writtenS ⟨4, t, n, p⟩ = quoteS t := rfl
    rw [e]
    clear hd e
    go_enter Tryd.func20, Tryd.ntmps20
    go_wp2_with (go_at_call 19; refine (hq _).mono ?_; rintro e w1 ⟨rfl, hb1⟩)
    go_ret
    exact ⟨rfl, bthen ((Below.refl _ _).alloc (Nat.le_refl _) _) hb1⟩
  have g4 : ((kd : Int) == 4) = false := by simp; omega
  have e : writtenS ⟨kd, t, n, p⟩ = t := by simp [writtenS, h3, h4]
  rw [e]
  clear hd hq h3 h4 e
  go_enter Tryd.func20, Tryd.ntmps20
  go_wp2
  go_ret
  exact ⟨rfl, (Below.refl _ _).alloc (Nat.le_refl _) _⟩
end Go.Proofs.YtgnoiliaidfepaaDoor
