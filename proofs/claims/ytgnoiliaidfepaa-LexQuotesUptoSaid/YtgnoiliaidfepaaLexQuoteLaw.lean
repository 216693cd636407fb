/- LexQuotes, the law's walk: over any list of texts of at most 1048576 bytes each. -/
import Derived.Test.YtgnoiliaidfepaaLexQuote
set_option linter.unusedVariables false
set_option linter.unusedSimpArgs false
namespace Go.Proofs.Ytgnoiliaidfepaa
open Go.RowKit

set_option maxHeartbeats 1000000 in
theorem law_LexQuotes (A : Option Addr) (n c : Nat) (xs : List ByteArray) (w : World) (hx : Hid (Strs w A n xs)) (hn : n ≤ 9223372036854775807) (hz : Hid (∀ x ∈ xs, x.size ≤ 1048576)) :
    Calls Try.prog 3 #[.slice A n c] w fun e w' => e = .returned (.bool true) ∧ Below w.heap.size w w' := by
  go_enter Try.func3, Try.ntmps3
  go_wp2
  go_loopw [3] (fun i wr => ∃ k : Nat, k ≤ n ∧ i = .int .i64 k ∧ Below w.heap.size w wr) (fun i _ => n - (intOf i).toNat)
  case atStart => exact ⟨0, Nat.zero_le _, rfl, Below.refl _ _⟩
  case round =>
    obtain ⟨k, hk, rfl, hb⟩ := hrel
    by_cases hlt : k < n
    · have hc := Strs.below hx.out hb k hlt
      obtain ⟨ad, rfl, hc⟩ := hc
      have hsz : (sAt xs k).size ≤ 1048576 := sAt_size hx.out hz.out k hlt
      go_wp2_with fail
      go_region_held3 (fun w' => w'.cell? (ad.add k) = some (.string (sAt xs k)) ∧ Below w.heap.size w w') ((first | exact ⟨hc, hb.drew⟩ | exact keep1 ‹_› hb1))
        (first
          | (go_at_call 5; refine (lex_Quote _ _ hsz).mono ?_; rintro e w1 ⟨rfl, hb1⟩)
          | (go_at_call 6; refine (ref_Quote _ _ hsz).mono ?_; rintro e w1 ⟨rfl, hb1⟩))
      go_wp2
      go_roundw
      case rel => exact ⟨k + 1, by omega, by go_num, (‹_ ∧ _› : _ ∧ _).2⟩
      case measure => simp [intOf]; omega
    · go_wp2_with (go_at_call 5; refine (lex_Quote _ _ (by decide)).mono ?_; rintro e w1 ⟨rfl, hb1⟩)
      go_ret
      exact ⟨rfl, bthen hb hb1⟩
end Go.Proofs.Ytgnoiliaidfepaa
