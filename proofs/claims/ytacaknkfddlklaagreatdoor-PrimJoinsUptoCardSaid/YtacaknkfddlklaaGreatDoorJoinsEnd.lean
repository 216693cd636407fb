/- PrimJoins, of any two values. -/
import Derived.Test.YtacaknkfddlklaaGreatDoorPrimJoins
set_option linter.unusedVariables false
set_option linter.unusedSimpArgs false
namespace Go.Proofs.YtacaknkfddlklaaGreatDoor
open Go.RowKit Go.IntWalk

theorem law_PrimJoins (a b : V) (va vb : Value) (oka okb : Nat → Prop) (w : World) (hva : RdV oka w va a) (hvb : RdV okb w vb b) (hl : Hid (CodeLaid w)) :
    Calls Tryz.prog 7 #[va, vb] w fun e w' => e = .returned (.bool true) ∧ Below w.heap.size w w' := by
  by_cases hr : rightB a = true ∧ rightB b = true
  · obtain ⟨ha, hb⟩ := hr
    cases hR : addS a b with
    | mk R t =>
      by_cases hs : t ≠ 0 ∨ R.kind = 2
      · exact law_joins_short a b R t hs va vb oka okb w hva hvb hl (Lib.hid fun A W h1 h2 => jn_add a b ha hb R t hR A 2 anyB W h1 (Nat.le_refl _) (by decide) h2)
      · have ht : t = 0 := by
          rcases Decidable.em (t = 0) with h | h
          · exact h
          · exact absurd (Or.inl h) hs
        subst ht
        have hk : R.kind ≠ 2 := fun h => hs (Or.inr h)
        obtain ⟨hRr, h1, h2, h3, h4⟩ := jn_all ha hb hR hk
        exact law_joins_full a b R hk (long_ok a ha) (long_ok R hRr) va vb oka okb w hva hvb hl
          (Lib.hid fun A W h1 h2 => jn_add a b ha hb R 0 hR A 2 anyB W h1 (Nat.le_refl _) (by decide) h2)
          (Lib.hid fun A W g1 g2 => jn_len a ha h1 A 1 anyB W g1 (Nat.le_refl _) (by decide) g2)
          (Lib.hid fun A W g1 g2 => jn_len R hRr h2 A 1 anyB W g1 (Nat.le_refl _) (by decide) g2)
          (Lib.hid fun A W g1 g2 => h3 A 3 anyB W g1 (Nat.le_refl _) (by decide) g2)
          (Lib.hid fun A W g1 g2 => h4 A 3 anyB W g1 (Nat.le_refl _) (by decide) g2)
  · exact law_joins_short a b V.zero 3 (Or.inl (by decide)) va vb oka okb w hva hvb hl (Lib.hid fun A W h1 h2 => jn_bad a b hr A 2 anyB W h1 (Nat.le_refl _) (by decide) h2)
end Go.Proofs.YtacaknkfddlklaaGreatDoor
