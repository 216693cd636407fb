/- A value's blocks are there. -/
import Derived.Test.YtacaknkfddlklaaGreatDoorVal
set_option linter.unusedVariables false
set_option linter.unusedSimpArgs false
namespace Go.Proofs.YtacaknkfddlklaaGreatDoor
open Go.RowKit

/-! its blocks are there -/
theorem Five.lt {w : World} {g o : Nat} {v : Value} (h : Five w g o v) : g < w.heap.size := by
  obtain ⟨c0, c1, c2, c3, c4, hv, h0, _⟩ := h
  exact World.block_lt_of_cell? w _ h0
mutual
theorem RdV.lt {ok : Nat → Prop} {w : World} : ∀ {v : Value} {x : V}, RdV ok w v x → RdV (fun b => ok b ∧ b < w.heap.size) w v x
  | v, .mk kind n s l k, h => by
    unfold RdV at h ⊢
    obtain ⟨h1, h2, h3, lv, kv, h4, h5, h6, h7⟩ := h
    refine ⟨h1, h2, h3, lv, kv, h4, h5, RdVs.lt h6, h7.1, fun i hi => ?_⟩
    obtain ⟨g, o, q1, q2, q3⟩ := h7.2 i hi
    exact ⟨g, o, q1.mono fun hg => ⟨hg, World.block_lt_of_cell? w _ q2⟩, q2, q3⟩
theorem RdVs.lt {ok : Nat → Prop} {w : World} : ∀ {lv : Value} {i : Nat} {l : List V}, RdVs ok w lv i l → RdVs (fun b => ok b ∧ b < w.heap.size) w lv i l
  | lv, i, [], h => by unfold RdVs; trivial
  | lv, i, x :: l, h => by
    unfold RdVs at h ⊢
    obtain ⟨⟨g, o, v, h1, h2, h3⟩, h4⟩ := h
    exact ⟨⟨g, o, v, h1.mono fun hg => ⟨hg, h2.lt⟩, h2, RdV.lt h3⟩, RdVs.lt h4⟩
end
end Go.Proofs.YtacaknkfddlklaaGreatDoor
