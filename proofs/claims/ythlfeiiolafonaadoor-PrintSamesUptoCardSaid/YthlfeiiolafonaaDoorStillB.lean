/- Contracts of the law's alike, same, stays, still, of what reads as the same. Contracts of the law's stays and still, of what reads as the same. -/
import Derived.Test.YthlfeiiolafonaaDoorPrintRS
import Derived.Test.YthlfeiiolafonaaDoorPrintCount
set_option linter.unusedVariables false
set_option linter.unusedSimpArgs false
namespace Go.Proofs.YthlfeiiolafonaaDoor
open Go.RowKit Go.IntWalk Go.Sort

/-- a value's box -/
abbrev HeldV (g : Nat) (c0 c1 c2 c3 c4 : Value) (W : World) : Prop := Held g #[c0, c1, c2, c3, c4] 25 W
theorem HeldV.facts {g : Nat} {c0 c1 c2 c3 c4 : Value} {W : World} (h : HeldV g c0 c1 c2 c3 c4 W) : W.cell? ⟨g, 0, none⟩ = some c0 ∧ W.cell? ⟨g, 1, none⟩ = some c1 ∧ W.cell? ⟨g, 2, none⟩ = some c2 ∧ W.cell? ⟨g, 3, none⟩ = some c3 ∧ W.cell? ⟨g, 4, none⟩ = some c4 :=
  ⟨h.cell 0 rfl, h.cell 1 rfl, h.cell 2 rfl, h.cell 3 rfl, h.cell 4 rfl⟩
theorem five_of {ok : Nat → Prop} {w : World} {v : Value} {X : V} (h : RdV ok w v X) : ∃ A c B d, v = valV X A c B d := by
  obtain ⟨A, c, B, d, rfl, _⟩ := h.form
  exact ⟨A, c, B, d, rfl⟩
end Go.Proofs.YthlfeiiolafonaaDoor
namespace Go.Proofs.YthlfeiiolafonaaDoor
open Go.RowKit Go.IntWalk Go.Sort

end Go.Proofs.YthlfeiiolafonaaDoor
