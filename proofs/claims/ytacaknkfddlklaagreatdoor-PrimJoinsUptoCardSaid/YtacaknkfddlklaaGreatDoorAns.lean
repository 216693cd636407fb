/- What a function of prim answers: a value in new memory, and a trap. No function of the program is named here. -/
import Derived.Test.YtacaknkfddlklaaGreatDoorVal
set_option linter.unusedVariables false
set_option linter.unusedSimpArgs false
namespace Go.Proofs.YtacaknkfddlklaaGreatDoor
open Go.RowKit

theorem SlAt.imp {ok ok' : Nat → Prop} {v : Value} {sz i g o : Nat} (h : SlAt ok v sz i g o) (hk : ∀ b, ok b → ok' b) : SlAt ok' v sz i g o := h.mono (hk _)
theorem RdK.imp {ok ok' : Nat → Prop} {w : World} {v : Value} {k : List (List UInt8)} (h : RdK ok w v k) (hk : ∀ b, ok b → ok' b) : RdK ok' w v k := by
  refine ⟨h.1, fun i hi => ?_⟩
  obtain ⟨g, o, h1, h2, h3⟩ := h.2 i hi
  exact ⟨g, o, h1.imp hk, h2, h3⟩
mutual
theorem RdV.imp {ok ok' : Nat → Prop} {w : World} (hk : ∀ b, ok b → ok' b) : ∀ {v : Value} {x : V}, RdV ok w v x → RdV ok' w v x
  | v, .mk kind n s l k, h => by
    unfold RdV at h ⊢
    obtain ⟨h1, h2, h3, lv, kv, h4, h5, h6, h7⟩ := h
    exact ⟨h1, h2, h3, lv, kv, h4, h5, RdVs.imp hk h6, h7.imp hk⟩
theorem RdVs.imp {ok ok' : Nat → Prop} {w : World} (hk : ∀ b, ok b → ok' b) : ∀ {lv : Value} {i : Nat} {l : List V}, RdVs ok w lv i l → RdVs ok' w lv i l
  | lv, i, [], h => by unfold RdVs; trivial
  | lv, i, x :: l, h => by
    unfold RdVs at h ⊢
    obtain ⟨⟨g, o, v, h1, h2, h3⟩, h4⟩ := h
    exact ⟨⟨g, o, v, h1.imp hk, h2, RdV.imp hk h3⟩, RdVs.imp hk h4⟩
end
/-- new memory: blocks from n on -/
abbrev newB (n : Nat) : Nat → Prop := fun b => n ≤ b
/-- the answer: the value X in new memory, and the trap t -/
def AnsPost (w : World) (X : V) (t : Int) (e : Ending) (w' : World) : Prop := ∃ v, e = .returned (.tuple #[v, .int .i64 t]) ∧ RdV (newB w.heap.size) w' v X ∧ Below w.heap.size w w'
theorem i64ok_wrap (n : Int) : i64ok (wrap64 n) := by unfold i64ok wrap64; omega
theorem i64ok_small {n : Int} (h1 : -1000 ≤ n) (h2 : n ≤ 1000) : i64ok n := by unfold i64ok; omega
end Go.Proofs.YtacaknkfddlklaaGreatDoor
