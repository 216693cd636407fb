/- Contract of the law's 'shown': the document's first example. -/
import Derived.Test.YtgnoiliaidfepaaDoorLexSame
set_option linter.unusedVariables false
set_option linter.unusedSimpArgs false
namespace Go.Proofs.YtgnoiliaidfepaaDoor
open Go.RowKit Go.IntWalk

def shownS : List UInt8 := [108, 101, 116, 32, 97, 32, 61, 32, 49, 50, 59, 32, 47, 47, 32, 120]
def shownT : List Tok := [⟨2, [108, 101, 116], 0, 0⟩, ⟨1, [97], 0, 4⟩, ⟨5, [61], 0, 6⟩, ⟨3, [], 12, 8⟩, ⟨5, [59], 0, 10⟩, ⟨0, [], 0, 16⟩]
def isOk (r : Except (Nat × Nat) (List Tok)) (l : List Tok) : Bool := match r with
  | .ok t => decide (t = l)
  | .error _ => false
theorem shown_ok : allS shownS = .ok shownT := by
  have h : isOk (allS shownS) shownT = true := by decide +kernel
  unfold isOk at h
  split at h
  · rename_i t ht
    rw [ht]
    have : t = shownT := by simpa using h
    rw [this]
  · cases h

set_option maxRecDepth 20000 in
set_option maxHeartbeats 800000 in
theorem law_shown (w : World) (hW : LexW w) :
    Calls Tryd.prog 18 #[] w fun e w' => e = .returned (.bool true) ∧ Below w.heap.size w w' := by
  have hall : Calls Tryd.prog 15 #[.string ⟨#[108, 101, 116, 32, 97, 32, 61, 32, 49, 50, 59, 32, 47, 47, 32, 120]⟩] w fun e w' => Below w.heap.size w w' ∧ ∃ g cap, e = .returned (.tuple #[.slice (some ⟨g, 0, none⟩) 6 cap, .int .i64 0, .int .i64 0]) ∧ w'.cell? ⟨g, 0, none⟩ = some (.int .i64 2) ∧ w'.cell? ⟨g, 1, none⟩ = some (.string ⟨#[108, 101, 116]⟩) ∧ w'.cell? ⟨g, 2, none⟩ = some (.int .i64 0) ∧ w'.cell? ⟨g, 3, none⟩ = some (.int .i64 0) ∧ w'.cell? ⟨g, 4, none⟩ = some (.int .i64 1) ∧ w'.cell? ⟨g, 5, none⟩ = some (.string ⟨#[97]⟩) ∧ w'.cell? ⟨g, 6, none⟩ = some (.int .i64 0) ∧ w'.cell? ⟨g, 7, none⟩ = some (.int .i64 4) ∧ w'.cell? ⟨g, 12, none⟩ = some (.int .i64 3) ∧ w'.cell? ⟨g, 13, none⟩ = some (.string ⟨#[]⟩) ∧ w'.cell? ⟨g, 14, none⟩ = some (.int .i64 12) ∧ w'.cell? ⟨g, 15, none⟩ = some (.int .i64 8) ∧ w'.cell? ⟨g, 20, none⟩ = some (.int .i64 0) ∧ w'.cell? ⟨g, 21, none⟩ = some (.string ⟨#[]⟩) ∧ w'.cell? ⟨g, 22, none⟩ = some (.int .i64 0) ∧ w'.cell? ⟨g, 23, none⟩ = some (.int .i64 16) := by
    refine (lex_All ⟨#[108, 101, 116, 32, 97, 32, 61, 32, 49, 50, 59, 32, 47, 47, 32, 120]⟩ w (by decide) hW).mono fun e w' h => ?_
    have e1 : allS (⟨#[108, 101, 116, 32, 97, 32, 61, 32, 49, 50, 59, 32, 47, 47, 32, 120]⟩ : ByteArray).data.toList = .ok shownT := shown_ok
    rw [e1] at h
    obtain ⟨hb, g', n', rfl, hr⟩ := h
    obtain ⟨g0, c0, hv0, _, _, _, a0, a1, a2, a3⟩ := hr.cells 0 (by decide)
    obtain ⟨g1, c1, hv1, _, _, _, b0, b1, b2, b3⟩ := hr.cells 1 (by decide)
    obtain ⟨g3, c3, hv3, _, _, _, d0, d1, d2, d3⟩ := hr.cells 3 (by decide)
    obtain ⟨g5, c5, hv5, _, _, _, f0, f1, f2, f3⟩ := hr.cells 5 (by decide)
    injection hv0 with i0 i0' i0''; injection i0 with i0; injection i0 with i0; subst i0; subst i0'
    injection hv1 with i1 _ _; injection i1 with i1; injection i1 with i1; subst i1
    injection hv3 with i3 _ _; injection i3 with i3; injection i3 with i3; subst i3
    injection hv5 with i5 _ _; injection i5 with i5; injection i5 with i5; subst i5
    exact ⟨hb, _, _, rfl, a0, a1, a2, a3, b0, b1, b2, b3, d0, d1, d2, d3, f0, f1, f2, f3⟩
  have hgu := tok_guard
  have q0 := fun W => tok_eql ⟨2, [108, 101, 116], 0, 0⟩ ⟨2, [108, 101, 116], 0, 0⟩ W
  have q1 := fun W => tok_eql ⟨1, [97], 0, 4⟩ ⟨1, [97], 0, 4⟩ W
  have q3 := fun W => tok_eql ⟨3, [], 12, 8⟩ ⟨3, [], 12, 8⟩ W
  have q5 := fun W => tok_eql ⟨0, [], 0, 16⟩ ⟨0, [], 0, 16⟩ W
  go_enter Tryd.func18, Tryd.ntmps18
  go_wp2_with (go_at_call 15; refine hall.mono ?_; rintro e w1 ⟨hb, g, cap, rfl, a0, a1, a2, a3, b0, b1, b2, b3, d0, d1, d2, d3, f0, f1, f2, f3⟩; have Hb := Lib.hid hb; clear hb)
  go_ret
  exact ⟨rfl, Hb.out⟩
end Go.Proofs.YtgnoiliaidfepaaDoor
