/- Contracts of the statements' number and shown. -/
import Derived.Test.YtacaknkfddlklaaGreatDoorDoNum
set_option linter.unusedVariables false
set_option linter.unusedSimpArgs false
namespace Go.Proofs.YtacaknkfddlklaaGreatDoor
open Go.RowKit Go.IntWalk

set_option maxRecDepth 20000 in
set_option maxHeartbeats 1000000 in
theorem law_number (w : World) (n : Int) :
    Calls Tryz.prog 25 #[.int .i64 n] w fun e w' => e = .returned (aggV 2 n) ∧ w' = w.alloc (cellsV 2 n) := by
  go_enter Tryz.func25, Tryz.ntmps25
  go_wp2
  refine bodyPost_ret (v := aggV 2 n) (by simp [results, Tryz.results25, go_sem]) rfl ⟨rfl, rfl⟩
/-- the row of two numbers, new -/
theorem two_new (w : World) (a b : Int) (ha : i64ok a) (hb : i64ok b) {A1 B1 A2 B2 : Option Addr} {c1 d1 c2 d2 : Nat} (n cap : Nat) (h1 : c1 ≤ 9223372036854775807) (h2 : d1 ≤ 9223372036854775807) (h3 : c2 ≤ 9223372036854775807) (h4 : d2 ≤ 9223372036854775807) {g : Nat} (hg : g = w.heap.size) :
    RdVs (newB 0) (w.alloc (.cells #[.int .i64 2, .int .i64 a, .string ⟨#[]⟩, .slice A1 0 c1, .slice B1 0 d1, .int .i64 2, .int .i64 b, .string ⟨#[]⟩, .slice A2 0 c2, .slice B2 0 d2] 25)) (.slice (some ⟨g, 0, none⟩) n cap) 0 [numb a, numb b] := by
  subst hg
  refine two_list (A1 := A1) (B1 := B1) (A2 := A2) (B2 := B2) (Nat.zero_le _) ha hb n cap h1 h2 h3 h4 fun i hi => ?_
  rw [World.cell?_alloc_at _ _ _ _ rfl]
  exact Array.getElem?_eq_getElem _
theorem one_new (w : World) (a : Int) (ha : i64ok a) {A1 B1 : Option Addr} {c1 d1 : Nat} (n cap : Nat) (h1 : c1 ≤ 9223372036854775807) (h2 : d1 ≤ 9223372036854775807) {g : Nat} (hg : g = w.heap.size) :
    RdVs (newB 0) (w.alloc (.cells #[.int .i64 2, .int .i64 a, .string ⟨#[]⟩, .slice A1 0 c1, .slice B1 0 d1] 25)) (.slice (some ⟨g, 0, none⟩) n cap) 0 [numb a] := by
  subst hg
  refine one_list (A1 := A1) (B1 := B1) (Nat.zero_le _) ha n cap h1 h2 fun i hi => ?_
  rw [World.cell?_alloc_at _ _ _ _ rfl]
  exact Array.getElem?_eq_getElem _
set_option maxRecDepth 20000 in
set_option maxHeartbeats 1000000 in
theorem prim_shown (w : World) (hl : Hid (CodeLaid w)) :
    Calls Tryz.prog 9 #[] w fun e w' => e = .returned (.bool true) ∧ Below w.heap.size w w' := by
  go_enter Tryz.func9, Tryz.ntmps9
  go_wp2_with fail
  refine (law_number _ _).mono ?_
  rintro e w1 ⟨rfl, rfl⟩
  go_wp2_with fail
  refine (law_number _ _).mono ?_
  rintro e w1 ⟨rfl, rfl⟩
  go_wp2_with fail
  refine (do10 2 3 _ 2 (newB 0) _ (two_new _ 2 3 i64ok_2 (i64ok_small (by decide) (by decide)) 2 2 (by decide) (by decide) (by decide) (by decide) (by simp)) (Nat.le_refl _) (by decide) (Lib.hid (hl.out.below (three_alloc _ _ _ _)))).mono ?_
  rintro e w1 ⟨A, c, B, d, rfl, hc, hd, hb⟩
  have hw : wrap64 (2 + 3) = 5 := by unfold wrap64; decide
  rw [hw]
  have HB := Lib.hid (bthen (three_alloc w _ _ _) hb)
  clear hb hw
  go_wp2
  go_ret
  exact ⟨rfl, HB.out.alloc HB.out.size _⟩
end Go.Proofs.YtacaknkfddlklaaGreatDoor
