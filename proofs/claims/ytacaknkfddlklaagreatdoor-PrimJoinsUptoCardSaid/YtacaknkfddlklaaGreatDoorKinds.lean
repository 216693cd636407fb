/- Contract of prim.kinds at two values. -/
import Derived.Test.YtacaknkfddlklaaGreatDoorLeaves
set_option linter.unusedVariables false
set_option linter.unusedSimpArgs false
namespace Go.Proofs.YtacaknkfddlklaaGreatDoor
open Go.RowKit Go.IntWalk

set_option maxRecDepth 20000 in
set_option maxHeartbeats 1000000 in
theorem prim_kinds (x y : V) (k1 k2 : Int) (A : Option Addr) (c d : Nat) (p : Nat) (ok : Nat → Prop) (w : World) (hls : RdVs ok w (.slice A 2 c) 0 [x, y])
    (hk1 : w.cell? ⟨p, 0, none⟩ = some (.int .i64 k1)) (hk2 : w.cell? ⟨p, 1, none⟩ = some (.int .i64 k2)) :
    Calls Tryz.prog 102 #[.slice A 2 c, .slice (some ⟨p, 0, none⟩) 2 d] w fun e w' => e = .returned (.bool (decide (x.kind = k1) && decide (y.kind = k2))) ∧ w' = w := by
  obtain ⟨g, off, A1, c1, B1, d1, rfl, hog, hr0, e0, e1, e2, e3, e4⟩ := hls.elem 0 (by simp)
  obtain ⟨g', off', A2, c2, B2, d2, hgg, hog', hr1, f0, f1, f2, f3, f4⟩ := hls.elem 1 (by simp)
  injection hgg with hgg
  injection hgg with hg1 hg2
  subst hg1 hg2
  simp only [List.getElem_cons_zero, List.getElem_cons_succ, Nat.zero_mul, Nat.one_mul, Nat.add_zero] at e0 f0
  clear hls hr0 hr1 e1 e2 e3 e4 f1 f2 f3 f4 hog hog'
  go_enter Tryz.func102, Tryz.ntmps102
  go_wp2_with fail
  go_loopw [9] (fun i wr => ∃ k : Nat, k ≤ 2 ∧ i = .int .i64 k ∧ wr = w ∧ (0 < k → x.kind = k1) ∧ (1 < k → y.kind = k2)) (fun i _ => 2 - (intOf i).toNat)
  case atStart => exact ⟨0, by omega, rfl, rfl, by omega, by omega⟩
  case round =>
    obtain ⟨k, hk, rfl, rfl, h1, h2⟩ := hrel
    have H1 := Lib.hid h1
    have H2 := Lib.hid h2
    clear h1 h2
    have hk3 : k = 0 ∨ k = 1 ∨ k = 2 := by omega
    rcases hk3 with rfl | rfl | rfl
    · clear H1 H2
      have z0 : ((0 : Nat) : Int) = 0 := rfl
      by_cases hx : x.kind = k1
      · have g0 : (x.kind != k1) = false := by simpa using hx
        have Hx := Lib.hid hx
        clear hx
        go_wp2_with fail
        exact ⟨⟨1, by omega, by go_num, trivial, fun _ => Hx.out, by omega⟩, by simp [intOf]⟩
      · have g0 : (x.kind != k1) = true := by simpa using hx
        have Hx := Lib.hid hx
        clear hx
        go_wp2_with fail
        go_ret
        exact ⟨by simp [Hx.out], rfl⟩
    · have z1 : ((1 : Nat) : Int) = 1 := rfl
      clear H2
      by_cases hy : y.kind = k2
      · have g0 : (y.kind != k2) = false := by simpa using hy
        have Hy := Lib.hid hy
        clear hy
        go_wp2_with fail
        exact ⟨⟨2, by omega, by go_num, trivial, fun _ => H1.out (by omega), fun _ => Hy.out⟩, by simp [intOf]⟩
      · have g0 : (y.kind != k2) = true := by simpa using hy
        have Hy := Lib.hid hy
        clear hy
        go_wp2_with fail
        go_ret
        exact ⟨by simp [Hy.out], rfl⟩
    · have z2 : ((2 : Nat) : Int) = 2 := rfl
      go_wp2_with fail
      go_ret
      exact ⟨by simp [H1.out (by omega), H2.out (by omega)], rfl⟩
end Go.Proofs.YtacaknkfddlklaaGreatDoor
