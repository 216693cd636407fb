/- Contract of print.Right. -/
import Derived.Test.YthlfeiiolafonaaDoorPrintRight
set_option linter.unusedVariables false
set_option linter.unusedSimpArgs false
namespace Go.Proofs.YthlfeiiolafonaaDoor
open Go.RowKit Go.IntWalk

set_option maxRecDepth 20000 in
set_option maxHeartbeats 2000000 in
theorem print_Right (n : N) (v : Value) (ok : Nat → Prop) (w : World) (hv : RdN ok w v n) :
    Calls Tryd.prog 12 #[v] w fun e1 w' => e1 = .returned (.bool (rightP n)) ∧ Below w.heap.size w w' := by
  obtain ⟨A, c, B, d, K, e, rfl, hn⟩ := hv.form
  have HV := Lib.hid hv
  clear hn hv
  cases h1 : (n.kind == 1) with
  | false =>
    have h1' : n.kind ≠ 1 := by simpa using h1
    have hp := Lib.hid (show rightP n = false by simp [rightP, h1'])
    clear h1'
    go_enter Tryd.func12, Tryd.ntmps12
    go_wp2_with fail
    go_ret
    exact ⟨ret_bool hp.out.symm, one_al _ _⟩
  | true =>
    have h1' : n.kind = 1 := by simpa using h1
    have hp := Lib.hid (show rightP n = (fitsN n && rightN 0 n) by simp [rightP, h1'])
    clear h1'
    have HF := Lib.hid (fun W hv => print_fits n (valN n A c B d K e) ok W hv)
    have HG := Lib.hid (fun W hv => print_right (SizeOf.sizeOf n) n (valN n A c B d K e) ok W 0 hv (Nat.le_refl _) (by decide))
    go_enter Tryd.func12, Tryd.ntmps12
    go_wp2_with fail
    refine (HF.out _ (HV.out.below (one_al _ _))).mono ?_
    rintro e1 w1 ⟨rfl, hb⟩
    have HB := Lib.hid (bthen (one_al _ _) hb)
    obtain ⟨b0, b1, b2, b3, b4, b5, b6, b7, b8, b9⟩ := box10 hb
    clear hb
    cases hf : decide (nsize n ≤ 20000) with
    | false =>
      have HFd := Lib.hid hf
      clear hf
      go_wp2_with fail
      go_ret
      exact ⟨ret_bool (by rw [hp.out]; unfold fitsN; rw [HFd.out]; rfl), HB.out⟩
    | true =>
      have HFd := Lib.hid hf
      clear hf
      go_wp2_with fail
      refine (HG.out _ (HV.out.below HB.out)).mono ?_
      rintro e2 w2 ⟨rfl, hb⟩
      have HB2 := Lib.hid (bthen HB.out hb)
      clear hb
      go_wp2_with fail
      go_ret
      exact ⟨ret_bool (by rw [hp.out]; unfold fitsN; rw [HFd.out]; rfl), HB2.out⟩
end Go.Proofs.YthlfeiiolafonaaDoor
