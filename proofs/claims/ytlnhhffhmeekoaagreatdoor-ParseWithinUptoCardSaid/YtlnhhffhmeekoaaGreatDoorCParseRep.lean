/- The walks of ParseDeep's helpers. -/
import Derived.Test.YtlnhhffhmeekoaaGreatDoorCParseLaw
set_option linter.unusedVariables false
set_option linter.unusedSimpArgs false
namespace Go.Proofs.YtlnhhffhmeekoaaGreatDoor
open Go.RowKit Go.IntWalk
theorem ba_cat (x y : List UInt8) : (⟨x.toArray⟩ : ByteArray) ++ ⟨y.toArray⟩ = ⟨(x ++ y).toArray⟩ := by
  apply ByteArray.ext
  simp [ByteArray.data_append]
theorem str_add (x y z : List UInt8) (h : x.length + y.length ≤ 10000000) (hz : z = x ++ y) (W : World) : (Op.stringOp .add ⟨x.toArray⟩ ⟨y.toArray⟩).run Tryz.prog W = .ok (.string ⟨z.toArray⟩) W := by
  subst hz
  simp only [Op.stringOp]
  rw [if_neg (by rw [ba_size, ba_size]; show ¬ (_ > (9223372036854775807 : Int)); omega), ba_cat]
  rfl
set_option maxRecDepth 20000 in
set_option maxHeartbeats 400000 in
theorem p_rep (b : List UInt8) (m : Nat) (hb : b.length ≤ 9) (hm : m ≤ 200) (w : World) : Calls Tryz.prog 20 #[.string ⟨b.toArray⟩, .int .i64 (m : Int)] w fun e w' => e = .returned (.string ⟨(repB b m).toArray⟩) ∧ w' = w := by
  have hlen := Lib.hid (fun k (hk : k ≤ m) => show (repB b k).length + b.length ≤ 10000000 by
    rw [repB_len]
    have : k * b.length ≤ 200 * 9 := Nat.mul_le_mul (by omega) hb
    omega)
  go_enter Tryz.func20, Tryz.ntmps20
  go_wp2_with fail
  go_loopw [5, 6] (fun v5 v6 wr => ∃ k : Nat, k ≤ m ∧ v5 = .string ⟨(repB b k).toArray⟩ ∧ v6 = .int .i64 (k : Int) ∧ wr = w) (fun _ i _ => m - (intOf i).toNat)
  case atStart => exact ⟨0, Nat.zero_le _, rfl, rfl, rfl⟩
  case round =>
    obtain ⟨k, hk, rfl, rfl, rfl⟩ := hrel
    by_cases hlt : k < m
    · have hbA : (k : Int) < (m : Int) := by omega
      have hadd := str_add (repB b k) b (repB b (k + 1)) (hlen.out k hk) (by rw [repB])
      generalize repB b k = L at *
      generalize hL2 : repB b (k + 1) = L2 at *
      have HL2 := Lib.hid hL2
      have hw : IntKind.i64.wrap ((k : Int) + 1) = (k : Int) + 1 := i64_in _ (by omega)
      clear hL2
      go_wp2_with fail
      exact ⟨⟨k + 1, by omega, by rw [HL2.out], by go_num, trivial⟩, by simp [intOf]; omega⟩
    · have hkA : ¬ (k : Int) < (m : Int) := by omega
      obtain rfl : k = m := by omega
      go_wp2_with fail
      go_ret
      exact ⟨rfl, rfl⟩
theorem p_tail (k : Int) (w : World) : Calls Tryz.prog 21 #[.int .i64 k] w fun e w' => e = .returned (.int .i64 (if k = 2 then 2 else 0)) ∧ w' = w := by
  by_cases h : k = 2
  · subst h
    go_enter Tryz.func21, Tryz.ntmps21
    go_wp2
    go_ret
    exact ⟨rfl, rfl⟩
  · rw [if_neg h]
    have hk : (k == 2) = false := by simpa using h
    go_enter Tryz.func21, Tryz.ntmps21
    go_wp2
    go_ret
    exact ⟨rfl, rfl⟩
end Go.Proofs.YtlnhhffhmeekoaaGreatDoor
