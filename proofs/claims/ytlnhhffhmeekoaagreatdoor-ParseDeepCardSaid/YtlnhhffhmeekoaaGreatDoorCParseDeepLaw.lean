/- The walk of ParseDeep. -/
import Derived.Test.YtlnhhffhmeekoaaGreatDoorCParseRep
set_option linter.unusedVariables false
set_option linter.unusedSimpArgs false
namespace Go.Proofs.YtlnhhffhmeekoaaGreatDoor
open Go.RowKit Go.IntWalk
theorem law_PD_out (n k : Int) (w : World) (hW : LexW w) (h : n < 0 ∨ 200 < n) : Calls Tryz.prog 7 #[.int .i64 n, .int .i64 k] w fun e w' => e = .returned (.bool true) ∧ Below w.heap.size w w' := by
  have HI := Lib.hid (law_shownP hW)
  clear hW
  by_cases h0 : n < 0
  · clear h
    go_enter Tryz.func7, Tryz.ntmps7
    go_wp2_with fail
    refine HI.out.mono ?_
    rintro e w1 ⟨rfl, hb⟩
    go_wp2_with fail
    go_ret
    exact ⟨rfl, hb⟩
  · have h1 : 200 < n := by omega
    clear h
    go_enter Tryz.func7, Tryz.ntmps7
    go_wp2_with fail
    refine HI.out.mono ?_
    rintro e w1 ⟨rfl, hb⟩
    go_wp2_with fail
    go_ret
    exact ⟨rfl, hb⟩
set_option maxRecDepth 20000 in
set_option maxHeartbeats 1000000 in
theorem law_PD_group (m : Nat) (hm : m ≤ 200) (k : Int) (h1 : ¬ k = 1) (h2 : ¬ k = 2) (h3 : ¬ k = 3) (h4 : ¬ k = 4) (h5 : ¬ k = 5) (h6 : ¬ k = 6) (w : World) (hW : LexW w) : Calls Tryz.prog 7 #[.int .i64 (m : Int), .int .i64 k] w fun e w' => e = .returned (.bool true) ∧ Below w.heap.size w w' := by
  have g1 : (k == 1) = false := by simpa using h1
  have g2 : (k == 2) = false := by simpa using h2
  have g3 : (k == 3) = false := by simpa using h3
  have g4 : (k == 4) = false := by simpa using h4
  have g5 : (k == 5) = false := by simpa using h5
  have g6 : (k == 6) = false := by simpa using h6
  have hd := deep_group m hm
  unfold DeepP at hd
  have n0 : ¬ ((m : Int) < 0) := by omega
  have n1 : ¬ (200 < (m : Int)) := by omega
  have HI := Lib.hid (law_shownP hW)
  have HA := Lib.hid (fun W => p_rep [40] m (by simp) hm W)
  have HB := Lib.hid (fun W => p_rep [41] m (by simp) hm W)
  have HW := Lib.hid hW
  obtain ⟨L1, e1⟩ : ∃ L1, L1 = repB [40] m ++ [49] := ⟨_, rfl⟩
  obtain ⟨L2, e2⟩ : ∃ L2, L2 = L1 ++ repB [41] m := ⟨_, rfl⟩
  have hl1 : (repB [40] m).length ≤ 2000 := by rw [repB_len]; simp <;> omega
  have hl2 : (repB [41] m).length ≤ 2000 := by rw [repB_len]; simp <;> omega
  have hl3 : L1.length ≤ 2001 := by rw [e1]; simp; omega
  have add1 := str_add (repB [40] m) [49] L1 (by simp; omega) e1
  have add2 := str_add L1 (repB [41] m) L2 (by omega) e2
  have hL : repB [40] m ++ (49 :: repB [41] m) = L2 := by rw [e2, e1, List.append_assoc]; rfl
  rw [hL] at hd
  have hL2 : L2.length ≤ 5000 := by rw [e2, List.length_append]; omega
  have HX := Lib.hid (fun W (hW : LexW W) => x_Expr (w := W) ⟨L2.toArray⟩ (by rw [ba_size]; omega) hW)
  have HD := Lib.hid hd
  generalize repB [40] m = La at *
  generalize repB [41] m = Lb at *
  clear hd hL hL2 hl1 hl2 hl3 e1 e2 hW
  go_enter Tryz.func7, Tryz.ntmps7
  go_wp2_with fail
  refine HI.out.mono ?_
  rintro e w1 ⟨rfl, hb⟩
  have HW1 := Lib.hid (HW.out.below hb)
  have HB1 := Lib.hid hb
  clear hb
  go_wp2_with fail
  refine (HA.out _).mono ?_
  rintro e w2 ⟨rfl, rfl⟩
  go_wp2_with fail
  refine (HB.out _).mono ?_
  rintro e w3 ⟨rfl, rfl⟩
  go_wp2_with fail
  refine (HX.out _ HW1.out).mono ?_
  by_cases hle : m ≤ 24
  · obtain ⟨x, hx⟩ := HD.out.1 hle
    have hx' : parseE (⟨L2.toArray⟩ : ByteArray).data.toList = (x, 0, 0) := hx
    rw [hx']
    rintro e w4 ⟨lv, rfl, hb, hO⟩
    obtain ⟨A, ca, rfl⟩ := hO.lvs
    have HB4 := Lib.hid (bthen HB1.out hb)
    have c0 : (m : Int) ≤ 24 := by omega
    clear hb hO hx hx'
    go_wp2_with fail
    go_ret
    exact ⟨rfl, HB4.out.alloc HB4.out.size _⟩
  · have hx := HD.out.2 (by omega)
    have hx' : parseE (⟨L2.toArray⟩ : ByteArray).data.toList = (zeroN, 24, 171) := hx
    rw [hx']
    rintro e w4 ⟨lv, rfl, hb, hO⟩
    obtain ⟨A, ca, rfl⟩ := hO.lvs
    have HB4 := Lib.hid (bthen HB1.out hb)
    have c0 : ¬ ((m : Int) ≤ 24) := by omega
    clear hb hO hx hx'
    go_wp2_with fail
    refine ((p_tail k) _).mono ?_
    rintro e w5 ⟨rfl, rfl⟩
    rw [if_neg h2]
    go_wp2_with fail
    go_ret
    exact ⟨rfl, HB4.out.alloc HB4.out.size _⟩
set_option maxRecDepth 20000 in
set_option maxHeartbeats 1000000 in
theorem law_PD_list (m : Nat) (hm : m ≤ 200) (w : World) (hW : LexW w) : Calls Tryz.prog 7 #[.int .i64 (m : Int), .int .i64 1] w fun e w' => e = .returned (.bool true) ∧ Below w.heap.size w w' := by
  have hd := deep_list m hm
  unfold DeepP at hd
  have n0 : ¬ ((m : Int) < 0) := by omega
  have n1 : ¬ (200 < (m : Int)) := by omega
  have HI := Lib.hid (law_shownP hW)
  have HA := Lib.hid (fun W => p_rep [91] m (by simp) hm W)
  have HB := Lib.hid (fun W => p_rep [93] m (by simp) hm W)
  have HW := Lib.hid hW
  obtain ⟨L1, e1⟩ : ∃ L1, L1 = repB [91] m ++ [49] := ⟨_, rfl⟩
  obtain ⟨L2, e2⟩ : ∃ L2, L2 = L1 ++ repB [93] m := ⟨_, rfl⟩
  have hl1 : (repB [91] m).length ≤ 2000 := by rw [repB_len]; simp <;> omega
  have hl2 : (repB [93] m).length ≤ 2000 := by rw [repB_len]; simp <;> omega
  have hl3 : L1.length ≤ 2001 := by rw [e1]; simp; omega
  have add1 := str_add (repB [91] m) [49] L1 (by simp; omega) e1
  have add2 := str_add L1 (repB [93] m) L2 (by omega) e2
  have hL : repB [91] m ++ (49 :: repB [93] m) = L2 := by rw [e2, e1, List.append_assoc]; rfl
  rw [hL] at hd
  have hL2 : L2.length ≤ 5000 := by rw [e2, List.length_append]; omega
  have HX := Lib.hid (fun W (hW : LexW W) => x_Expr (w := W) ⟨L2.toArray⟩ (by rw [ba_size]; omega) hW)
  have HD := Lib.hid hd
  generalize repB [91] m = La at *
  generalize repB [93] m = Lb at *
  clear hd hL hL2 hl1 hl2 hl3 e1 e2 hW
  go_enter Tryz.func7, Tryz.ntmps7
  go_wp2_with fail
  refine HI.out.mono ?_
  rintro e w1 ⟨rfl, hb⟩
  have HW1 := Lib.hid (HW.out.below hb)
  have HB1 := Lib.hid hb
  clear hb
  go_wp2_with fail
  refine (HA.out _).mono ?_
  rintro e w2 ⟨rfl, rfl⟩
  go_wp2_with fail
  refine (HB.out _).mono ?_
  rintro e w3 ⟨rfl, rfl⟩
  go_wp2_with fail
  refine (HX.out _ HW1.out).mono ?_
  by_cases hle : m ≤ 24
  · obtain ⟨x, hx⟩ := HD.out.1 hle
    have hx' : parseE (⟨L2.toArray⟩ : ByteArray).data.toList = (x, 0, 0) := hx
    rw [hx']
    rintro e w4 ⟨lv, rfl, hb, hO⟩
    obtain ⟨A, ca, rfl⟩ := hO.lvs
    have HB4 := Lib.hid (bthen HB1.out hb)
    have c0 : (m : Int) ≤ 24 := by omega
    clear hb hO hx hx'
    go_wp2_with fail
    go_ret
    exact ⟨rfl, HB4.out.alloc HB4.out.size _⟩
  · have hx := HD.out.2 (by omega)
    have hx' : parseE (⟨L2.toArray⟩ : ByteArray).data.toList = (zeroN, 24, 171) := hx
    rw [hx']
    rintro e w4 ⟨lv, rfl, hb, hO⟩
    obtain ⟨A, ca, rfl⟩ := hO.lvs
    have HB4 := Lib.hid (bthen HB1.out hb)
    have c0 : ¬ ((m : Int) ≤ 24) := by omega
    clear hb hO hx hx'
    go_wp2_with fail
    refine ((p_tail 1) _).mono ?_
    rintro e w5 ⟨rfl, rfl⟩
    rw [if_neg (by omega)]
    go_wp2_with fail
    go_ret
    exact ⟨rfl, HB4.out.alloc HB4.out.size _⟩
set_option maxRecDepth 20000 in
set_option maxHeartbeats 1000000 in
theorem law_PD_fields (m : Nat) (hm : m ≤ 200) (w : World) (hW : LexW w) : Calls Tryz.prog 7 #[.int .i64 (m : Int), .int .i64 2] w fun e w' => e = .returned (.bool true) ∧ Below w.heap.size w w' := by
  have hd := deep_fields m hm
  unfold DeepP at hd
  have n0 : ¬ ((m : Int) < 0) := by omega
  have n1 : ¬ (200 < (m : Int)) := by omega
  have HI := Lib.hid (law_shownP hW)
  have HA := Lib.hid (fun W => p_rep [123, 97, 58] m (by simp) hm W)
  have HB := Lib.hid (fun W => p_rep [125] m (by simp) hm W)
  have HW := Lib.hid hW
  obtain ⟨L1, e1⟩ : ∃ L1, L1 = repB [123, 97, 58] m ++ [49] := ⟨_, rfl⟩
  obtain ⟨L2, e2⟩ : ∃ L2, L2 = L1 ++ repB [125] m := ⟨_, rfl⟩
  have hl1 : (repB [123, 97, 58] m).length ≤ 2000 := by rw [repB_len]; simp <;> omega
  have hl2 : (repB [125] m).length ≤ 2000 := by rw [repB_len]; simp <;> omega
  have hl3 : L1.length ≤ 2001 := by rw [e1]; simp; omega
  have add1 := str_add (repB [123, 97, 58] m) [49] L1 (by simp; omega) e1
  have add2 := str_add L1 (repB [125] m) L2 (by omega) e2
  have hL : repB [123, 97, 58] m ++ (49 :: repB [125] m) = L2 := by rw [e2, e1, List.append_assoc]; rfl
  rw [hL] at hd
  have hL2 : L2.length ≤ 5000 := by rw [e2, List.length_append]; omega
  have HX := Lib.hid (fun W (hW : LexW W) => x_Expr (w := W) ⟨L2.toArray⟩ (by rw [ba_size]; omega) hW)
  have HD := Lib.hid hd
  generalize repB [123, 97, 58] m = La at *
  generalize repB [125] m = Lb at *
  clear hd hL hL2 hl1 hl2 hl3 e1 e2 hW
  go_enter Tryz.func7, Tryz.ntmps7
  go_wp2_with fail
  refine HI.out.mono ?_
  rintro e w1 ⟨rfl, hb⟩
  have HW1 := Lib.hid (HW.out.below hb)
  have HB1 := Lib.hid hb
  clear hb
  go_wp2_with fail
  refine (HA.out _).mono ?_
  rintro e w2 ⟨rfl, rfl⟩
  go_wp2_with fail
  refine (HB.out _).mono ?_
  rintro e w3 ⟨rfl, rfl⟩
  go_wp2_with fail
  refine (HX.out _ HW1.out).mono ?_
  by_cases hle : m ≤ 24
  · obtain ⟨x, hx⟩ := HD.out.1 hle
    have hx' : parseE (⟨L2.toArray⟩ : ByteArray).data.toList = (x, 0, 0) := hx
    rw [hx']
    rintro e w4 ⟨lv, rfl, hb, hO⟩
    obtain ⟨A, ca, rfl⟩ := hO.lvs
    have HB4 := Lib.hid (bthen HB1.out hb)
    have c0 : (m : Int) ≤ 24 := by omega
    clear hb hO hx hx'
    go_wp2_with fail
    go_ret
    exact ⟨rfl, HB4.out.alloc HB4.out.size _⟩
  · have hx := HD.out.2 (by omega)
    have hx' : parseE (⟨L2.toArray⟩ : ByteArray).data.toList = (zeroN, 72, 171) := hx
    rw [hx']
    rintro e w4 ⟨lv, rfl, hb, hO⟩
    obtain ⟨A, ca, rfl⟩ := hO.lvs
    have HB4 := Lib.hid (bthen HB1.out hb)
    have c0 : ¬ ((m : Int) ≤ 24) := by omega
    clear hb hO hx hx'
    go_wp2_with fail
    refine ((p_tail 2) _).mono ?_
    rintro e w5 ⟨rfl, rfl⟩
    rw [if_pos rfl]
    go_wp2_with fail
    go_ret
    exact ⟨rfl, HB4.out.alloc HB4.out.size _⟩
set_option maxRecDepth 20000 in
set_option maxHeartbeats 1000000 in
theorem law_PD_minus (m : Nat) (hm : m ≤ 200) (w : World) (hW : LexW w) : Calls Tryz.prog 7 #[.int .i64 (m : Int), .int .i64 3] w fun e w' => e = .returned (.bool true) ∧ Below w.heap.size w w' := by
  have hd := deep_minus m hm
  unfold DeepP at hd
  have n0 : ¬ ((m : Int) < 0) := by omega
  have n1 : ¬ (200 < (m : Int)) := by omega
  have HI := Lib.hid (law_shownP hW)
  have HA := Lib.hid (fun W => p_rep [45] m (by simp) hm W)
  have HB := Lib.hid (fun W => p_rep [] m (by simp) hm W)
  have HW := Lib.hid hW
  obtain ⟨L1, e1⟩ : ∃ L1, L1 = repB [45] m ++ [49] := ⟨_, rfl⟩
  obtain ⟨L2, e2⟩ : ∃ L2, L2 = L1 ++ repB [] m := ⟨_, rfl⟩
  have hl1 : (repB [45] m).length ≤ 2000 := by rw [repB_len]; simp <;> omega
  have hl2 : (repB [] m).length ≤ 2000 := by rw [repB_len]; simp <;> omega
  have hl3 : L1.length ≤ 2001 := by rw [e1]; simp; omega
  have add1 := str_add (repB [45] m) [49] L1 (by simp; omega) e1
  have add2 := str_add L1 (repB [] m) L2 (by omega) e2
  have hL : repB [45] m ++ (49 :: repB [] m) = L2 := by rw [e2, e1, List.append_assoc]; rfl
  rw [hL] at hd
  have hL2 : L2.length ≤ 5000 := by rw [e2, List.length_append]; omega
  have HX := Lib.hid (fun W (hW : LexW W) => x_Expr (w := W) ⟨L2.toArray⟩ (by rw [ba_size]; omega) hW)
  have HD := Lib.hid hd
  generalize repB [45] m = La at *
  generalize repB [] m = Lb at *
  clear hd hL hL2 hl1 hl2 hl3 e1 e2 hW
  go_enter Tryz.func7, Tryz.ntmps7
  go_wp2_with fail
  refine HI.out.mono ?_
  rintro e w1 ⟨rfl, hb⟩
  have HW1 := Lib.hid (HW.out.below hb)
  have HB1 := Lib.hid hb
  clear hb
  go_wp2_with fail
  refine (HA.out _).mono ?_
  rintro e w2 ⟨rfl, rfl⟩
  go_wp2_with fail
  refine (HB.out _).mono ?_
  rintro e w3 ⟨rfl, rfl⟩
  go_wp2_with fail
  refine (HX.out _ HW1.out).mono ?_
  by_cases hle : m ≤ 24
  · obtain ⟨x, hx⟩ := HD.out.1 hle
    have hx' : parseE (⟨L2.toArray⟩ : ByteArray).data.toList = (x, 0, 0) := hx
    rw [hx']
    rintro e w4 ⟨lv, rfl, hb, hO⟩
    obtain ⟨A, ca, rfl⟩ := hO.lvs
    have HB4 := Lib.hid (bthen HB1.out hb)
    have c0 : (m : Int) ≤ 24 := by omega
    clear hb hO hx hx'
    go_wp2_with fail
    go_ret
    exact ⟨rfl, HB4.out.alloc HB4.out.size _⟩
  · have hx := HD.out.2 (by omega)
    have hx' : parseE (⟨L2.toArray⟩ : ByteArray).data.toList = (zeroN, 24, 171) := hx
    rw [hx']
    rintro e w4 ⟨lv, rfl, hb, hO⟩
    obtain ⟨A, ca, rfl⟩ := hO.lvs
    have HB4 := Lib.hid (bthen HB1.out hb)
    have c0 : ¬ ((m : Int) ≤ 24) := by omega
    clear hb hO hx hx'
    go_wp2_with fail
    refine ((p_tail 3) _).mono ?_
    rintro e w5 ⟨rfl, rfl⟩
    rw [if_neg (by omega)]
    go_wp2_with fail
    go_ret
    exact ⟨rfl, HB4.out.alloc HB4.out.size _⟩
set_option maxRecDepth 20000 in
set_option maxHeartbeats 1000000 in
theorem law_PD_call (m : Nat) (hm : m ≤ 200) (w : World) (hW : LexW w) : Calls Tryz.prog 7 #[.int .i64 (m : Int), .int .i64 4] w fun e w' => e = .returned (.bool true) ∧ Below w.heap.size w w' := by
  have hd := deep_call m hm
  unfold DeepP at hd
  have n0 : ¬ ((m : Int) < 0) := by omega
  have n1 : ¬ (200 < (m : Int)) := by omega
  have HI := Lib.hid (law_shownP hW)
  have HA := Lib.hid (fun W => p_rep [102, 40] m (by simp) hm W)
  have HB := Lib.hid (fun W => p_rep [41] m (by simp) hm W)
  have HW := Lib.hid hW
  obtain ⟨L1, e1⟩ : ∃ L1, L1 = repB [102, 40] m ++ [49] := ⟨_, rfl⟩
  obtain ⟨L2, e2⟩ : ∃ L2, L2 = L1 ++ repB [41] m := ⟨_, rfl⟩
  have hl1 : (repB [102, 40] m).length ≤ 2000 := by rw [repB_len]; simp <;> omega
  have hl2 : (repB [41] m).length ≤ 2000 := by rw [repB_len]; simp <;> omega
  have hl3 : L1.length ≤ 2001 := by rw [e1]; simp; omega
  have add1 := str_add (repB [102, 40] m) [49] L1 (by simp; omega) e1
  have add2 := str_add L1 (repB [41] m) L2 (by omega) e2
  have hL : repB [102, 40] m ++ (49 :: repB [41] m) = L2 := by rw [e2, e1, List.append_assoc]; rfl
  rw [hL] at hd
  have hL2 : L2.length ≤ 5000 := by rw [e2, List.length_append]; omega
  have HX := Lib.hid (fun W (hW : LexW W) => x_Expr (w := W) ⟨L2.toArray⟩ (by rw [ba_size]; omega) hW)
  have HD := Lib.hid hd
  generalize repB [102, 40] m = La at *
  generalize repB [41] m = Lb at *
  clear hd hL hL2 hl1 hl2 hl3 e1 e2 hW
  go_enter Tryz.func7, Tryz.ntmps7
  go_wp2_with fail
  refine HI.out.mono ?_
  rintro e w1 ⟨rfl, hb⟩
  have HW1 := Lib.hid (HW.out.below hb)
  have HB1 := Lib.hid hb
  clear hb
  go_wp2_with fail
  refine (HA.out _).mono ?_
  rintro e w2 ⟨rfl, rfl⟩
  go_wp2_with fail
  refine (HB.out _).mono ?_
  rintro e w3 ⟨rfl, rfl⟩
  go_wp2_with fail
  refine (HX.out _ HW1.out).mono ?_
  by_cases hle : m ≤ 24
  · obtain ⟨x, hx⟩ := HD.out.1 hle
    have hx' : parseE (⟨L2.toArray⟩ : ByteArray).data.toList = (x, 0, 0) := hx
    rw [hx']
    rintro e w4 ⟨lv, rfl, hb, hO⟩
    obtain ⟨A, ca, rfl⟩ := hO.lvs
    have HB4 := Lib.hid (bthen HB1.out hb)
    have c0 : (m : Int) ≤ 24 := by omega
    clear hb hO hx hx'
    go_wp2_with fail
    go_ret
    exact ⟨rfl, HB4.out.alloc HB4.out.size _⟩
  · have hx := HD.out.2 (by omega)
    have hx' : parseE (⟨L2.toArray⟩ : ByteArray).data.toList = (zeroN, 49, 171) := hx
    rw [hx']
    rintro e w4 ⟨lv, rfl, hb, hO⟩
    obtain ⟨A, ca, rfl⟩ := hO.lvs
    have HB4 := Lib.hid (bthen HB1.out hb)
    have c0 : ¬ ((m : Int) ≤ 24) := by omega
    clear hb hO hx hx'
    go_wp2_with fail
    refine ((p_tail 4) _).mono ?_
    rintro e w5 ⟨rfl, rfl⟩
    rw [if_neg (by omega)]
    go_wp2_with fail
    go_ret
    exact ⟨rfl, HB4.out.alloc HB4.out.size _⟩
set_option maxRecDepth 20000 in
set_option maxHeartbeats 1000000 in
theorem law_PD_at (m : Nat) (hm : m ≤ 200) (w : World) (hW : LexW w) : Calls Tryz.prog 7 #[.int .i64 (m : Int), .int .i64 5] w fun e w' => e = .returned (.bool true) ∧ Below w.heap.size w w' := by
  have hd := deep_at m hm
  unfold DeepP at hd
  have n0 : ¬ ((m : Int) < 0) := by omega
  have n1 : ¬ (200 < (m : Int)) := by omega
  have HI := Lib.hid (law_shownP hW)
  have HA := Lib.hid (fun W => p_rep [97, 91] m (by simp) hm W)
  have HB := Lib.hid (fun W => p_rep [93] m (by simp) hm W)
  have HW := Lib.hid hW
  obtain ⟨L1, e1⟩ : ∃ L1, L1 = repB [97, 91] m ++ [49] := ⟨_, rfl⟩
  obtain ⟨L2, e2⟩ : ∃ L2, L2 = L1 ++ repB [93] m := ⟨_, rfl⟩
  have hl1 : (repB [97, 91] m).length ≤ 2000 := by rw [repB_len]; simp <;> omega
  have hl2 : (repB [93] m).length ≤ 2000 := by rw [repB_len]; simp <;> omega
  have hl3 : L1.length ≤ 2001 := by rw [e1]; simp; omega
  have add1 := str_add (repB [97, 91] m) [49] L1 (by simp; omega) e1
  have add2 := str_add L1 (repB [93] m) L2 (by omega) e2
  have hL : repB [97, 91] m ++ (49 :: repB [93] m) = L2 := by rw [e2, e1, List.append_assoc]; rfl
  rw [hL] at hd
  have hL2 : L2.length ≤ 5000 := by rw [e2, List.length_append]; omega
  have HX := Lib.hid (fun W (hW : LexW W) => x_Expr (w := W) ⟨L2.toArray⟩ (by rw [ba_size]; omega) hW)
  have HD := Lib.hid hd
  generalize repB [97, 91] m = La at *
  generalize repB [93] m = Lb at *
  clear hd hL hL2 hl1 hl2 hl3 e1 e2 hW
  go_enter Tryz.func7, Tryz.ntmps7
  go_wp2_with fail
  refine HI.out.mono ?_
  rintro e w1 ⟨rfl, hb⟩
  have HW1 := Lib.hid (HW.out.below hb)
  have HB1 := Lib.hid hb
  clear hb
  go_wp2_with fail
  refine (HA.out _).mono ?_
  rintro e w2 ⟨rfl, rfl⟩
  go_wp2_with fail
  refine (HB.out _).mono ?_
  rintro e w3 ⟨rfl, rfl⟩
  go_wp2_with fail
  refine (HX.out _ HW1.out).mono ?_
  by_cases hle : m ≤ 24
  · obtain ⟨x, hx⟩ := HD.out.1 hle
    have hx' : parseE (⟨L2.toArray⟩ : ByteArray).data.toList = (x, 0, 0) := hx
    rw [hx']
    rintro e w4 ⟨lv, rfl, hb, hO⟩
    obtain ⟨A, ca, rfl⟩ := hO.lvs
    have HB4 := Lib.hid (bthen HB1.out hb)
    have c0 : (m : Int) ≤ 24 := by omega
    clear hb hO hx hx'
    go_wp2_with fail
    go_ret
    exact ⟨rfl, HB4.out.alloc HB4.out.size _⟩
  · have hx := HD.out.2 (by omega)
    have hx' : parseE (⟨L2.toArray⟩ : ByteArray).data.toList = (zeroN, 49, 171) := hx
    rw [hx']
    rintro e w4 ⟨lv, rfl, hb, hO⟩
    obtain ⟨A, ca, rfl⟩ := hO.lvs
    have HB4 := Lib.hid (bthen HB1.out hb)
    have c0 : ¬ ((m : Int) ≤ 24) := by omega
    clear hb hO hx hx'
    go_wp2_with fail
    refine ((p_tail 5) _).mono ?_
    rintro e w5 ⟨rfl, rfl⟩
    rw [if_neg (by omega)]
    go_wp2_with fail
    go_ret
    exact ⟨rfl, HB4.out.alloc HB4.out.size _⟩
set_option maxRecDepth 20000 in
set_option maxHeartbeats 1000000 in
theorem law_PD_while (m : Nat) (hm : m ≤ 200) (w : World) (hW : LexW w) : Calls Tryz.prog 7 #[.int .i64 (m : Int), .int .i64 6] w fun e w' => e = .returned (.bool true) ∧ Below w.heap.size w w' := by
  have hd := deep_while m hm
  have n0 : ¬ ((m : Int) < 0) := by omega
  have n1 : ¬ (200 < (m : Int)) := by omega
  have HI := Lib.hid (law_shownP hW)
  have HA := Lib.hid (fun W => p_rep whB m (by simp) hm W)
  have HB := Lib.hid (fun W => p_rep [125] m (by simp) hm W)
  have HW := Lib.hid hW
  have hl1 : (repB whB m).length ≤ 2000 := by rw [repB_len]; simp <;> omega
  have hl2 : (repB [125] m).length ≤ 2000 := by rw [repB_len]; simp <;> omega
  obtain ⟨L1, e1⟩ : ∃ L1, L1 = repB whB m ++ [49] := ⟨_, rfl⟩
  obtain ⟨L2, e2⟩ : ∃ L2, L2 = L1 ++ repB [125] m := ⟨_, rfl⟩
  obtain ⟨M1, e3⟩ : ∃ M1, M1 = [102, 110, 32, 102, 40, 41] ++ repB whB m := ⟨_, rfl⟩
  obtain ⟨M2, e4⟩ : ∃ M2, M2 = M1 ++ repB [125] m := ⟨_, rfl⟩
  obtain ⟨M3, e5⟩ : ∃ M3, M3 = M2.drop 6 := ⟨_, rfl⟩
  obtain ⟨M4, e6⟩ : ∃ M4, M4 = [102, 110, 32, 102, 40, 41, 123] ++ M3 := ⟨_, rfl⟩
  obtain ⟨M5, e7⟩ : ∃ M5, M5 = M4 ++ [125] := ⟨_, rfl⟩
  have hl3 : L1.length ≤ 2001 := by rw [e1]; simp; omega
  have hl4 : M1.length ≤ 2006 := by rw [e3]; simp; omega
  have hl5 : M2.length ≤ 4006 := by rw [e4, List.length_append]; omega
  have hl6 : M3.length ≤ 4006 := by rw [e5, List.length_drop]; omega
  have hl7 : M4.length ≤ 4020 := by rw [e6, List.length_append]; simp; omega
  have h6 : 6 ≤ M2.length := by rw [e4, e3]; simp
  have add1 := str_add (repB whB m) [49] L1 (by simp; omega) e1
  have add2 := str_add L1 (repB [125] m) L2 (by omega) e2
  have add3 := str_add [102, 110, 32, 102, 40, 41] (repB whB m) M1 (by simp; omega) e3
  have add4 := str_add M1 (repB [125] m) M2 (by omega) e4
  have add5 := str_add [102, 110, 32, 102, 40, 41, 123] M3 M4 (by simp; omega) e6
  have add6 := str_add M4 [125] M5 (by simp; omega) e7
  have hM : fnB ++ (repB whB m ++ (repB [125] m ++ [125])) = M5 := by rw [e7, e6, e5, e4, e3]; simp
  rw [hM] at hd
  have hL5 : M5.length ≤ 5000 := by rw [e7, List.length_append]; simp; omega
  have HX := Lib.hid (fun W (hW : LexW W) => x_Program (w := W) ⟨M5.toArray⟩ (by rw [ba_size]; omega) hW)
  have HD := Lib.hid hd
  generalize repB whB m = La at *
  generalize repB [125] m = Lb at *
  have hstr : (⟨#[102, 110, 32, 102, 40, 41, 123]⟩ : ByteArray) ++ (⟨M2.toArray⟩ : ByteArray).extract 6 M2.length ++ (⟨#[125]⟩ : ByteArray) = ⟨M5.toArray⟩ := by
    have hx : (⟨M2.toArray⟩ : ByteArray).extract 6 M2.length = ⟨M3.toArray⟩ := by
      have hx0 := ext_at ⟨M2.toArray⟩ 6 (M2.length - 6) (by rw [ba_size]; omega)
      rw [show 6 + (M2.length - 6) = M2.length by omega] at hx0
      rw [hx0, e5]
      show (⟨((M2.drop 6).take (M2.length - 6)).toArray⟩ : ByteArray) = _
      rw [List.take_of_length_le (by rw [List.length_drop]; exact Nat.le_refl _)]
    rw [hx, show (⟨#[102, 110, 32, 102, 40, 41, 123]⟩ : ByteArray) ++ ⟨M3.toArray⟩ = ⟨M4.toArray⟩ from by rw [e6]; exact ba_cat _ _, show (⟨M4.toArray⟩ : ByteArray) ++ ⟨#[125]⟩ = ⟨M5.toArray⟩ from by rw [e7]; exact ba_cat _ _]
  have hstr := Lib.hid hstr
  have h6' : (6 : Int) ≤ (M2.length : Int) := by omega
  have z1 : ¬ 9223372036854775807 < 7 + (M2.length - 6) := by omega
  have z2 : ¬ 9223372036854775807 < 7 + (M2.length - 6) + 1 := by omega
  clear hd hM hL5 hl1 hl2 hl3 hl4 hl5 hl6 hl7 e1 e2 e3 e4 e5 e6 e7 hW
  go_enter Tryz.func7, Tryz.ntmps7
  go_wp2_with fail
  refine HI.out.mono ?_
  rintro e w1 ⟨rfl, hb⟩
  have HW1 := Lib.hid (HW.out.below hb)
  have HB1 := Lib.hid hb
  clear hb
  go_wp2_with fail
  refine (HA.out _).mono ?_
  rintro e w2 ⟨rfl, rfl⟩
  go_wp2_with fail
  refine (HB.out _).mono ?_
  rintro e w3 ⟨rfl, rfl⟩
  go_wp2_with fail
  refine (HA.out _).mono ?_
  rintro e w2 ⟨rfl, rfl⟩
  go_wp2_with fail
  refine (HB.out _).mono ?_
  rintro e w3 ⟨rfl, rfl⟩
  go_wp2_with fail
  refine (HX.out _ HW1.out).mono ?_
  by_cases hle : m + 1 ≤ 24
  · obtain ⟨x, hx⟩ := HD.out.1 hle
    have hx' : parseP (⟨M5.toArray⟩ : ByteArray).data.toList = (x, 0, 0) := hx
    rw [hx']
    rintro e w4 ⟨lv, rfl, hb, hO⟩
    obtain ⟨A, ca, rfl⟩ := hO.lvs
    have HB4 := Lib.hid (bthen HB1.out hb)
    have hw : IntKind.i64.wrap ((m : Int) + 1) = (m : Int) + 1 := i64_in _ (by omega)
    have c0 : decide ((m : Int) + 1 ≤ 24) = true := by simp; omega
    clear hb hO hx hx' hstr
    go_wp2_with fail
    go_ret
    exact ⟨rfl, HB4.out.alloc HB4.out.size _⟩
  · obtain ⟨p, hx⟩ := HD.out.2 (by omega)
    have hx' : parseP (⟨M5.toArray⟩ : ByteArray).data.toList = (zeroN, p, 171) := hx
    rw [hx']
    rintro e w4 ⟨lv, rfl, hb, hO⟩
    obtain ⟨A, ca, rfl⟩ := hO.lvs
    have HB4 := Lib.hid (bthen HB1.out hb)
    have hw : IntKind.i64.wrap ((m : Int) + 1) = (m : Int) + 1 := i64_in _ (by omega)
    have c0 : decide ((m : Int) + 1 ≤ 24) = false := by simp; omega
    clear hb hO hx hx' hstr
    go_wp2_with fail
    go_ret
    exact ⟨rfl, HB4.out.alloc HB4.out.size _⟩
theorem law_ParseDeep (n k : Int) (w : World) (hW : LexW w) : Calls Tryz.prog 7 #[.int .i64 n, .int .i64 k] w fun e w' => e = .returned (.bool true) ∧ Below w.heap.size w w' := by
  by_cases h : n < 0 ∨ 200 < n
  · exact law_PD_out n k w hW h
  · obtain ⟨m, rfl⟩ : ∃ m : Nat, n = (m : Int) := ⟨n.toNat, by omega⟩
    have hm : m ≤ 200 := by omega
    by_cases h1 : k = 1
    · subst h1; exact law_PD_list m hm w hW
    by_cases h2 : k = 2
    · subst h2; exact law_PD_fields m hm w hW
    by_cases h3 : k = 3
    · subst h3; exact law_PD_minus m hm w hW
    by_cases h4 : k = 4
    · subst h4; exact law_PD_call m hm w hW
    by_cases h5 : k = 5
    · subst h5; exact law_PD_at m hm w hW
    by_cases h6 : k = 6
    · subst h6; exact law_PD_while m hm w hW
    exact law_PD_group m hm k h1 h2 h3 h4 h5 h6 w hW
end Go.Proofs.YtlnhhffhmeekoaaGreatDoor
