/- Contracts of the reference's tabs, block, behind, statement. Printed by gen_rs.py. -/
import Derived.Test.YthlfeiiolafonaaGreatDoorPrintRW
import Derived.Test.YthlfeiiolafonaaGreatDoorWSB
set_option linter.unusedVariables false
set_option linter.unusedSimpArgs false
namespace Go.Proofs.YthlfeiiolafonaaGreatDoor
open Go.RowKit Go.IntWalk Go.Sort

set_option maxRecDepth 20000 in
set_option maxHeartbeats 1000000 in
theorem rf_tabs (c : Nat) (z : Int) (hz : z = (c : Int)) (hc : c ≤ 70368744177664) (w : World) :
    Calls Tryz.prog 47 #[.int .i64 z] w fun e w' => e = .returned (.string ⟨(tabsT c).toArray⟩) ∧ Below w.heap.size w w' := by
  subst hz
  have hc0 : (0 : Int) ≤ (c : Int) := by omega
  have hc1 : (c : Int) ≤ 70368744177664 := by omega
  go_enter Tryz.func47, Tryz.ntmps47
  go_wp2_with fail
  go_loopw [3, 4] (fun u j wr => ∃ k : Nat, k ≤ c ∧ j = .int .i64 (k : Int) ∧ RowB w.heap.size wr u (tabsT k) ∧ Below w.heap.size w wr) (fun _ j _ => c - (intOf j).toNat)
  case atStart => exact ⟨0, Nat.zero_le _, rfl, RowB.nil _ _, Below.refl _ _⟩
  case round =>
    obtain ⟨k, hk, rfl, hO, hB⟩ := hrel
    have HO := Lib.hid hO
    have HB := Lib.hid hB
    clear hO hB
    by_cases hlt : k < c
    · have hlA : (k : Int) < (c : Int) := by omega
      have h00 : (0 : Int) ≤ (k : Int) := by omega
      go_wp2_with (at_builtin; refine wpRow_row _ [9] (by simp) (.tmp 10) (.tmp 11) rfl rfl _ rfl 1 1 rfl rfl rfl HO.out HB.out (Nat.le_refl _) (by rw [tabsT_len]; simp; omega) ?_; intro v1 w1 hO1 hB1; clear HO HB)
      exact ⟨⟨k + 1, by omega, by go_num, by rw [show tabsT (k + 1) = tabsT k ++ [9] by simp [tabsT, List.replicate_succ']]; exact hO1, hB1⟩, by simp [intOf]; omega⟩
    · have hlA : ¬ (k : Int) < (c : Int) := by omega
      obtain rfl : k = c := by omega
      have ht := HO.out.toStr
      go_wp2_with fail
      go_ret
      exact ⟨rfl, HB.out⟩
theorem str_grown {m : Nat} {w : World} {v : Value} {l : List UInt8} (h : RowB m w v l) (d : Nat) (os : Array Obj) : (convert 38 9 v).run Tryz.prog (grow (redrawn w d) os) = .ok (.string ⟨l.toArray⟩) (grow (redrawn w d) os) := (h.below (below_regrown w d os)).toStr
/-- the reference's statement, at all nodes smaller than so -/
def RStmtOk (m : Nat) : Prop := ∀ (n : N), SizeOf.sizeOf n < m → ∀ (v : Value) (ok : Nat → Prop) (W : World) (d : Nat), RdN ok W v n → (∃ o, rightN o n = true) → stmtK n.kind = true → (stmtT d n).length ≤ 70368744177664 → d ≤ 70368744177664 →
  Calls Tryz.prog 48 #[v, .int .i64 (d : Int)] W fun e W' => e = .returned (.string ⟨(stmtT d n).toArray⟩) ∧ Below W.heap.size W W'
set_option maxRecDepth 20000 in
set_option maxHeartbeats 2000000 in
theorem rf_block (n : N) (H : RStmtOk (SizeOf.sizeOf n)) (v : Value) (ok : Nat → Prop) (W : World) (i : Nat) (hv : RdN ok W v n) (hr : ∃ o, rightN o n = true) (hk : n.kind = 4) (hroom : (blockT i n).length ≤ 70368744177664) :
    Calls Tryz.prog 26 #[v, .int .i64 (i : Int)] W fun e W' => e = .returned (.string ⟨(blockT i n).toArray⟩) ∧ Below W.heap.size W W' := by
  have hx : blockT i n = [123, 10] ++ stmtsT (i + 1) n.kids ++ tabsT i ++ [125] := by cases n; rw [blockT]; rfl
  obtain ⟨o, hr⟩ := hr
  obtain ⟨_, hsh⟩ := right_said hr
  have hkr := right_kids hr
  obtain ⟨A, c, B, d, K, e, rfl, hn⟩ := hv.form
  have hlen := hn.len
  have HL := Lib.hid hn.kids
  have hst : ∀ y ∈ n.kids, stmtK y.kind = true := by
    rw [hk] at hsh
    simp only [shapeK] at hsh
    intro y hy
    have h2 : (n.kids.map N.kind).all stmtK = true := by simpa using hsh
    rw [List.all_map, List.all_eq_true] at h2
    exact h2 y hy
  rw [hx] at hroom
  have HTx := Lib.hid hx
  have Hrm := Lib.hid (show 2 + (stmtsT (i + 1) n.kids).length + i + 1 ≤ 70368744177664 by simp only [List.length_append, tabsT_len, List.length_cons, List.length_nil] at hroom; omega)
  have hi0 : (0 : Int) ≤ (i : Int) := by omega
  have hi1 : (i : Int) ≤ 70368744177664 := by have := Hrm.out; omega
  have HC := Lib.hid (fun (y : N) (hy : y ∈ n.kids) (v : Value) (W1 : World) (hv1 : RdN ok W1 v y) (z : Int) (hz : z = ((i + 1 : Nat) : Int)) (hr1 : (stmtT (i + 1) y).length ≤ 70368744177664) => hz ▸ H y (sz_mem hy) v ok W1 (i + 1) hv1 (hkr y hy) (hst y hy) hr1 (by have := Hrm.out; omega))
  clear hv hn hr hsh hkr hst hk hroom hx H
  have kc1 := Lib.run_convert_bytes_const (P := Tryz.prog) (W.alloc (boxN n A c B d K e)) 38 5 #[.int .u8 123, .int .u8 10] 2 2 Tryz.underlying38 Tryz.underlying5
  rw [show (W.alloc (boxN n A c B d K e)).heap.size = W.heap.size + 1 by simp] at kc1
  have HO0 := Lib.hid (RowB.lit (W.alloc (boxN n A c B d K e)).heap.size (W.alloc (boxN n A c B d K e)) [123, 10] #[.int .u8 123, .int .u8 10] rfl 2 rfl (2, 3) (Nat.le_refl _))
  have HB0 := Lib.hid (one_al (W.alloc (boxN n A c B d K e)) (.cells #[.int .u8 123, .int .u8 10] 5 (2, 3)))
  go_enter Tryz.func26, Tryz.ntmps26
  go_wp2_with fail
  clear kc1
  go_loopw [5, 6] (fun u j wr => ∃ k : Nat, k ≤ n.kids.length ∧ j = .int .i64 (k : Int) ∧ RowB (W.alloc (boxN n A c B d K e)).heap.size wr u ([123, 10] ++ stmtsT (i + 1) (n.kids.take k)) ∧ Below (W.alloc (boxN n A c B d K e)).heap.size (W.alloc (boxN n A c B d K e)) wr) (fun _ j _ => n.kids.length - (intOf j).toNat)
  case atStart => exact ⟨0, Nat.zero_le _, rfl, by rw [List.take_zero, stmtsT, List.append_nil]; simpa using HO0.out, HB0.out⟩
  case round =>
    obtain ⟨k, hk, rfl, hO, hB⟩ := hrel
    have HO := Lib.hid hO
    have HB := Lib.hid hB
    clear hO hB
    obtain ⟨b0, b1, b2, b3, b4, b5, b6, b7, b8, b9⟩ := box10 HB.out
    by_cases hlt : k < n.kids.length
    · have hlA : (k : Int) < (n.kids.length : Int) := by omega
      have h00 : (0 : Int) ≤ (k : Int) := by omega
      have hst := stmtsT_take n.kids (i + 1) k hlt
      have hln := stmtsT_len_take n.kids (i + 1) (k + 1)
      have HCk := Lib.hid (HC.out n.kids[k] (List.getElem_mem hlt))
      have HEl := Lib.hid (fun (W1 : World) (hb : Below (W.alloc (boxN n A c B d K e)).heap.size (W.alloc (boxN n A c B d K e)) W1) => (HL.out.below (bthen (one_al _ _) hb)).elem k hlt)
      generalize n.kids[k] = Y at *
      generalize stmtsT (i + 1) (n.kids.take k) = r at *
      rw [hst] at hln
      have HS := Lib.hid hst
      have Hln := Lib.hid (show r.length + (i + 1 + (stmtT (i + 1) Y).length + 1) ≤ (stmtsT (i + 1) n.kids).length by simp only [List.length_append, tabsT_len, List.length_cons, List.length_nil] at hln; omega)
      clear hst hln
      go_wp2_with fail
      refine (rf_tabs (i + 1) _ (by omega) (by have := Hrm.out; omega) _).mono ?_
      rintro e1 w1 ⟨rfl, hb⟩
      have HO1 := Lib.hid (HO.out.below hb)
      have HB1 := Lib.hid (bthen HB.out hb)
      clear hb b0 b1 b2 b3 b4 b5 b6 b7 b8 b9
      go_wp2_with (at_builtin; refine wpRow_str _ (tabsT (i + 1)) (.tmp 16) (.tmp 19) rfl rfl rfl rfl HO1.out HB1.out (Nat.le_refl _) (by have h1 := Hrm.out; have h2 := Hln.out; simp only [List.length_append, List.length_cons, List.length_nil, tabsT_len]; omega) ?_; intro v2 w2 hO2 hB2; obtain ⟨g, off, A', c', B', d', K', e', rfl, _, hk', k0, k1, k2, k3, k4, k5, k6, k7, k8, k9⟩ := HEl.out _ hB2; have HY := Lib.hid hk'.rd; clear hk'; obtain ⟨b0, b1, b2, b3, b4, b5, b6, b7, b8, b9⟩ := box10 hB2; have HO2 := Lib.hid hO2; have HB2 := Lib.hid hB2; clear hO2 hB2)
      refine (HCk.out _ _ HY.out _ (by omega) (by have h1 := Hrm.out; have h2 := Hln.out; omega)).mono ?_
      rintro e3 w3 ⟨rfl, hb⟩
      have HO3 := Lib.hid (HO2.out.below hb)
      have HB3 := Lib.hid (bthen HB2.out hb)
      clear hb k0 k1 k2 k3 k4 k5 k6 k7 k8 k9 b0 b1 b2 b3 b4 b5 b6 b7 b8 b9
      go_wp2_with (first
        | (at_builtin; refine wpRow_str _ (stmtT (i + 1) Y) (.tmp 21) (.tmp 29) rfl rfl rfl rfl HO3.out HB3.out (Nat.le_refl _) (by have h1 := Hrm.out; have h2 := Hln.out; simp only [List.length_append, List.length_cons, List.length_nil, tabsT_len]; omega) ?_; intro v4 w4 hO4 hB4; have HO4 := Lib.hid hO4; have HB4 := Lib.hid hB4; clear hO4 hB4)
        | (at_builtin; refine wpRow_row _ [10] (by simp) (.tmp 31) (.tmp 32) rfl rfl _ rfl 1 1 rfl rfl rfl HO4.out HB4.out (Nat.le_refl _) (by have h1 := Hrm.out; have h2 := Hln.out; simp only [List.length_append, List.length_cons, List.length_nil, tabsT_len]; omega) ?_; intro v5 w5 hO5 hB5))
      exact ⟨⟨k + 1, by omega, by go_num, by rw [HS.out]; simpa using hO5, hB5⟩, by simp [intOf]; omega⟩
    · have hlA : ¬ (k : Int) < (n.kids.length : Int) := by omega
      have hkk : n.kids.take k = n.kids := List.take_of_length_le (by omega)
      rw [hkk] at HO
      clear hkk
      have hcat : ¬ 9223372036854775807 < 2 + (stmtsT (i + 1) n.kids).length + (tabsT i).length := by have := Hrm.out; rw [tabsT_len]; omega
      have hcat2 : ¬ 9223372036854775807 < 2 + (stmtsT (i + 1) n.kids).length + (tabsT i).length + 1 := by have := Hrm.out; rw [tabsT_len]; omega
      have hcat3 : ¬ 9223372036854775807 < (stmtsT (i + 1) n.kids).length + 1 + 1 + (tabsT i).length := by have := Hrm.out; rw [tabsT_len]; omega
      have hcat4 : ¬ 9223372036854775807 < (stmtsT (i + 1) n.kids).length + 1 + 1 + (tabsT i).length + 1 := by have := Hrm.out; rw [tabsT_len]; omega
      have hs := fun (d1 : Nat) (os : Array Obj) => str_grown HO.out d1 os
      have cT := fun (d1 : Nat) (os : Array Obj) => Calls.regrown_of (rf_tabs i (i : Int) rfl (by have := Hrm.out; omega) (grow (redrawn wr d1) os))
      go_upto_region 8 with fail
      clear b0 b1 b2 b3 b4 b5 b6 b7 b8 b9
      refine wp_region_quiet_below (by kernel_rfl) (by kernel_rfl) ?_
      repeat (quiet_step (with_reducible exact cT _ _))
      refine wpQuiet_nil ?_
      intro _ hw'
      obtain ⟨⟨dq, osq⟩, hw''⟩ := hw'
      subst hw''
      go_wp2_with fail
      go_ret
      exact ⟨ret_str (by rw [HTx.out]; simp [ByteArray.data_append]), bthen (one_al _ _) (bthen HB.out (below_regrown _ dq osq))⟩
set_option maxRecDepth 20000 in
set_option maxHeartbeats 1000000 in
theorem rf_behind (n : N) (v : Value) (ok : Nat → Prop) (W : World) (sg : List UInt8) (hv : RdN ok W v n) (hR : ∀ y ∈ n.kids, ∃ o, rightN o y = true) (hK : ∀ y ∈ n.kids, exprK y.kind = true ∨ y.kind = 20) (hsg : sg.length ≤ 10) (hroom : (behT sg n.kids).length ≤ 70368744177664) :
    Calls Tryz.prog 82 #[.string ⟨sg.toArray⟩, v] W fun e W' => e = .returned (.string ⟨(behT sg n.kids).toArray⟩) ∧ Below W.heap.size W W' := by
  obtain ⟨A, c, B, d, K, e, rfl, hn⟩ := hv.form
  have hlen := hn.len
  by_cases h0 : 0 < n.kids.length
  · have hbe := behT_pos (s := sg) h0
    rw [hbe] at hroom ⊢
    have hmem : n.kids[0]'h0 ∈ n.kids := List.getElem_mem h0
    have hle : (exprT (n.kids[0]'h0)).length ≤ 70368744177664 := by rw [List.length_append] at hroom; omega
    have HC := Lib.hid (fun (v : Value) (W1 : World) (hv1 : RdN ok W1 v (n.kids[0]'h0)) => rf_expr (SizeOf.sizeOf (n.kids[0]'h0) + 1) (n.kids[0]'h0) (Nat.lt_succ_self _) v ok W1 hv1 (hR _ hmem) (hK _ hmem) hle)
    have HEl := Lib.hid (fun (W1 : World) (hb : Below W.heap.size W W1) => (hn.kids.below hb).elem 0 h0)
    have hz : ((n.kids.length : Int) == 0) = false := by rw [beq_eq_false_iff_ne]; omega
    have hlA : (0 : Int) < (n.kids.length : Int) := by omega
    generalize n.kids[0]'h0 = Y at *
    have hcat : ¬ 9223372036854775807 < sg.length + (exprT Y).length := by omega
    clear hv hn hR hK hmem hle hroom hbe
    go_enter Tryz.func82, Tryz.ntmps82
    obtain ⟨g, off, A', c', B', d', K', e', rfl, _, hk', k0, k1, k2, k3, k4, k5, k6, k7, k8, k9⟩ := HEl.out _ (one_al W (boxN n A c B d K e))
    simp only [Nat.zero_mul, Nat.add_zero] at k0 k1 k2 k3 k4 k5 k6 k7 k8 k9
    have HY := Lib.hid hk'.rd
    clear hk'
    go_wp2_with fail
    refine (HC.out _ _ HY.out).mono ?_
    rintro e1 w1 ⟨rfl, hb⟩
    have HB := Lib.hid (bthen (one_al _ _) hb)
    clear hb k0 k1 k2 k3 k4 k5 k6 k7 k8 k9
    go_wp2_with fail
    go_ret
    exact ⟨ret_str (by simp [ByteArray.data_append]), HB.out⟩
  · have hbe := behT_nil (s := sg) h0
    rw [hbe] at hroom ⊢
    have hz : ((n.kids.length : Int) == 0) = true := by
      have h := show n.kids.length = 0 by omega
      rw [h]; rfl
    clear hv hn hR hK hbe
    go_enter Tryz.func82, Tryz.ntmps82
    go_wp2_with fail
    go_ret
    exact ⟨rfl, one_al _ _⟩

set_option maxRecDepth 20000 in
set_option maxHeartbeats 1000000 in
theorem rf_stmt_5 (t : List UInt8) (x : V) (f : Bool) (l : List N) (a : Int) (H : RStmtOk (SizeOf.sizeOf (N.mk 5 t x f l a))) (A B K : Option Addr) (c d e : Nat) (ok : Nat → Prop) (W : World) (i : Nat) (hv : RdN ok W (.agg #[.int .i64 5, .string ⟨t.toArray⟩, .int .i64 x.kind, .int .i64 x.num, .string ⟨x.str.toArray⟩, .slice A x.parts.length c, .slice B x.keys.length d, .bool f, .slice K l.length e, .int .i64 a]) (N.mk 5 t x f l a)) (hr : ∃ o, rightN o (N.mk 5 t x f l a) = true) (hroom : (stmtT i (N.mk 5 t x f l a)).length ≤ 70368744177664) (hi : i ≤ 70368744177664) :
    Calls Tryz.prog 48 #[.agg #[.int .i64 5, .string ⟨t.toArray⟩, .int .i64 x.kind, .int .i64 x.num, .string ⟨x.str.toArray⟩, .slice A x.parts.length c, .slice B x.keys.length d, .bool f, .slice K l.length e, .int .i64 a], .int .i64 (i : Int)] W fun e W' => e = .returned (.string ⟨(stmtT i (N.mk 5 t x f l a)).toArray⟩) ∧ Below W.heap.size W W' := by
  have hx : stmtT i (N.mk 5 t x f l a) = [108, 101, 116, 32] ++ t ++ behT [32, 61, 32] l ++ [59] := by rw [stmtT]; rfl
  obtain ⟨o, hr⟩ := hr
  obtain ⟨hsd, hsh⟩ := right_said hr
  have hkr := right_kids hr
  obtain ⟨A', c', B', d', K', e', hve, hn⟩ := hv.form
  have htl : t.length ≤ 16777216 := hn.text
  have hlen : l.length ≤ 16777216 := hn.len
  have hsz := fun (y : N) (hy : y ∈ l) => sz_mem (n := (N.mk 5 t x f l a)) hy
  clear hve hn
  simp only [N.kind, N.kids, N.text] at hsh hkr
  rw [hx] at hroom
  have HTx := Lib.hid hx
  have HV := Lib.hid hv
  have hkids : RdNs ok W (.slice K l.length e) 0 l := kids_of hv
  have hrb : (behT [32, 61, 32] l).length ≤ 70368744177664 := by simp only [List.length_append, List.length_cons, List.length_nil] at hroom; omega
  have HBh := Lib.hid (fun (W1 : World) (hb : Below W.heap.size W W1) => rf_behind (N.mk 5 t x f l a) (.agg #[.int .i64 5, .string ⟨t.toArray⟩, .int .i64 x.kind, .int .i64 x.num, .string ⟨x.str.toArray⟩, .slice A x.parts.length c, .slice B x.keys.length d, .bool f, .slice K l.length e, .int .i64 a]) ok W1 [32, 61, 32] (hv.below hb) hkr (all_kinds (l := l) (by simp only [shapeK] at hsh; simp at hsh; simpa using hsh.2)) (by decide) (by show (behT [32, 61, 32] l).length ≤ _; omega))
  simp only [N.kids] at HBh
  have hcat0 : ¬ 9223372036854775807 < 4 + t.length := by omega
  have hcat : ¬ 9223372036854775807 < 4 + t.length + (behT [32, 61, 32] l).length := by omega
  have hcat2 : ¬ 9223372036854775807 < 4 + t.length + (behT [32, 61, 32] l).length + 1 := by omega
  clear hrb
  obtain ⟨b0, b1, b2, b3, b4, b5, b6, b7, b8, b9⟩ := box10 (Below.refl (W.alloc (.cells #[.int .i64 5, .string ⟨t.toArray⟩, .int .i64 x.kind, .int .i64 x.num, .string ⟨x.str.toArray⟩, .slice A x.parts.length c, .slice B x.keys.length d, .bool f, .slice K l.length e, .int .i64 a] 28)).heap.size (W.alloc (.cells #[.int .i64 5, .string ⟨t.toArray⟩, .int .i64 x.kind, .int .i64 x.num, .string ⟨x.str.toArray⟩, .slice A x.parts.length c, .slice B x.keys.length d, .bool f, .slice K l.length e, .int .i64 a] 28)))
  have y0 := cell_regrown b0
  have y1 := cell_regrown b1
  have y2 := cell_regrown b2
  have y3 := cell_regrown b3
  have y4 := cell_regrown b4
  have y5 := cell_regrown b5
  have y6 := cell_regrown b6
  have y7 := cell_regrown b7
  have y8 := cell_regrown b8
  have y9 := cell_regrown b9
  clear b0 b1 b2 b3 b4 b5 b6 b7 b8 b9
  have cB := fun (d1 : Nat) (os : Array Obj) => Calls.regrown_of (HBh.out (grow (redrawn (W.alloc (.cells #[.int .i64 5, .string ⟨t.toArray⟩, .int .i64 x.kind, .int .i64 x.num, .string ⟨x.str.toArray⟩, .slice A x.parts.length c, .slice B x.keys.length d, .bool f, .slice K l.length e, .int .i64 a] 28)) d1) os) (bthen (one_al _ _) (below_regrown _ d1 os)))
  clear hv hr hx hroom hkids hsd hsh hkr hsz H
  go_enter Tryz.func48, Tryz.ntmps48
  go_upto_region 3 with fail
  refine wp_region_quiet_below (by kernel_rfl) (by kernel_rfl) ?_
  repeat (quiet_step (with_reducible exact cB _ _))
  refine wpQuiet_nil ?_
  intro _ hw'
  obtain ⟨⟨dq, osq⟩, hw''⟩ := hw'
  subst hw''
  go_wp2_with fail
  go_ret
  exact ⟨ret_str (by rw [HTx.out]; simp [ByteArray.data_append]), bthen (one_al _ _) (below_regrown _ dq osq)⟩
set_option maxRecDepth 20000 in
set_option maxHeartbeats 1000000 in
theorem rf_stmt_6 (t : List UInt8) (x : V) (f : Bool) (l : List N) (a : Int) (H : RStmtOk (SizeOf.sizeOf (N.mk 6 t x f l a))) (A B K : Option Addr) (c d e : Nat) (ok : Nat → Prop) (W : World) (i : Nat) (hv : RdN ok W (.agg #[.int .i64 6, .string ⟨t.toArray⟩, .int .i64 x.kind, .int .i64 x.num, .string ⟨x.str.toArray⟩, .slice A x.parts.length c, .slice B x.keys.length d, .bool f, .slice K l.length e, .int .i64 a]) (N.mk 6 t x f l a)) (hr : ∃ o, rightN o (N.mk 6 t x f l a) = true) (hroom : (stmtT i (N.mk 6 t x f l a)).length ≤ 70368744177664) (hi : i ≤ 70368744177664) :
    Calls Tryz.prog 48 #[.agg #[.int .i64 6, .string ⟨t.toArray⟩, .int .i64 x.kind, .int .i64 x.num, .string ⟨x.str.toArray⟩, .slice A x.parts.length c, .slice B x.keys.length d, .bool f, .slice K l.length e, .int .i64 a], .int .i64 (i : Int)] W fun e W' => e = .returned (.string ⟨(stmtT i (N.mk 6 t x f l a)).toArray⟩) ∧ Below W.heap.size W W' := by
  have hx : stmtT i (N.mk 6 t x f l a) = t ++ behT [32, 61, 32] l ++ [59] := by rw [stmtT]; rfl
  obtain ⟨o, hr⟩ := hr
  obtain ⟨hsd, hsh⟩ := right_said hr
  have hkr := right_kids hr
  obtain ⟨A', c', B', d', K', e', hve, hn⟩ := hv.form
  have htl : t.length ≤ 16777216 := hn.text
  have hlen : l.length ≤ 16777216 := hn.len
  have hsz := fun (y : N) (hy : y ∈ l) => sz_mem (n := (N.mk 6 t x f l a)) hy
  clear hve hn
  simp only [N.kind, N.kids, N.text] at hsh hkr
  rw [hx] at hroom
  have HTx := Lib.hid hx
  have HV := Lib.hid hv
  have hkids : RdNs ok W (.slice K l.length e) 0 l := kids_of hv
  have hrb : (behT [32, 61, 32] l).length ≤ 70368744177664 := by simp only [List.length_append, List.length_cons, List.length_nil] at hroom; omega
  have HBh := Lib.hid (fun (W1 : World) (hb : Below W.heap.size W W1) => rf_behind (N.mk 6 t x f l a) (.agg #[.int .i64 6, .string ⟨t.toArray⟩, .int .i64 x.kind, .int .i64 x.num, .string ⟨x.str.toArray⟩, .slice A x.parts.length c, .slice B x.keys.length d, .bool f, .slice K l.length e, .int .i64 a]) ok W1 [32, 61, 32] (hv.below hb) hkr (all_kinds (l := l) (by simp only [shapeK] at hsh; simp at hsh; simpa using hsh.2)) (by decide) (by show (behT [32, 61, 32] l).length ≤ _; omega))
  simp only [N.kids] at HBh
  have hcat0 : ¬ 9223372036854775807 < 4 + t.length := by omega
  have hcat : ¬ 9223372036854775807 < t.length + (behT [32, 61, 32] l).length := by omega
  have hcat2 : ¬ 9223372036854775807 < t.length + (behT [32, 61, 32] l).length + 1 := by omega
  clear hrb
  obtain ⟨b0, b1, b2, b3, b4, b5, b6, b7, b8, b9⟩ := box10 (Below.refl (W.alloc (.cells #[.int .i64 6, .string ⟨t.toArray⟩, .int .i64 x.kind, .int .i64 x.num, .string ⟨x.str.toArray⟩, .slice A x.parts.length c, .slice B x.keys.length d, .bool f, .slice K l.length e, .int .i64 a] 28)).heap.size (W.alloc (.cells #[.int .i64 6, .string ⟨t.toArray⟩, .int .i64 x.kind, .int .i64 x.num, .string ⟨x.str.toArray⟩, .slice A x.parts.length c, .slice B x.keys.length d, .bool f, .slice K l.length e, .int .i64 a] 28)))
  have y0 := cell_regrown b0
  have y1 := cell_regrown b1
  have y2 := cell_regrown b2
  have y3 := cell_regrown b3
  have y4 := cell_regrown b4
  have y5 := cell_regrown b5
  have y6 := cell_regrown b6
  have y7 := cell_regrown b7
  have y8 := cell_regrown b8
  have y9 := cell_regrown b9
  clear b0 b1 b2 b3 b4 b5 b6 b7 b8 b9
  have cB := fun (d1 : Nat) (os : Array Obj) => Calls.regrown_of (HBh.out (grow (redrawn (W.alloc (.cells #[.int .i64 6, .string ⟨t.toArray⟩, .int .i64 x.kind, .int .i64 x.num, .string ⟨x.str.toArray⟩, .slice A x.parts.length c, .slice B x.keys.length d, .bool f, .slice K l.length e, .int .i64 a] 28)) d1) os) (bthen (one_al _ _) (below_regrown _ d1 os)))
  clear hv hr hx hroom hkids hsd hsh hkr hsz H
  go_enter Tryz.func48, Tryz.ntmps48
  go_upto_region 5 with fail
  refine wp_region_quiet_below (by kernel_rfl) (by kernel_rfl) ?_
  repeat (quiet_step (with_reducible exact cB _ _))
  refine wpQuiet_nil ?_
  intro _ hw'
  obtain ⟨⟨dq, osq⟩, hw''⟩ := hw'
  subst hw''
  go_wp2_with fail
  go_ret
  exact ⟨ret_str (by rw [HTx.out]; simp [ByteArray.data_append]), bthen (one_al _ _) (below_regrown _ dq osq)⟩
set_option maxRecDepth 20000 in
set_option maxHeartbeats 1000000 in
theorem rf_stmt_7_2 (t : List UInt8) (x : V) (f : Bool) (l : List N) (a : Int) (hL : l.length = 2) (H : RStmtOk (SizeOf.sizeOf (N.mk 7 t x f l a))) (A B K : Option Addr) (c d e : Nat) (ok : Nat → Prop) (W : World) (i : Nat) (hv : RdN ok W (.agg #[.int .i64 7, .string ⟨t.toArray⟩, .int .i64 x.kind, .int .i64 x.num, .string ⟨x.str.toArray⟩, .slice A x.parts.length c, .slice B x.keys.length d, .bool f, .slice K l.length e, .int .i64 a]) (N.mk 7 t x f l a)) (hr : ∃ o, rightN o (N.mk 7 t x f l a) = true) (hroom : (stmtT i (N.mk 7 t x f l a)).length ≤ 70368744177664) (hi : i ≤ 70368744177664) :
    Calls Tryz.prog 48 #[.agg #[.int .i64 7, .string ⟨t.toArray⟩, .int .i64 x.kind, .int .i64 x.num, .string ⟨x.str.toArray⟩, .slice A x.parts.length c, .slice B x.keys.length d, .bool f, .slice K l.length e, .int .i64 a], .int .i64 (i : Int)] W fun e W' => e = .returned (.string ⟨(stmtT i (N.mk 7 t x f l a)).toArray⟩) ∧ Below W.heap.size W W' := by
  have hx : stmtT i (N.mk 7 t x f l a) = [105, 102] ++ [32, 40] ++ kidT 0 l ++ [41, 32] ++ blkT i 1 l ++ elseT i 2 l := by rw [stmtT]; rfl
  obtain ⟨o, hr⟩ := hr
  obtain ⟨hsd, hsh⟩ := right_said hr
  have hkr := right_kids hr
  obtain ⟨A', c', B', d', K', e', hve, hn⟩ := hv.form
  have htl : t.length ≤ 16777216 := hn.text
  have hlen : l.length ≤ 16777216 := hn.len
  have hsz := fun (y : N) (hy : y ∈ l) => sz_mem (n := (N.mk 7 t x f l a)) hy
  clear hve hn
  simp only [N.kind, N.kids, N.text] at hsh hkr
  rw [hx] at hroom
  have HTx := Lib.hid hx
  have HV := Lib.hid hv
  have hkids : RdNs ok W (.slice K l.length e) 0 l := kids_of hv
  have h2 : 1 < l.length := by omega
  have h0 : 0 < l.length := by omega
  have hk01 : exprK (l[0]'h0).kind = true ∧ (l[1]'h2).kind = 4 := by
    simp only [shapeK] at hsh
    have h := hsh
    simp only [Bool.and_eq_true, beq_iff_eq, Bool.false_eq_true, reduceIte, Int.reduceEq, or_self, or_false, false_or] at h
    rw [List.getD_eq_getElem?_getD, List.getD_eq_getElem?_getD, List.getElem?_map, List.getElem?_map, List.getElem?_eq_getElem (by omega : 0 < l.length), List.getElem?_eq_getElem h2] at h
    simp at h
    exact ⟨h.2.1, h.2.2.1⟩
  have hq0 := kidT_at h0
  have hq1 := blkT_at (w := i) h2
  rw [hq0, hq1] at hroom
  have Hq0 := Lib.hid hq0
  have Hq1 := Lib.hid hq1
  have hm0 : l[0]'h0 ∈ l := List.getElem_mem h0
  have hm1 : l[1]'h2 ∈ l := List.getElem_mem h2
  have hle0 : (exprT (l[0]'h0)).length ≤ 70368744177664 := by simp only [List.length_append, List.length_cons, List.length_nil] at hroom; omega
  have hle1 : (blockT i (l[1]'h2)).length ≤ 70368744177664 := by simp only [List.length_append, List.length_cons, List.length_nil] at hroom; omega
  have hle2 : (exprT (l[0]'h0)).length + (blockT i (l[1]'h2)).length ≤ 70368744177664 := by simp only [List.length_append, List.length_cons, List.length_nil] at hroom; omega
  have HC := Lib.hid (fun (v : Value) (W1 : World) (hv1 : RdN ok W1 v (l[0]'h0)) => rf_expr (SizeOf.sizeOf (l[0]'h0) + 1) (l[0]'h0) (Nat.lt_succ_self _) v ok W1 hv1 (hkr _ hm0) (.inl hk01.1) hle0)
  have HD := Lib.hid (fun (v : Value) (W1 : World) (hv1 : RdN ok W1 v (l[1]'h2)) => rf_block (l[1]'h2) (fun y hy => H y (Nat.lt_trans hy (hsz _ hm1))) v ok W1 i hv1 (hkr _ hm1) hk01.2 hle1)
  have HE0 := Lib.hid (fun (W1 : World) (hb : Below W.heap.size W W1) => (hkids.below hb).elem 0 h0)
  have HE1 := Lib.hid (fun (W1 : World) (hb : Below W.heap.size W W1) => (hkids.below hb).elem 1 h2)
  have hlB : (1 : Int) < (l.length : Int) := by omega
  have hlC : (0 : Int) < (l.length : Int) := by omega
  have hel : elseT i 2 l = [] := by
    match l, hL with
    | [y, z], _ => rfl
  have HEl := Lib.hid hel
  have hl2 : ((l.length : Int) == 2) = true := by simp; omega
  clear hel
  generalize l[0]'h0 = Y at *
  generalize l[1]'h2 = Z at *
  clear hle0 hle1 hm0 hm1 hq0 hq1
  have hcat : ¬ 9223372036854775807 < 4 + (exprT Y).length := by omega
  have hcat2 : ¬ 9223372036854775807 < 4 + (exprT Y).length + 2 := by omega
  have hcat3 : ¬ 9223372036854775807 < 4 + (exprT Y).length + 2 + (blockT i Z).length := by omega
  obtain ⟨g, off, Az, cz, Bz, dz, Kz, ez, rfl, _, hz', z0, z1, z2, z3, z4, z5, z6, z7, z8, z9⟩ := HE0.out _ (one_al W (.cells #[.int .i64 7, .string ⟨t.toArray⟩, .int .i64 x.kind, .int .i64 x.num, .string ⟨x.str.toArray⟩, .slice A x.parts.length c, .slice B x.keys.length d, .bool f, .slice K l.length e, .int .i64 a] 28))
  have HY := Lib.hid hz'.rd
  clear hz'
  obtain ⟨g', off', Au, cu, Bu, du, Ku, eu, hg, _, hu', u0, u1, u2, u3, u4, u5, u6, u7, u8, u9⟩ := HE1.out _ (one_al W (.cells #[.int .i64 7, .string ⟨t.toArray⟩, .int .i64 x.kind, .int .i64 x.num, .string ⟨x.str.toArray⟩, .slice A x.parts.length c, .slice B x.keys.length d, .bool f, .slice (some ⟨g, off, none⟩) l.length e, .int .i64 a] 28))
  injection hg with hg
  injection hg with hg1 hg2
  subst hg1 hg2
  simp only [Nat.zero_mul, Nat.one_mul, Nat.add_zero] at z0 z1 z2 z3 z4 z5 z6 z7 z8 z9 u0 u1 u2 u3 u4 u5 u6 u7 u8 u9
  have HZ := Lib.hid hu'.rd
  clear hu'
  have kz0 := cell_regrown z0
  have kz1 := cell_regrown z1
  have kz2 := cell_regrown z2
  have kz3 := cell_regrown z3
  have kz4 := cell_regrown z4
  have kz5 := cell_regrown z5
  have kz6 := cell_regrown z6
  have kz7 := cell_regrown z7
  have kz8 := cell_regrown z8
  have kz9 := cell_regrown z9
  have ku0 := cell_regrown u0
  have ku1 := cell_regrown u1
  have ku2 := cell_regrown u2
  have ku3 := cell_regrown u3
  have ku4 := cell_regrown u4
  have ku5 := cell_regrown u5
  have ku6 := cell_regrown u6
  have ku7 := cell_regrown u7
  have ku8 := cell_regrown u8
  have ku9 := cell_regrown u9
  obtain ⟨b0, b1, b2, b3, b4, b5, b6, b7, b8, b9⟩ := box10 (Below.refl (W.alloc (.cells #[.int .i64 7, .string ⟨t.toArray⟩, .int .i64 x.kind, .int .i64 x.num, .string ⟨x.str.toArray⟩, .slice A x.parts.length c, .slice B x.keys.length d, .bool f, .slice (some ⟨g, off, none⟩) l.length e, .int .i64 a] 28)).heap.size (W.alloc (.cells #[.int .i64 7, .string ⟨t.toArray⟩, .int .i64 x.kind, .int .i64 x.num, .string ⟨x.str.toArray⟩, .slice A x.parts.length c, .slice B x.keys.length d, .bool f, .slice (some ⟨g, off, none⟩) l.length e, .int .i64 a] 28)))
  have y0 := cell_regrown b0
  have y1 := cell_regrown b1
  have y2 := cell_regrown b2
  have y3 := cell_regrown b3
  have y4 := cell_regrown b4
  have y5 := cell_regrown b5
  have y6 := cell_regrown b6
  have y7 := cell_regrown b7
  have y8 := cell_regrown b8
  have y9 := cell_regrown b9
  clear b0 b1 b2 b3 b4 b5 b6 b7 b8 b9
  have cE := fun (d1 : Nat) (os : Array Obj) => Calls.regrown_of (HC.out _ (grow (redrawn (W.alloc (.cells #[.int .i64 7, .string ⟨t.toArray⟩, .int .i64 x.kind, .int .i64 x.num, .string ⟨x.str.toArray⟩, .slice A x.parts.length c, .slice B x.keys.length d, .bool f, .slice (some ⟨g, off, none⟩) l.length e, .int .i64 a] 28)) d1) os) (HY.out.below (below_regrown _ d1 os)))
  have cD := fun (d1 : Nat) (os : Array Obj) => Calls.regrown_of (HD.out _ (grow (redrawn (W.alloc (.cells #[.int .i64 7, .string ⟨t.toArray⟩, .int .i64 x.kind, .int .i64 x.num, .string ⟨x.str.toArray⟩, .slice A x.parts.length c, .slice B x.keys.length d, .bool f, .slice (some ⟨g, off, none⟩) l.length e, .int .i64 a] 28)) d1) os) (HZ.out.below (below_regrown _ d1 os)))
  clear z0 z1 z2 z3 z4 z5 z6 z7 z8 z9 u0 u1 u2 u3 u4 u5 u6 u7 u8 u9
  clear hv hr hx hroom hkids hsd hsh hkr hsz H hk01 h2 hL
  go_enter Tryz.func48, Tryz.ntmps48
  go_upto_region 16 with fail
  refine wp_region_quiet_below (by kernel_rfl) (by kernel_rfl) ?_
  repeat (quiet_step (first | with_reducible exact cE _ _ | with_reducible exact cD _ _))
  refine wpQuiet_nil ?_
  intro _ hw'
  obtain ⟨⟨dq, osq⟩, hw''⟩ := hw'
  subst hw''
  go_wp2_with fail
  go_ret
  exact ⟨ret_str (by rw [HTx.out, Hq0.out, Hq1.out, HEl.out]; simp [ByteArray.data_append]), bthen (one_al _ _) (below_regrown _ dq osq)⟩
set_option maxRecDepth 20000 in
set_option maxHeartbeats 1000000 in
theorem rf_stmt_7_3 (t : List UInt8) (x : V) (f : Bool) (l : List N) (a : Int) (hL : l.length = 3) (H : RStmtOk (SizeOf.sizeOf (N.mk 7 t x f l a))) (A B K : Option Addr) (c d e : Nat) (ok : Nat → Prop) (W : World) (i : Nat) (hv : RdN ok W (.agg #[.int .i64 7, .string ⟨t.toArray⟩, .int .i64 x.kind, .int .i64 x.num, .string ⟨x.str.toArray⟩, .slice A x.parts.length c, .slice B x.keys.length d, .bool f, .slice K l.length e, .int .i64 a]) (N.mk 7 t x f l a)) (hr : ∃ o, rightN o (N.mk 7 t x f l a) = true) (hroom : (stmtT i (N.mk 7 t x f l a)).length ≤ 70368744177664) (hi : i ≤ 70368744177664) :
    Calls Tryz.prog 48 #[.agg #[.int .i64 7, .string ⟨t.toArray⟩, .int .i64 x.kind, .int .i64 x.num, .string ⟨x.str.toArray⟩, .slice A x.parts.length c, .slice B x.keys.length d, .bool f, .slice K l.length e, .int .i64 a], .int .i64 (i : Int)] W fun e W' => e = .returned (.string ⟨(stmtT i (N.mk 7 t x f l a)).toArray⟩) ∧ Below W.heap.size W W' := by
  have hx : stmtT i (N.mk 7 t x f l a) = [105, 102] ++ [32, 40] ++ kidT 0 l ++ [41, 32] ++ blkT i 1 l ++ elseT i 2 l := by rw [stmtT]; rfl
  obtain ⟨o, hr⟩ := hr
  obtain ⟨hsd, hsh⟩ := right_said hr
  have hkr := right_kids hr
  obtain ⟨A', c', B', d', K', e', hve, hn⟩ := hv.form
  have htl : t.length ≤ 16777216 := hn.text
  have hlen : l.length ≤ 16777216 := hn.len
  have hsz := fun (y : N) (hy : y ∈ l) => sz_mem (n := (N.mk 7 t x f l a)) hy
  clear hve hn
  simp only [N.kind, N.kids, N.text] at hsh hkr
  rw [hx] at hroom
  have HTx := Lib.hid hx
  have HV := Lib.hid hv
  have hkids : RdNs ok W (.slice K l.length e) 0 l := kids_of hv
  have h2 : 1 < l.length := by omega
  have h0 : 0 < l.length := by omega
  have hk01 : exprK (l[0]'h0).kind = true ∧ (l[1]'h2).kind = 4 := by
    simp only [shapeK] at hsh
    have h := hsh
    simp only [Bool.and_eq_true, beq_iff_eq, Bool.false_eq_true, reduceIte, Int.reduceEq, or_self, or_false, false_or] at h
    rw [List.getD_eq_getElem?_getD, List.getD_eq_getElem?_getD, List.getElem?_map, List.getElem?_map, List.getElem?_eq_getElem (by omega : 0 < l.length), List.getElem?_eq_getElem h2] at h
    simp at h
    exact ⟨h.2.1, h.2.2.1⟩
  have hq0 := kidT_at h0
  have hq1 := blkT_at (w := i) h2
  rw [hq0, hq1] at hroom
  have Hq0 := Lib.hid hq0
  have Hq1 := Lib.hid hq1
  have hm0 : l[0]'h0 ∈ l := List.getElem_mem h0
  have hm1 : l[1]'h2 ∈ l := List.getElem_mem h2
  have hle0 : (exprT (l[0]'h0)).length ≤ 70368744177664 := by simp only [List.length_append, List.length_cons, List.length_nil] at hroom; omega
  have hle1 : (blockT i (l[1]'h2)).length ≤ 70368744177664 := by simp only [List.length_append, List.length_cons, List.length_nil] at hroom; omega
  have hle2 : (exprT (l[0]'h0)).length + (blockT i (l[1]'h2)).length ≤ 70368744177664 := by simp only [List.length_append, List.length_cons, List.length_nil] at hroom; omega
  have HC := Lib.hid (fun (v : Value) (W1 : World) (hv1 : RdN ok W1 v (l[0]'h0)) => rf_expr (SizeOf.sizeOf (l[0]'h0) + 1) (l[0]'h0) (Nat.lt_succ_self _) v ok W1 hv1 (hkr _ hm0) (.inl hk01.1) hle0)
  have HD := Lib.hid (fun (v : Value) (W1 : World) (hv1 : RdN ok W1 v (l[1]'h2)) => rf_block (l[1]'h2) (fun y hy => H y (Nat.lt_trans hy (hsz _ hm1))) v ok W1 i hv1 (hkr _ hm1) hk01.2 hle1)
  have HE0 := Lib.hid (fun (W1 : World) (hb : Below W.heap.size W W1) => (hkids.below hb).elem 0 h0)
  have HE1 := Lib.hid (fun (W1 : World) (hb : Below W.heap.size W W1) => (hkids.below hb).elem 1 h2)
  have hlB : (1 : Int) < (l.length : Int) := by omega
  have hlC : (0 : Int) < (l.length : Int) := by omega
  have hl3 : 2 < l.length := by omega
  have hk2 := if_third hL hsh hl3
  have hel := elseT_at (w := i) hl3
  rw [hel] at hroom
  have hm2 : l[2]'hl3 ∈ l := List.getElem_mem hl3
  have hl2 : ((l.length : Int) == 2) = false := by rw [beq_eq_false_iff_ne]; omega
  have hlD : (2 : Int) < (l.length : Int) := by omega
  have hle3 : (exprT (l[0]'h0)).length + (blockT i (l[1]'h2)).length + (if (l[2]'hl3).kind = 7 then stmtT i (l[2]'hl3) else blockT i (l[2]'hl3)).length ≤ 70368744177664 := by simp only [List.length_append, List.length_cons, List.length_nil] at hroom; omega
  have HS := Lib.hid (fun (v : Value) (W1 : World) (hk7 : (l[2]'hl3).kind = 7) (hv1 : RdN ok W1 v (l[2]'hl3)) => H (l[2]'hl3) (hsz _ hm2) v ok W1 i hv1 (hkr _ hm2) (by rw [hk7]; rfl) (by rw [if_pos hk7] at hle3; omega) hi)
  have HF := Lib.hid (fun (v : Value) (W1 : World) (hk4 : (l[2]'hl3).kind = 4) (hv1 : RdN ok W1 v (l[2]'hl3)) => rf_block (l[2]'hl3) (fun y hy => H y (Nat.lt_trans hy (hsz _ hm2))) v ok W1 i hv1 (hkr _ hm2) hk4 (by rw [if_neg (by rw [hk4]; decide)] at hle3; omega))
  have HE2 := Lib.hid (fun (W1 : World) (hb : Below W.heap.size W W1) => (hkids.below hb).elem 2 hl3)
  have Hel := Lib.hid hel
  generalize l[2]'hl3 = U at *
  clear hel hm2
  generalize l[0]'h0 = Y at *
  generalize l[1]'h2 = Z at *
  clear hle0 hle1 hm0 hm1 hq0 hq1
  have hcat : ¬ 9223372036854775807 < 4 + (exprT Y).length := by omega
  have hcat2 : ¬ 9223372036854775807 < 4 + (exprT Y).length + 2 := by omega
  have hcat3 : ¬ 9223372036854775807 < 4 + (exprT Y).length + 2 + (blockT i Z).length := by omega
  obtain ⟨g, off, Az, cz, Bz, dz, Kz, ez, rfl, _, hz', z0, z1, z2, z3, z4, z5, z6, z7, z8, z9⟩ := HE0.out _ (one_al W (.cells #[.int .i64 7, .string ⟨t.toArray⟩, .int .i64 x.kind, .int .i64 x.num, .string ⟨x.str.toArray⟩, .slice A x.parts.length c, .slice B x.keys.length d, .bool f, .slice K l.length e, .int .i64 a] 28))
  have HY := Lib.hid hz'.rd
  clear hz'
  obtain ⟨g', off', Au, cu, Bu, du, Ku, eu, hg, _, hu', u0, u1, u2, u3, u4, u5, u6, u7, u8, u9⟩ := HE1.out _ (one_al W (.cells #[.int .i64 7, .string ⟨t.toArray⟩, .int .i64 x.kind, .int .i64 x.num, .string ⟨x.str.toArray⟩, .slice A x.parts.length c, .slice B x.keys.length d, .bool f, .slice (some ⟨g, off, none⟩) l.length e, .int .i64 a] 28))
  injection hg with hg
  injection hg with hg1 hg2
  subst hg1 hg2
  simp only [Nat.zero_mul, Nat.one_mul, Nat.add_zero] at z0 z1 z2 z3 z4 z5 z6 z7 z8 z9 u0 u1 u2 u3 u4 u5 u6 u7 u8 u9
  have HZ := Lib.hid hu'.rd
  clear hu'
  have kz0 := cell_regrown z0
  have kz1 := cell_regrown z1
  have kz2 := cell_regrown z2
  have kz3 := cell_regrown z3
  have kz4 := cell_regrown z4
  have kz5 := cell_regrown z5
  have kz6 := cell_regrown z6
  have kz7 := cell_regrown z7
  have kz8 := cell_regrown z8
  have kz9 := cell_regrown z9
  have ku0 := cell_regrown u0
  have ku1 := cell_regrown u1
  have ku2 := cell_regrown u2
  have ku3 := cell_regrown u3
  have ku4 := cell_regrown u4
  have ku5 := cell_regrown u5
  have ku6 := cell_regrown u6
  have ku7 := cell_regrown u7
  have ku8 := cell_regrown u8
  have ku9 := cell_regrown u9
  obtain ⟨b0, b1, b2, b3, b4, b5, b6, b7, b8, b9⟩ := box10 (Below.refl (W.alloc (.cells #[.int .i64 7, .string ⟨t.toArray⟩, .int .i64 x.kind, .int .i64 x.num, .string ⟨x.str.toArray⟩, .slice A x.parts.length c, .slice B x.keys.length d, .bool f, .slice (some ⟨g, off, none⟩) l.length e, .int .i64 a] 28)).heap.size (W.alloc (.cells #[.int .i64 7, .string ⟨t.toArray⟩, .int .i64 x.kind, .int .i64 x.num, .string ⟨x.str.toArray⟩, .slice A x.parts.length c, .slice B x.keys.length d, .bool f, .slice (some ⟨g, off, none⟩) l.length e, .int .i64 a] 28)))
  have y0 := cell_regrown b0
  have y1 := cell_regrown b1
  have y2 := cell_regrown b2
  have y3 := cell_regrown b3
  have y4 := cell_regrown b4
  have y5 := cell_regrown b5
  have y6 := cell_regrown b6
  have y7 := cell_regrown b7
  have y8 := cell_regrown b8
  have y9 := cell_regrown b9
  clear b0 b1 b2 b3 b4 b5 b6 b7 b8 b9
  have cE := fun (d1 : Nat) (os : Array Obj) => Calls.regrown_of (HC.out _ (grow (redrawn (W.alloc (.cells #[.int .i64 7, .string ⟨t.toArray⟩, .int .i64 x.kind, .int .i64 x.num, .string ⟨x.str.toArray⟩, .slice A x.parts.length c, .slice B x.keys.length d, .bool f, .slice (some ⟨g, off, none⟩) l.length e, .int .i64 a] 28)) d1) os) (HY.out.below (below_regrown _ d1 os)))
  have cD := fun (d1 : Nat) (os : Array Obj) => Calls.regrown_of (HD.out _ (grow (redrawn (W.alloc (.cells #[.int .i64 7, .string ⟨t.toArray⟩, .int .i64 x.kind, .int .i64 x.num, .string ⟨x.str.toArray⟩, .slice A x.parts.length c, .slice B x.keys.length d, .bool f, .slice (some ⟨g, off, none⟩) l.length e, .int .i64 a] 28)) d1) os) (HZ.out.below (below_regrown _ d1 os)))
  clear z0 z1 z2 z3 z4 z5 z6 z7 z8 z9 u0 u1 u2 u3 u4 u5 u6 u7 u8 u9
  rcases hk2 with hk4 | hk7
  · have hz7 : (U.kind == 7) = false := by rw [hk4]; rfl
    have Hcs := Lib.hid (show (if U.kind = 7 then stmtT i U else blockT i U) = blockT i U by rw [if_neg (by rw [hk4]; decide)])
    have hc4 : ¬ 9223372036854775807 < 4 + (exprT Y).length + 2 + (blockT i Z).length + 6 := by omega
    have hc5 : ¬ 9223372036854775807 < 4 + (exprT Y).length + 2 + (blockT i Z).length + 6 + (blockT i U).length := by have := Hcs.out; rw [this] at hle3; omega
    have Hkk := Lib.hid hk4
    clear hk4 hle3 hle2
    clear hv hr hx hroom hkids hsd hsh hkr hsz H hk01 h2 hL hl3
    go_enter Tryz.func48, Tryz.ntmps48
    go_upto_region 16 with fail
    refine wp_region_quiet_below (by kernel_rfl) (by kernel_rfl) ?_
    repeat (quiet_step (first | with_reducible exact cE _ _ | with_reducible exact cD _ _))
    refine wpQuiet_nil ?_
    intro _ hw'
    obtain ⟨⟨dq, osq⟩, hw''⟩ := hw'
    subst hw''
    have HBq := Lib.hid (below_regrown (W.alloc (.cells #[.int .i64 7, .string ⟨t.toArray⟩, .int .i64 x.kind, .int .i64 x.num, .string ⟨x.str.toArray⟩, .slice A x.parts.length c, .slice B x.keys.length d, .bool f, .slice (some ⟨g, off, none⟩) l.length e, .int .i64 a] 28)) dq osq)
    obtain ⟨g3, off3, Aw, cw, Bw, dw, Kw, ew, hg, _, hw', w0, w1, w2, w3, w4, w5, w6, w7, w8, w9⟩ := HE2.out _ (bthen (one_al W (.cells #[.int .i64 7, .string ⟨t.toArray⟩, .int .i64 x.kind, .int .i64 x.num, .string ⟨x.str.toArray⟩, .slice A x.parts.length c, .slice B x.keys.length d, .bool f, .slice (some ⟨g, off, none⟩) l.length e, .int .i64 a] 28)) HBq.out)
    injection hg with hg
    injection hg with hg1 hg2
    subst hg1 hg2
    simp only [Nat.reduceMul] at w0 w1 w2 w3 w4 w5 w6 w7 w8 w9
    have HU := Lib.hid hw'.rd
    clear hw'
    go_wp2_with fail
    refine (HF.out _ _ Hkk.out HU.out).mono ?_
    rintro e5 w5' ⟨rfl, hb⟩
    have HB5 := Lib.hid (bthen (bthen (one_al W (.cells #[.int .i64 7, .string ⟨t.toArray⟩, .int .i64 x.kind, .int .i64 x.num, .string ⟨x.str.toArray⟩, .slice A x.parts.length c, .slice B x.keys.length d, .bool f, .slice (some ⟨g, off, none⟩) l.length e, .int .i64 a] 28)) HBq.out) hb)
    clear hb
    go_wp2_with fail
    go_ret
    exact ⟨ret_str (by rw [HTx.out, Hq0.out, Hq1.out, Hel.out, Hcs.out]; simp [ByteArray.data_append]), HB5.out⟩
  · have hz7 : (U.kind == 7) = true := by rw [hk7]; rfl
    have Hcs := Lib.hid (show (if U.kind = 7 then stmtT i U else blockT i U) = stmtT i U by rw [if_pos hk7])
    have hc4 : ¬ 9223372036854775807 < 4 + (exprT Y).length + 2 + (blockT i Z).length + 6 := by omega
    have hc5 : ¬ 9223372036854775807 < 4 + (exprT Y).length + 2 + (blockT i Z).length + 6 + (stmtT i U).length := by have := Hcs.out; rw [this] at hle3; omega
    have Hkk := Lib.hid hk7
    clear hk7 hle3 hle2
    clear hv hr hx hroom hkids hsd hsh hkr hsz H hk01 h2 hL hl3
    go_enter Tryz.func48, Tryz.ntmps48
    go_upto_region 16 with fail
    refine wp_region_quiet_below (by kernel_rfl) (by kernel_rfl) ?_
    repeat (quiet_step (first | with_reducible exact cE _ _ | with_reducible exact cD _ _))
    refine wpQuiet_nil ?_
    intro _ hw'
    obtain ⟨⟨dq, osq⟩, hw''⟩ := hw'
    subst hw''
    have HBq := Lib.hid (below_regrown (W.alloc (.cells #[.int .i64 7, .string ⟨t.toArray⟩, .int .i64 x.kind, .int .i64 x.num, .string ⟨x.str.toArray⟩, .slice A x.parts.length c, .slice B x.keys.length d, .bool f, .slice (some ⟨g, off, none⟩) l.length e, .int .i64 a] 28)) dq osq)
    obtain ⟨g3, off3, Aw, cw, Bw, dw, Kw, ew, hg, _, hw', w0, w1, w2, w3, w4, w5, w6, w7, w8, w9⟩ := HE2.out _ (bthen (one_al W (.cells #[.int .i64 7, .string ⟨t.toArray⟩, .int .i64 x.kind, .int .i64 x.num, .string ⟨x.str.toArray⟩, .slice A x.parts.length c, .slice B x.keys.length d, .bool f, .slice (some ⟨g, off, none⟩) l.length e, .int .i64 a] 28)) HBq.out)
    injection hg with hg
    injection hg with hg1 hg2
    subst hg1 hg2
    simp only [Nat.reduceMul] at w0 w1 w2 w3 w4 w5 w6 w7 w8 w9
    have HU := Lib.hid hw'.rd
    clear hw'
    go_wp2_with fail
    refine (HS.out _ _ Hkk.out HU.out).mono ?_
    rintro e5 w5' ⟨rfl, hb⟩
    have HB5 := Lib.hid (bthen (bthen (one_al W (.cells #[.int .i64 7, .string ⟨t.toArray⟩, .int .i64 x.kind, .int .i64 x.num, .string ⟨x.str.toArray⟩, .slice A x.parts.length c, .slice B x.keys.length d, .bool f, .slice (some ⟨g, off, none⟩) l.length e, .int .i64 a] 28)) HBq.out) hb)
    clear hb
    go_wp2_with fail
    go_ret
    exact ⟨ret_str (by rw [HTx.out, Hq0.out, Hq1.out, Hel.out, Hcs.out]; simp [ByteArray.data_append]), HB5.out⟩
set_option maxRecDepth 20000 in
set_option maxHeartbeats 1000000 in
theorem rf_stmt_8 (t : List UInt8) (x : V) (f : Bool) (l : List N) (a : Int) (H : RStmtOk (SizeOf.sizeOf (N.mk 8 t x f l a))) (A B K : Option Addr) (c d e : Nat) (ok : Nat → Prop) (W : World) (i : Nat) (hv : RdN ok W (.agg #[.int .i64 8, .string ⟨t.toArray⟩, .int .i64 x.kind, .int .i64 x.num, .string ⟨x.str.toArray⟩, .slice A x.parts.length c, .slice B x.keys.length d, .bool f, .slice K l.length e, .int .i64 a]) (N.mk 8 t x f l a)) (hr : ∃ o, rightN o (N.mk 8 t x f l a) = true) (hroom : (stmtT i (N.mk 8 t x f l a)).length ≤ 70368744177664) (hi : i ≤ 70368744177664) :
    Calls Tryz.prog 48 #[.agg #[.int .i64 8, .string ⟨t.toArray⟩, .int .i64 x.kind, .int .i64 x.num, .string ⟨x.str.toArray⟩, .slice A x.parts.length c, .slice B x.keys.length d, .bool f, .slice K l.length e, .int .i64 a], .int .i64 (i : Int)] W fun e W' => e = .returned (.string ⟨(stmtT i (N.mk 8 t x f l a)).toArray⟩) ∧ Below W.heap.size W W' := by
  have hx : stmtT i (N.mk 8 t x f l a) = [119, 104, 105, 108, 101] ++ [32, 40] ++ kidT 0 l ++ [41, 32] ++ blkT i 1 l := by rw [stmtT]; rfl
  obtain ⟨o, hr⟩ := hr
  obtain ⟨hsd, hsh⟩ := right_said hr
  have hkr := right_kids hr
  obtain ⟨A', c', B', d', K', e', hve, hn⟩ := hv.form
  have htl : t.length ≤ 16777216 := hn.text
  have hlen : l.length ≤ 16777216 := hn.len
  have hsz := fun (y : N) (hy : y ∈ l) => sz_mem (n := (N.mk 8 t x f l a)) hy
  clear hve hn
  simp only [N.kind, N.kids, N.text] at hsh hkr
  rw [hx] at hroom
  have HTx := Lib.hid hx
  have HV := Lib.hid hv
  have hkids : RdNs ok W (.slice K l.length e) 0 l := kids_of hv
  have h2 : 1 < l.length := by simp only [shapeK] at hsh; simp at hsh; omega
  have h0 : 0 < l.length := by omega
  have hk01 : exprK (l[0]'h0).kind = true ∧ (l[1]'h2).kind = 4 := by
    simp only [shapeK] at hsh
    have h := hsh
    simp only [Bool.and_eq_true, beq_iff_eq, Bool.false_eq_true, reduceIte, Int.reduceEq, or_self, or_false, false_or] at h
    rw [List.getD_eq_getElem?_getD, List.getD_eq_getElem?_getD, List.getElem?_map, List.getElem?_map, List.getElem?_eq_getElem (by omega : 0 < l.length), List.getElem?_eq_getElem h2] at h
    simp at h
    exact ⟨h.2.1, h.2.2⟩
  have hq0 := kidT_at h0
  have hq1 := blkT_at (w := i) h2
  rw [hq0, hq1] at hroom
  have Hq0 := Lib.hid hq0
  have Hq1 := Lib.hid hq1
  have hm0 : l[0]'h0 ∈ l := List.getElem_mem h0
  have hm1 : l[1]'h2 ∈ l := List.getElem_mem h2
  have hle0 : (exprT (l[0]'h0)).length ≤ 70368744177664 := by simp only [List.length_append, List.length_cons, List.length_nil] at hroom; omega
  have hle1 : (blockT i (l[1]'h2)).length ≤ 70368744177664 := by simp only [List.length_append, List.length_cons, List.length_nil] at hroom; omega
  have hle2 : (exprT (l[0]'h0)).length + (blockT i (l[1]'h2)).length ≤ 70368744177664 := by simp only [List.length_append, List.length_cons, List.length_nil] at hroom; omega
  have HC := Lib.hid (fun (v : Value) (W1 : World) (hv1 : RdN ok W1 v (l[0]'h0)) => rf_expr (SizeOf.sizeOf (l[0]'h0) + 1) (l[0]'h0) (Nat.lt_succ_self _) v ok W1 hv1 (hkr _ hm0) (.inl hk01.1) hle0)
  have HD := Lib.hid (fun (v : Value) (W1 : World) (hv1 : RdN ok W1 v (l[1]'h2)) => rf_block (l[1]'h2) (fun y hy => H y (Nat.lt_trans hy (hsz _ hm1))) v ok W1 i hv1 (hkr _ hm1) hk01.2 hle1)
  have HE0 := Lib.hid (fun (W1 : World) (hb : Below W.heap.size W W1) => (hkids.below hb).elem 0 h0)
  have HE1 := Lib.hid (fun (W1 : World) (hb : Below W.heap.size W W1) => (hkids.below hb).elem 1 h2)
  have hlB : (1 : Int) < (l.length : Int) := by omega
  have hlC : (0 : Int) < (l.length : Int) := by omega
  generalize l[0]'h0 = Y at *
  generalize l[1]'h2 = Z at *
  clear hle0 hle1 hm0 hm1 hq0 hq1
  have hcat : ¬ 9223372036854775807 < 7 + (exprT Y).length := by omega
  have hcat2 : ¬ 9223372036854775807 < 7 + (exprT Y).length + 2 := by omega
  have hcat3 : ¬ 9223372036854775807 < 7 + (exprT Y).length + 2 + (blockT i Z).length := by omega
  obtain ⟨g, off, Az, cz, Bz, dz, Kz, ez, rfl, _, hz', z0, z1, z2, z3, z4, z5, z6, z7, z8, z9⟩ := HE0.out _ (one_al W (.cells #[.int .i64 8, .string ⟨t.toArray⟩, .int .i64 x.kind, .int .i64 x.num, .string ⟨x.str.toArray⟩, .slice A x.parts.length c, .slice B x.keys.length d, .bool f, .slice K l.length e, .int .i64 a] 28))
  have HY := Lib.hid hz'.rd
  clear hz'
  obtain ⟨g', off', Au, cu, Bu, du, Ku, eu, hg, _, hu', u0, u1, u2, u3, u4, u5, u6, u7, u8, u9⟩ := HE1.out _ (one_al W (.cells #[.int .i64 8, .string ⟨t.toArray⟩, .int .i64 x.kind, .int .i64 x.num, .string ⟨x.str.toArray⟩, .slice A x.parts.length c, .slice B x.keys.length d, .bool f, .slice (some ⟨g, off, none⟩) l.length e, .int .i64 a] 28))
  injection hg with hg
  injection hg with hg1 hg2
  subst hg1 hg2
  simp only [Nat.zero_mul, Nat.one_mul, Nat.add_zero] at z0 z1 z2 z3 z4 z5 z6 z7 z8 z9 u0 u1 u2 u3 u4 u5 u6 u7 u8 u9
  have HZ := Lib.hid hu'.rd
  clear hu'
  have kz0 := cell_regrown z0
  have kz1 := cell_regrown z1
  have kz2 := cell_regrown z2
  have kz3 := cell_regrown z3
  have kz4 := cell_regrown z4
  have kz5 := cell_regrown z5
  have kz6 := cell_regrown z6
  have kz7 := cell_regrown z7
  have kz8 := cell_regrown z8
  have kz9 := cell_regrown z9
  have ku0 := cell_regrown u0
  have ku1 := cell_regrown u1
  have ku2 := cell_regrown u2
  have ku3 := cell_regrown u3
  have ku4 := cell_regrown u4
  have ku5 := cell_regrown u5
  have ku6 := cell_regrown u6
  have ku7 := cell_regrown u7
  have ku8 := cell_regrown u8
  have ku9 := cell_regrown u9
  obtain ⟨b0, b1, b2, b3, b4, b5, b6, b7, b8, b9⟩ := box10 (Below.refl (W.alloc (.cells #[.int .i64 8, .string ⟨t.toArray⟩, .int .i64 x.kind, .int .i64 x.num, .string ⟨x.str.toArray⟩, .slice A x.parts.length c, .slice B x.keys.length d, .bool f, .slice (some ⟨g, off, none⟩) l.length e, .int .i64 a] 28)).heap.size (W.alloc (.cells #[.int .i64 8, .string ⟨t.toArray⟩, .int .i64 x.kind, .int .i64 x.num, .string ⟨x.str.toArray⟩, .slice A x.parts.length c, .slice B x.keys.length d, .bool f, .slice (some ⟨g, off, none⟩) l.length e, .int .i64 a] 28)))
  have y0 := cell_regrown b0
  have y1 := cell_regrown b1
  have y2 := cell_regrown b2
  have y3 := cell_regrown b3
  have y4 := cell_regrown b4
  have y5 := cell_regrown b5
  have y6 := cell_regrown b6
  have y7 := cell_regrown b7
  have y8 := cell_regrown b8
  have y9 := cell_regrown b9
  clear b0 b1 b2 b3 b4 b5 b6 b7 b8 b9
  have cE := fun (d1 : Nat) (os : Array Obj) => Calls.regrown_of (HC.out _ (grow (redrawn (W.alloc (.cells #[.int .i64 8, .string ⟨t.toArray⟩, .int .i64 x.kind, .int .i64 x.num, .string ⟨x.str.toArray⟩, .slice A x.parts.length c, .slice B x.keys.length d, .bool f, .slice (some ⟨g, off, none⟩) l.length e, .int .i64 a] 28)) d1) os) (HY.out.below (below_regrown _ d1 os)))
  have cD := fun (d1 : Nat) (os : Array Obj) => Calls.regrown_of (HD.out _ (grow (redrawn (W.alloc (.cells #[.int .i64 8, .string ⟨t.toArray⟩, .int .i64 x.kind, .int .i64 x.num, .string ⟨x.str.toArray⟩, .slice A x.parts.length c, .slice B x.keys.length d, .bool f, .slice (some ⟨g, off, none⟩) l.length e, .int .i64 a] 28)) d1) os) (HZ.out.below (below_regrown _ d1 os)))
  clear z0 z1 z2 z3 z4 z5 z6 z7 z8 z9 u0 u1 u2 u3 u4 u5 u6 u7 u8 u9
  clear hv hr hx hroom hkids hsd hsh hkr hsz H hk01 h2
  go_enter Tryz.func48, Tryz.ntmps48
  go_upto_region 15 with fail
  refine wp_region_quiet_below (by kernel_rfl) (by kernel_rfl) ?_
  repeat (quiet_step (first | with_reducible exact cE _ _ | with_reducible exact cD _ _))
  refine wpQuiet_nil ?_
  intro _ hw'
  obtain ⟨⟨dq, osq⟩, hw''⟩ := hw'
  subst hw''
  go_wp2_with fail
  go_ret
  exact ⟨ret_str (by rw [HTx.out, Hq0.out, Hq1.out]; simp [ByteArray.data_append]), bthen (one_al _ _) (below_regrown _ dq osq)⟩
set_option maxRecDepth 20000 in
set_option maxHeartbeats 1000000 in
theorem rf_stmt_9 (t : List UInt8) (x : V) (f : Bool) (l : List N) (a : Int) (H : RStmtOk (SizeOf.sizeOf (N.mk 9 t x f l a))) (A B K : Option Addr) (c d e : Nat) (ok : Nat → Prop) (W : World) (i : Nat) (hv : RdN ok W (.agg #[.int .i64 9, .string ⟨t.toArray⟩, .int .i64 x.kind, .int .i64 x.num, .string ⟨x.str.toArray⟩, .slice A x.parts.length c, .slice B x.keys.length d, .bool f, .slice K l.length e, .int .i64 a]) (N.mk 9 t x f l a)) (hr : ∃ o, rightN o (N.mk 9 t x f l a) = true) (hroom : (stmtT i (N.mk 9 t x f l a)).length ≤ 70368744177664) (hi : i ≤ 70368744177664) :
    Calls Tryz.prog 48 #[.agg #[.int .i64 9, .string ⟨t.toArray⟩, .int .i64 x.kind, .int .i64 x.num, .string ⟨x.str.toArray⟩, .slice A x.parts.length c, .slice B x.keys.length d, .bool f, .slice K l.length e, .int .i64 a], .int .i64 (i : Int)] W fun e W' => e = .returned (.string ⟨(stmtT i (N.mk 9 t x f l a)).toArray⟩) ∧ Below W.heap.size W W' := by
  have hx : stmtT i (N.mk 9 t x f l a) = [114, 101, 116, 117, 114, 110] ++ behT [32] l ++ [59] := by rw [stmtT]; rfl
  obtain ⟨o, hr⟩ := hr
  obtain ⟨hsd, hsh⟩ := right_said hr
  have hkr := right_kids hr
  obtain ⟨A', c', B', d', K', e', hve, hn⟩ := hv.form
  have htl : t.length ≤ 16777216 := hn.text
  have hlen : l.length ≤ 16777216 := hn.len
  have hsz := fun (y : N) (hy : y ∈ l) => sz_mem (n := (N.mk 9 t x f l a)) hy
  clear hve hn
  simp only [N.kind, N.kids, N.text] at hsh hkr
  rw [hx] at hroom
  have HTx := Lib.hid hx
  have HV := Lib.hid hv
  have hkids : RdNs ok W (.slice K l.length e) 0 l := kids_of hv
  have hrb : (behT [32] l).length ≤ 70368744177664 := by simp only [List.length_append, List.length_cons, List.length_nil] at hroom; omega
  have HBh := Lib.hid (fun (W1 : World) (hb : Below W.heap.size W W1) => rf_behind (N.mk 9 t x f l a) (.agg #[.int .i64 9, .string ⟨t.toArray⟩, .int .i64 x.kind, .int .i64 x.num, .string ⟨x.str.toArray⟩, .slice A x.parts.length c, .slice B x.keys.length d, .bool f, .slice K l.length e, .int .i64 a]) ok W1 [32] (hv.below hb) hkr (all_kinds (l := l) (by simp only [shapeK] at hsh; simp at hsh; simpa using hsh.2)) (by decide) (by show (behT [32] l).length ≤ _; omega))
  simp only [N.kids] at HBh
  have hcat : ¬ 9223372036854775807 < 6 + (behT [32] l).length := by omega
  have hcat2 : ¬ 9223372036854775807 < 6 + (behT [32] l).length + 1 := by omega
  clear hrb
  clear hv hr hx hroom hkids hsd hsh hkr hsz H
  go_enter Tryz.func48, Tryz.ntmps48
  go_wp2_with fail
  refine (HBh.out _ (one_al _ _)).mono ?_
  rintro e1 w1 ⟨rfl, hb⟩
  have HB1 := Lib.hid (bthen (one_al _ _) hb)
  clear hb
  go_wp2_with fail
  go_ret
  exact ⟨ret_str (by rw [HTx.out]; simp [ByteArray.data_append]), HB1.out⟩
set_option maxRecDepth 20000 in
set_option maxHeartbeats 1000000 in
theorem rf_stmt_10 (t : List UInt8) (x : V) (f : Bool) (l : List N) (a : Int) (H : RStmtOk (SizeOf.sizeOf (N.mk 10 t x f l a))) (A B K : Option Addr) (c d e : Nat) (ok : Nat → Prop) (W : World) (i : Nat) (hv : RdN ok W (.agg #[.int .i64 10, .string ⟨t.toArray⟩, .int .i64 x.kind, .int .i64 x.num, .string ⟨x.str.toArray⟩, .slice A x.parts.length c, .slice B x.keys.length d, .bool f, .slice K l.length e, .int .i64 a]) (N.mk 10 t x f l a)) (hr : ∃ o, rightN o (N.mk 10 t x f l a) = true) (hroom : (stmtT i (N.mk 10 t x f l a)).length ≤ 70368744177664) (hi : i ≤ 70368744177664) :
    Calls Tryz.prog 48 #[.agg #[.int .i64 10, .string ⟨t.toArray⟩, .int .i64 x.kind, .int .i64 x.num, .string ⟨x.str.toArray⟩, .slice A x.parts.length c, .slice B x.keys.length d, .bool f, .slice K l.length e, .int .i64 a], .int .i64 (i : Int)] W fun e W' => e = .returned (.string ⟨(stmtT i (N.mk 10 t x f l a)).toArray⟩) ∧ Below W.heap.size W W' := by
  have hx : stmtT i (N.mk 10 t x f l a) = [98, 114, 101, 97, 107] ++ behT [] l ++ [59] := by rw [stmtT]; rfl
  obtain ⟨o, hr⟩ := hr
  obtain ⟨hsd, hsh⟩ := right_said hr
  have hkr := right_kids hr
  obtain ⟨A', c', B', d', K', e', hve, hn⟩ := hv.form
  have htl : t.length ≤ 16777216 := hn.text
  have hlen : l.length ≤ 16777216 := hn.len
  have hsz := fun (y : N) (hy : y ∈ l) => sz_mem (n := (N.mk 10 t x f l a)) hy
  clear hve hn
  simp only [N.kind, N.kids, N.text] at hsh hkr
  rw [hx] at hroom
  have HTx := Lib.hid hx
  have HV := Lib.hid hv
  have hkids : RdNs ok W (.slice K l.length e) 0 l := kids_of hv
  have hl0 : l = [] := by simp only [shapeK] at hsh; simpa using hsh
  have hbe : behT [] l = [] := by rw [hl0]; rfl
  have Hbe := Lib.hid hbe
  clear hv hr hx hroom hkids hsd hsh hkr hsz H hl0 hbe
  go_enter Tryz.func48, Tryz.ntmps48
  go_wp2_with fail
  go_ret
  exact ⟨by rw [HTx.out, Hbe.out]; rfl, one_al _ _⟩
set_option maxRecDepth 20000 in
set_option maxHeartbeats 1000000 in
theorem rf_stmt_11 (t : List UInt8) (x : V) (f : Bool) (l : List N) (a : Int) (H : RStmtOk (SizeOf.sizeOf (N.mk 11 t x f l a))) (A B K : Option Addr) (c d e : Nat) (ok : Nat → Prop) (W : World) (i : Nat) (hv : RdN ok W (.agg #[.int .i64 11, .string ⟨t.toArray⟩, .int .i64 x.kind, .int .i64 x.num, .string ⟨x.str.toArray⟩, .slice A x.parts.length c, .slice B x.keys.length d, .bool f, .slice K l.length e, .int .i64 a]) (N.mk 11 t x f l a)) (hr : ∃ o, rightN o (N.mk 11 t x f l a) = true) (hroom : (stmtT i (N.mk 11 t x f l a)).length ≤ 70368744177664) (hi : i ≤ 70368744177664) :
    Calls Tryz.prog 48 #[.agg #[.int .i64 11, .string ⟨t.toArray⟩, .int .i64 x.kind, .int .i64 x.num, .string ⟨x.str.toArray⟩, .slice A x.parts.length c, .slice B x.keys.length d, .bool f, .slice K l.length e, .int .i64 a], .int .i64 (i : Int)] W fun e W' => e = .returned (.string ⟨(stmtT i (N.mk 11 t x f l a)).toArray⟩) ∧ Below W.heap.size W W' := by
  have hx : stmtT i (N.mk 11 t x f l a) = [99, 111, 110, 116, 105, 110, 117, 101] ++ behT [] l ++ [59] := by rw [stmtT]; rfl
  obtain ⟨o, hr⟩ := hr
  obtain ⟨hsd, hsh⟩ := right_said hr
  have hkr := right_kids hr
  obtain ⟨A', c', B', d', K', e', hve, hn⟩ := hv.form
  have htl : t.length ≤ 16777216 := hn.text
  have hlen : l.length ≤ 16777216 := hn.len
  have hsz := fun (y : N) (hy : y ∈ l) => sz_mem (n := (N.mk 11 t x f l a)) hy
  clear hve hn
  simp only [N.kind, N.kids, N.text] at hsh hkr
  rw [hx] at hroom
  have HTx := Lib.hid hx
  have HV := Lib.hid hv
  have hkids : RdNs ok W (.slice K l.length e) 0 l := kids_of hv
  have hl0 : l = [] := by simp only [shapeK] at hsh; simpa using hsh
  have hbe : behT [] l = [] := by rw [hl0]; rfl
  have Hbe := Lib.hid hbe
  clear hv hr hx hroom hkids hsd hsh hkr hsz H hl0 hbe
  go_enter Tryz.func48, Tryz.ntmps48
  go_wp2_with fail
  go_ret
  exact ⟨by rw [HTx.out, Hbe.out]; rfl, one_al _ _⟩
set_option maxRecDepth 20000 in
set_option maxHeartbeats 1000000 in
theorem rf_stmt_12 (t : List UInt8) (x : V) (f : Bool) (l : List N) (a : Int) (H : RStmtOk (SizeOf.sizeOf (N.mk 12 t x f l a))) (A B K : Option Addr) (c d e : Nat) (ok : Nat → Prop) (W : World) (i : Nat) (hv : RdN ok W (.agg #[.int .i64 12, .string ⟨t.toArray⟩, .int .i64 x.kind, .int .i64 x.num, .string ⟨x.str.toArray⟩, .slice A x.parts.length c, .slice B x.keys.length d, .bool f, .slice K l.length e, .int .i64 a]) (N.mk 12 t x f l a)) (hr : ∃ o, rightN o (N.mk 12 t x f l a) = true) (hroom : (stmtT i (N.mk 12 t x f l a)).length ≤ 70368744177664) (hi : i ≤ 70368744177664) :
    Calls Tryz.prog 48 #[.agg #[.int .i64 12, .string ⟨t.toArray⟩, .int .i64 x.kind, .int .i64 x.num, .string ⟨x.str.toArray⟩, .slice A x.parts.length c, .slice B x.keys.length d, .bool f, .slice K l.length e, .int .i64 a], .int .i64 (i : Int)] W fun e W' => e = .returned (.string ⟨(stmtT i (N.mk 12 t x f l a)).toArray⟩) ∧ Below W.heap.size W W' := by
  have hx : stmtT i (N.mk 12 t x f l a) = behT [] l ++ [59] := by rw [stmtT]; rfl
  obtain ⟨o, hr⟩ := hr
  obtain ⟨hsd, hsh⟩ := right_said hr
  have hkr := right_kids hr
  obtain ⟨A', c', B', d', K', e', hve, hn⟩ := hv.form
  have htl : t.length ≤ 16777216 := hn.text
  have hlen : l.length ≤ 16777216 := hn.len
  have hsz := fun (y : N) (hy : y ∈ l) => sz_mem (n := (N.mk 12 t x f l a)) hy
  clear hve hn
  simp only [N.kind, N.kids, N.text] at hsh hkr
  rw [hx] at hroom
  have HTx := Lib.hid hx
  have HV := Lib.hid hv
  have hkids : RdNs ok W (.slice K l.length e) 0 l := kids_of hv
  have hrb : (behT [] l).length ≤ 70368744177664 := by simp only [List.length_append, List.length_cons, List.length_nil] at hroom; omega
  have HBh := Lib.hid (fun (W1 : World) (hb : Below W.heap.size W W1) => rf_behind (N.mk 12 t x f l a) (.agg #[.int .i64 12, .string ⟨t.toArray⟩, .int .i64 x.kind, .int .i64 x.num, .string ⟨x.str.toArray⟩, .slice A x.parts.length c, .slice B x.keys.length d, .bool f, .slice K l.length e, .int .i64 a]) ok W1 [] (hv.below hb) hkr (all_kinds (l := l) (by simp only [shapeK] at hsh; simp at hsh; simpa using hsh.2)) (by decide) (by show (behT [] l).length ≤ _; omega))
  simp only [N.kids] at HBh
  have hcat : ¬ 9223372036854775807 < (behT [] l).length + 1 := by omega
  clear hrb
  clear hv hr hx hroom hkids hsd hsh hkr hsz H
  go_enter Tryz.func48, Tryz.ntmps48
  go_wp2_with fail
  refine (HBh.out _ (one_al _ _)).mono ?_
  rintro e1 w1 ⟨rfl, hb⟩
  have HB1 := Lib.hid (bthen (one_al _ _) hb)
  clear hb
  go_wp2_with fail
  go_ret
  exact ⟨ret_str (by rw [HTx.out]; simp [ByteArray.data_append]), HB1.out⟩
theorem rf_statement : ∀ m, RStmtOk m := by
  intro m
  induction m with
  | zero => exact fun n hn => absurd hn (Nat.not_lt_zero _)
  | succ m ih =>
    intro n hn v ok W d hv hr hk hroom hd
    have H : RStmtOk (SizeOf.sizeOf n) := fun y hy => ih y (by omega)
    obtain ⟨A, c, B, d', K, e, rfl, _⟩ := hv.form
    cases n with
    | mk k t x f l a =>
    have hk' := stmt_kinds (k := k) hk
    rcases hk' with rfl | rfl | rfl | rfl | rfl | rfl | rfl | rfl
    · exact rf_stmt_5 t x f l a H A B K c d' e ok W d hv hr hroom hd
    · exact rf_stmt_6 t x f l a H A B K c d' e ok W d hv hr hroom hd
    · have h23 : l.length = 2 ∨ l.length = 3 := by
        obtain ⟨o, hr⟩ := hr
        have h := (right_said hr).2
        simp only [N.kind, N.kids, shapeK] at h
        simp at h
        exact h.1
      rcases h23 with h | h
      · exact rf_stmt_7_2 t x f l a h H A B K c d' e ok W d hv hr hroom hd
      · exact rf_stmt_7_3 t x f l a h H A B K c d' e ok W d hv hr hroom hd
    · exact rf_stmt_8 t x f l a H A B K c d' e ok W d hv hr hroom hd
    · exact rf_stmt_9 t x f l a H A B K c d' e ok W d hv hr hroom hd
    · exact rf_stmt_10 t x f l a H A B K c d' e ok W d hv hr hroom hd
    · exact rf_stmt_11 t x f l a H A B K c d' e ok W d hv hr hroom hd
    · exact rf_stmt_12 t x f l a H A B K c d' e ok W d hv hr hroom hd
end Go.Proofs.YthlfeiiolafonaaGreatDoor
