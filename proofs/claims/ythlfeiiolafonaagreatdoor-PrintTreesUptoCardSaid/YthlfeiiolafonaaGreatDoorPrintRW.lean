/- Contracts of the reference's join, part, expr. Printed by gen_rw.py. -/
import Derived.Test.YthlfeiiolafonaaGreatDoorPrintWE
import Derived.Test.YthlfeiiolafonaaGreatDoorRefLitB
import Derived.Test.YthlfeiiolafonaaGreatDoorPrintBracket
import Derived.Test.YthlfeiiolafonaaGreatDoorLexQuote
import Derived.Lib.QuietBelow
import Derived.BigQuiet
set_option linter.unusedVariables false
set_option linter.unusedSimpArgs false
namespace Go.Proofs.YthlfeiiolafonaaGreatDoor
open Go.RowKit Go.IntWalk Go.Sort

theorem ret_str {a : ByteArray} {l : List UInt8} (h : a.data.toList = l) : Ending.returned (.string a) = .returned (.string ⟨l.toArray⟩) := by
  subst h
  rfl
/-- the reference's expr, at all nodes smaller than so -/
def RExprOk (m : Nat) : Prop := ∀ (n : N), SizeOf.sizeOf n < m → ∀ (v : Value) (ok : Nat → Prop) (W : World), RdN ok W v n → (∃ o, rightN o n = true) → (exprK n.kind = true ∨ n.kind = 20) → (exprT n).length ≤ 70368744177664 →
  Calls Tryz.prog 30 #[v] W fun e W' => e = .returned (.string ⟨(exprT n).toArray⟩) ∧ Below W.heap.size W W'
set_option maxRecDepth 20000 in
set_option maxHeartbeats 2000000 in
theorem rf_join (m : Nat) (H : RExprOk m) (n : N) (hm : ∀ y ∈ n.kids, SizeOf.sizeOf y < m) (hR : ∀ y ∈ n.kids, ∃ o, rightN o y = true) (hK : ∀ y ∈ n.kids, exprK y.kind = true ∨ y.kind = 20) (v : Value) (ok : Nat → Prop) (W : World) (hv : RdN ok W v n) (hroom : (rowT 0 n.kids).length ≤ 70368744177664) :
    Calls Tryz.prog 54 #[v] W fun e W' => e = .returned (.string ⟨(rowT 0 n.kids).toArray⟩) ∧ Below W.heap.size W W' := by
  obtain ⟨A, c, B, d, K, e, rfl, hn⟩ := hv.form
  have hlen := hn.len
  have HL := Lib.hid hn.kids
  have HH := Lib.hid H
  have Hm := Lib.hid hm
  have HR := Lib.hid hR
  have HK := Lib.hid hK
  have Hroom := Lib.hid hroom
  clear hv hn hm hR hK hroom H
  go_enter Tryz.func54, Tryz.ntmps54
  go_wp2_with fail
  go_loopw [3, 4] (fun u j wr => ∃ k : Nat, k ≤ n.kids.length ∧ j = .int .i64 (k : Int) ∧ RowB (W.alloc (boxN n A c B d K e)).heap.size wr u (rowT 0 (n.kids.take k)) ∧ Below (W.alloc (boxN n A c B d K e)).heap.size (W.alloc (boxN n A c B d K e)) wr) (fun _ j _ => n.kids.length - (intOf j).toNat)
  case atStart => exact ⟨0, Nat.zero_le _, rfl, RowB.nil _ _, Below.refl _ _⟩
  case round =>
    obtain ⟨k, hk, rfl, hO, hB⟩ := hrel
    have HO := Lib.hid hO
    have HB := Lib.hid hB
    clear hO hB
    obtain ⟨b0, b1, b2, b3, b4, b5, b6, b7, b8, b9⟩ := box10 HB.out
    by_cases hlt : k < n.kids.length
    · have hlA : (k : Int) < (n.kids.length : Int) := by omega
      have h00 : (0 : Int) ≤ (k : Int) := by omega
      have hst := rowT_take n.kids 0 k hlt
      have hln := rowT_len_take n.kids 0 (k + 1)
      rw [Nat.zero_add] at hst
      have hmem := List.getElem_mem hlt
      have HC := Lib.hid (HH.out n.kids[k] (Hm.out _ hmem))
      have HRk := Lib.hid (HR.out _ hmem)
      have HKk := Lib.hid (HK.out _ hmem)
      have HEl := Lib.hid (fun (W1 : World) (hb : Below (W.alloc (boxN n A c B d K e)).heap.size (W.alloc (boxN n A c B d K e)) W1) => (HL.out.below (bthen (one_al _ _) hb)).elem k hlt)
      generalize n.kids[k] = Y at *
      generalize rowT 0 (n.kids.take k) = r at *
      rw [hst] at hln
      have HS := Lib.hid hst
      have Hln := Lib.hid hln
      clear hst hln hmem
      by_cases hk0 : k = 0
      · have hpos : ¬ (0 : Int) < (k : Int) := by omega
        have HS' := Lib.hid (show rowT 0 (n.kids.take (k + 1)) = r ++ exprT Y by rw [HS.out, if_pos hk0]; rfl)
        have Hrm := Lib.hid (show r.length + (exprT Y).length ≤ 70368744177664 by have h1 := Hroom.out; have h2 := Hln.out; simp only [List.length_append] at h2; omega)
        clear hk0
        obtain ⟨g, off, A', c', B', d', K', e', rfl, _, hk', k0, k1, k2, k3, k4, k5, k6, k7, k8, k9⟩ := HEl.out _ HB.out
        have HY := Lib.hid hk'.rd
        clear hk'
        go_wp2_with fail
        refine (HC.out _ ok _ HY.out HRk.out HKk.out (by have := Hrm.out; omega)).mono ?_
        rintro e1 w1 ⟨rfl, hb⟩
        have HO1 := Lib.hid (HO.out.below hb)
        have HB1 := Lib.hid (bthen HB.out hb)
        clear hb k0 k1 k2 k3 k4 k5 k6 k7 k8 k9 b0 b1 b2 b3 b4 b5 b6 b7 b8 b9
        go_wp2_with (at_builtin; refine wpRow_str _ (exprT Y) (.tmp 16) (.tmp 22) rfl rfl rfl rfl HO1.out HB1.out (Nat.le_refl _) (by have := Hrm.out; omega) ?_; intro v2 w2 hO2 hB2; clear HO1 HB1)
        exact ⟨⟨k + 1, by omega, by go_num, by rw [HS'.out]; exact hO2, hB2⟩, by simp [intOf]; omega⟩
      · have hpos : (0 : Int) < (k : Int) := by omega
        have HS' := Lib.hid (show rowT 0 (n.kids.take (k + 1)) = r ++ ([44, 32] ++ exprT Y) by rw [HS.out, if_neg hk0])
        have Hrm := Lib.hid (show r.length + (2 + (exprT Y).length) ≤ 70368744177664 by have h1 := Hroom.out; have h2 := Hln.out; rw [if_neg hk0] at h2; simp only [List.length_append, List.length_cons, List.length_nil] at h2; omega)
        clear hk0
        go_wp2_with (at_builtin; refine wpRow_str _ [44, 32] (.tmp 14) (.const (.string ⟨#[44, 32]⟩)) rfl rfl rfl rfl HO.out HB.out (Nat.le_refl _) (by have := Hrm.out; simp; omega) ?_; intro v2 w2 hO2 hB2; clear b0 b1 b2 b3 b4 b5 b6 b7 b8 b9; obtain ⟨g, off, A', c', B', d', K', e', rfl, _, hk', k0, k1, k2, k3, k4, k5, k6, k7, k8, k9⟩ := HEl.out _ hB2; have HY := Lib.hid hk'.rd; clear hk'; obtain ⟨b0, b1, b2, b3, b4, b5, b6, b7, b8, b9⟩ := box10 hB2; have HO2 := Lib.hid hO2; have HB2 := Lib.hid hB2; clear hO2 hB2)
        refine (HC.out _ ok _ HY.out HRk.out HKk.out (by have := Hrm.out; omega)).mono ?_
        rintro e1 w3 ⟨rfl, hb⟩
        have HO3 := Lib.hid (HO2.out.below hb)
        have HB3 := Lib.hid (bthen HB2.out hb)
        clear hb k0 k1 k2 k3 k4 k5 k6 k7 k8 k9 b0 b1 b2 b3 b4 b5 b6 b7 b8 b9
        go_wp2_with (at_builtin; refine wpRow_str _ (exprT Y) (.tmp 16) (.tmp 22) rfl rfl rfl rfl HO3.out HB3.out (Nat.le_refl _) (by have := Hrm.out; simp; omega) ?_; intro v4 w4 hO4 hB4; clear HO3 HB3)
        exact ⟨⟨k + 1, by omega, by go_num, by rw [HS'.out, ← List.append_assoc]; exact hO4, hB4⟩, by simp [intOf]; omega⟩
    · have hlA : ¬ (k : Int) < (n.kids.length : Int) := by omega
      have hkk : n.kids.take k = n.kids := List.take_of_length_le (by omega)
      rw [hkk] at HO
      clear hkk
      have ht := HO.out.toStr
      go_wp2_with fail
      go_ret
      exact ⟨rfl, bthen (one_al _ _) HB.out⟩

set_option maxRecDepth 20000 in
set_option maxHeartbeats 2000000 in
theorem rf_part (m : Nat) (H : RExprOk m) (n : N) (j : Nat) (hj : j < n.kids.length) (hm : SizeOf.sizeOf n.kids[j] < m) (hR : ∃ o, rightN o n.kids[j] = true) (hK : exprK n.kids[j].kind = true ∨ n.kids[j].kind = 20) (v : Value) (ok : Nat → Prop) (W : World) (hv : RdN ok W v n) (hroom : (partT n.kind n.text j j n.kids).length ≤ 70368744177664) :
    Calls Tryz.prog 57 #[v, .int .i64 (j : Int)] W fun e W' => e = .returned (.string ⟨(partT n.kind n.text j j n.kids).toArray⟩) ∧ Below W.heap.size W W' := by
  have h := partT_at (k := n.kind) (t := n.text) (i := j) hj
  rw [h] at hroom ⊢
  obtain ⟨A, c, B, d, K, e, rfl, hn⟩ := hv.form
  have hlen := hn.len
  have hlA : (j : Int) < (n.kids.length : Int) := by omega
  have h00 : (0 : Int) ≤ (j : Int) := by omega
  have HBr := Lib.hid (fun W hv => rf_bracket n j hj (valN n A c B d K e) ok W hv)
  unfold wrapS at HBr
  have HC := Lib.hid (H n.kids[j] hm)
  have HRk := Lib.hid hR
  have HKk := Lib.hid hK
  have HEl := Lib.hid (fun (W1 : World) (hb : Below W.heap.size W W1) => (hn.kids.below hb).elem j hj)
  have HV := Lib.hid hn.rd
  have Hrm := Lib.hid hroom
  clear hv hn hR hK H hm hroom h
  generalize wrapK n.kind n.text (bindingS n.kids[j]) j = wb at *
  generalize n.kids[j] = Y at *
  clear hj
  have hle : (exprT Y).length ≤ 70368744177664 := by
    have := Hrm.out
    unfold inBr at this
    split at this
    · simp at this; omega
    · exact this
  have hcat : ¬ 9223372036854775807 < 1 + (exprT Y).length := by omega
  have hcat2 : ¬ 9223372036854775807 < 1 + (exprT Y).length + 1 := by omega
  have Hle := Lib.hid hle
  clear hle
  go_enter Tryz.func57, Tryz.ntmps57
  obtain ⟨g, off, A', c', B', d', K', e', rfl, _, hk', k0, k1, k2, k3, k4, k5, k6, k7, k8, k9⟩ := HEl.out _ (one_al W (boxN n A c B d K e))
  have HY := Lib.hid hk'.rd
  clear hk'
  go_wp2_with fail
  refine (HC.out _ ok _ HY.out HRk.out HKk.out Hle.out).mono ?_
  rintro e1 w1 ⟨rfl, hb⟩
  have HB1 := Lib.hid (bthen (one_al _ _) hb)
  obtain ⟨b0, b1, b2, b3, b4, b5, b6, b7, b8, b9⟩ := box10 hb
  clear hb k0 k1 k2 k3 k4 k5 k6 k7 k8 k9
  go_wp2_with fail
  refine (HBr.out _ (HV.out.below HB1.out)).mono ?_
  rintro e1 w2 ⟨rfl, hb⟩
  have HB2 := Lib.hid (bthen HB1.out hb)
  clear hb b0 b1 b2 b3 b4 b5 b6 b7 b8 b9
  cases wb with
  | false =>
    go_wp2_with fail
    go_ret
    exact ⟨rfl, HB2.out⟩
  | true =>
    go_wp2_with fail
    go_ret
    exact ⟨ret_str (by simp [inBr, ByteArray.data_append]), HB2.out⟩

set_option maxRecDepth 20000 in
set_option maxHeartbeats 1000000 in
theorem rf_expr_13 (t : List UInt8) (x : V) (f : Bool) (l : List N) (a : Int) (H : RExprOk (SizeOf.sizeOf (N.mk 13 t x f l a))) (A B K : Option Addr) (c d e : Nat) (ok : Nat → Prop) (W : World) (hv : RdN ok W (.agg #[.int .i64 13, .string ⟨t.toArray⟩, .int .i64 x.kind, .int .i64 x.num, .string ⟨x.str.toArray⟩, .slice A x.parts.length c, .slice B x.keys.length d, .bool f, .slice K l.length e, .int .i64 a]) (N.mk 13 t x f l a)) (hr : ∃ o, rightN o (N.mk 13 t x f l a) = true) (hroom : (exprT (N.mk 13 t x f l a)).length ≤ 70368744177664) :
    Calls Tryz.prog 30 #[.agg #[.int .i64 13, .string ⟨t.toArray⟩, .int .i64 x.kind, .int .i64 x.num, .string ⟨x.str.toArray⟩, .slice A x.parts.length c, .slice B x.keys.length d, .bool f, .slice K l.length e, .int .i64 a]] W fun e W' => e = .returned (.string ⟨(exprT (N.mk 13 t x f l a)).toArray⟩) ∧ Below W.heap.size W W' := by
  have hx : exprT (N.mk 13 t x f l a) = litS x := by rw [exprT]; rfl
  obtain ⟨o, hr⟩ := hr
  obtain ⟨hsd, hsh⟩ := right_said hr
  have hkr := right_kids hr
  obtain ⟨A', c', B', d', K', e', hve, hn⟩ := hv.form
  have htl : t.length ≤ 16777216 := hn.text
  have hlen : l.length ≤ 16777216 := hn.len
  have hsz := fun (y : N) (hy : y ∈ l) => sz_mem (n := (N.mk 13 t x f l a)) hy
  clear hve hn
  simp only [N.kind, N.kids, N.text] at hsh hkr
  rw [hx] at hroom
  have HTx := Lib.hid hx
  have HV := Lib.hid hv
  have hkids : RdNs ok W (.slice K l.length e) 0 l := kids_of hv
  have hsv : saidVal 13 x = true := by
    unfold saidS at hsd
    simp only [Bool.and_eq_true, N.kind, N.val] at hsd
    exact hsd.2.1
  have HPr := Lib.hid (fun (W1 : World) (hb : Below W.heap.size W W1) => rf_Print x hsv _ ok W1 ((val_of hv).below hb))
  clear hsv
  have Hrm := Lib.hid hroom
  clear hv hr hx hroom hkids hsd hsh hkr hsz H
  go_enter Tryz.func30, Tryz.ntmps30
  go_wp2_with fail
  refine (HPr.out _ (one_al _ _)).mono ?_
  rintro e1 w1 ⟨rfl, hb⟩
  have HB1 := Lib.hid (bthen (one_al _ _) hb)
  clear hb
  go_wp2_with fail
  go_ret
  exact ⟨by rw [HTx.out]; rfl, HB1.out⟩
set_option maxRecDepth 20000 in
set_option maxHeartbeats 1000000 in
theorem rf_expr_14 (t : List UInt8) (x : V) (f : Bool) (l : List N) (a : Int) (H : RExprOk (SizeOf.sizeOf (N.mk 14 t x f l a))) (A B K : Option Addr) (c d e : Nat) (ok : Nat → Prop) (W : World) (hv : RdN ok W (.agg #[.int .i64 14, .string ⟨t.toArray⟩, .int .i64 x.kind, .int .i64 x.num, .string ⟨x.str.toArray⟩, .slice A x.parts.length c, .slice B x.keys.length d, .bool f, .slice K l.length e, .int .i64 a]) (N.mk 14 t x f l a)) (hr : ∃ o, rightN o (N.mk 14 t x f l a) = true) (hroom : (exprT (N.mk 14 t x f l a)).length ≤ 70368744177664) :
    Calls Tryz.prog 30 #[.agg #[.int .i64 14, .string ⟨t.toArray⟩, .int .i64 x.kind, .int .i64 x.num, .string ⟨x.str.toArray⟩, .slice A x.parts.length c, .slice B x.keys.length d, .bool f, .slice K l.length e, .int .i64 a]] W fun e W' => e = .returned (.string ⟨(exprT (N.mk 14 t x f l a)).toArray⟩) ∧ Below W.heap.size W W' := by
  have hx : exprT (N.mk 14 t x f l a) = t := by rw [exprT]; rfl
  obtain ⟨o, hr⟩ := hr
  obtain ⟨hsd, hsh⟩ := right_said hr
  have hkr := right_kids hr
  obtain ⟨A', c', B', d', K', e', hve, hn⟩ := hv.form
  have htl : t.length ≤ 16777216 := hn.text
  have hlen : l.length ≤ 16777216 := hn.len
  have hsz := fun (y : N) (hy : y ∈ l) => sz_mem (n := (N.mk 14 t x f l a)) hy
  clear hve hn
  simp only [N.kind, N.kids, N.text] at hsh hkr
  rw [hx] at hroom
  have HTx := Lib.hid hx
  have HV := Lib.hid hv
  have hkids : RdNs ok W (.slice K l.length e) 0 l := kids_of hv
  have Hrm := Lib.hid hroom
  clear hv hr hx hroom hkids hsd hsh hkr hsz H
  go_enter Tryz.func30, Tryz.ntmps30
  go_wp2_with fail
  go_ret
  exact ⟨by rw [HTx.out]; rfl, one_al _ _⟩
set_option maxRecDepth 20000 in
set_option maxHeartbeats 1000000 in
theorem rf_expr_15 (t : List UInt8) (x : V) (f : Bool) (l : List N) (a : Int) (H : RExprOk (SizeOf.sizeOf (N.mk 15 t x f l a))) (A B K : Option Addr) (c d e : Nat) (ok : Nat → Prop) (W : World) (hv : RdN ok W (.agg #[.int .i64 15, .string ⟨t.toArray⟩, .int .i64 x.kind, .int .i64 x.num, .string ⟨x.str.toArray⟩, .slice A x.parts.length c, .slice B x.keys.length d, .bool f, .slice K l.length e, .int .i64 a]) (N.mk 15 t x f l a)) (hr : ∃ o, rightN o (N.mk 15 t x f l a) = true) (hroom : (exprT (N.mk 15 t x f l a)).length ≤ 70368744177664) :
    Calls Tryz.prog 30 #[.agg #[.int .i64 15, .string ⟨t.toArray⟩, .int .i64 x.kind, .int .i64 x.num, .string ⟨x.str.toArray⟩, .slice A x.parts.length c, .slice B x.keys.length d, .bool f, .slice K l.length e, .int .i64 a]] W fun e W' => e = .returned (.string ⟨(exprT (N.mk 15 t x f l a)).toArray⟩) ∧ Below W.heap.size W W' := by
  have hx : exprT (N.mk 15 t x f l a) = t ++ 40 :: (rowT 0 l ++ [41]) := by rw [exprT]; rfl
  obtain ⟨o, hr⟩ := hr
  obtain ⟨hsd, hsh⟩ := right_said hr
  have hkr := right_kids hr
  obtain ⟨A', c', B', d', K', e', hve, hn⟩ := hv.form
  have htl : t.length ≤ 16777216 := hn.text
  have hlen : l.length ≤ 16777216 := hn.len
  have hsz := fun (y : N) (hy : y ∈ l) => sz_mem (n := (N.mk 15 t x f l a)) hy
  clear hve hn
  simp only [N.kind, N.kids, N.text] at hsh hkr
  rw [hx] at hroom
  have HTx := Lib.hid hx
  have HV := Lib.hid hv
  have hkids : RdNs ok W (.slice K l.length e) 0 l := kids_of hv
  have hrl : (rowT 0 l).length ≤ 70368744177664 := by simp only [List.length_append, List.length_cons, List.length_nil] at hroom; omega
  have HJ := Lib.hid (fun (W1 : World) (hb : Below W.heap.size W W1) => rf_join _ H (N.mk 15 t x f l a) hsz hkr (all_kinds (l := l) (by simpa [shapeK] using hsh)) _ ok W1 (hv.below hb) hrl)
  simp only [N.kids] at HJ
  have hcat : ¬ 9223372036854775807 < t.length + 1 := by omega
  have hcat2 : ¬ 9223372036854775807 < t.length + 1 + (rowT 0 l).length := by omega
  have hcat3 : ¬ 9223372036854775807 < t.length + 1 + (rowT 0 l).length + 1 := by omega
  clear hrl
  obtain ⟨b0, b1, b2, b3, b4, b5, b6, b7, b8, b9⟩ := box10 (Below.refl (W.alloc (.cells #[.int .i64 15, .string ⟨t.toArray⟩, .int .i64 x.kind, .int .i64 x.num, .string ⟨x.str.toArray⟩, .slice A x.parts.length c, .slice B x.keys.length d, .bool f, .slice K l.length e, .int .i64 a] 28)).heap.size (W.alloc (.cells #[.int .i64 15, .string ⟨t.toArray⟩, .int .i64 x.kind, .int .i64 x.num, .string ⟨x.str.toArray⟩, .slice A x.parts.length c, .slice B x.keys.length d, .bool f, .slice K l.length e, .int .i64 a] 28)))
  have y0 := cell_regrown b0
  have y1 := cell_regrown b1
  have y2 := cell_regrown b2
  have y3 := cell_regrown b3
  have y4 := cell_regrown b4
  have y5 := cell_regrown b5
  have y6 := cell_regrown b6
  have y7 := cell_regrown b7
  have y8 := cell_regrown b8
  have y9 := cell_regrown b9
  clear b0 b1 b2 b3 b4 b5 b6 b7 b8 b9
  have cJ := fun (d1 : Nat) (os : Array Obj) => Calls.regrown_of (HJ.out (grow (redrawn (W.alloc (.cells #[.int .i64 15, .string ⟨t.toArray⟩, .int .i64 x.kind, .int .i64 x.num, .string ⟨x.str.toArray⟩, .slice A x.parts.length c, .slice B x.keys.length d, .bool f, .slice K l.length e, .int .i64 a] 28)) d1) os) (bthen (one_al _ _) (below_regrown _ d1 os)))
  have Hrm := Lib.hid hroom
  clear hv hr hx hroom hkids hsd hsh hkr hsz H
  go_enter Tryz.func30, Tryz.ntmps30
  go_upto_region 7 with fail
  refine wp_region_quiet_below (by kernel_rfl) (by kernel_rfl) ?_
  repeat (quiet_step (exact cJ _ _))
  refine wpQuiet_nil ?_
  intro _ hw'
  obtain ⟨⟨dq, osq⟩, hw''⟩ := hw'
  subst hw''
  go_wp2_with fail
  go_ret
  exact ⟨ret_str (by rw [HTx.out]; simp [ByteArray.data_append]), bthen (one_al _ _) (below_regrown _ dq osq)⟩
set_option maxRecDepth 20000 in
set_option maxHeartbeats 1000000 in
theorem rf_expr_16 (t : List UInt8) (x : V) (f : Bool) (l : List N) (a : Int) (H : RExprOk (SizeOf.sizeOf (N.mk 16 t x f l a))) (A B K : Option Addr) (c d e : Nat) (ok : Nat → Prop) (W : World) (hv : RdN ok W (.agg #[.int .i64 16, .string ⟨t.toArray⟩, .int .i64 x.kind, .int .i64 x.num, .string ⟨x.str.toArray⟩, .slice A x.parts.length c, .slice B x.keys.length d, .bool f, .slice K l.length e, .int .i64 a]) (N.mk 16 t x f l a)) (hr : ∃ o, rightN o (N.mk 16 t x f l a) = true) (hroom : (exprT (N.mk 16 t x f l a)).length ≤ 70368744177664) :
    Calls Tryz.prog 30 #[.agg #[.int .i64 16, .string ⟨t.toArray⟩, .int .i64 x.kind, .int .i64 x.num, .string ⟨x.str.toArray⟩, .slice A x.parts.length c, .slice B x.keys.length d, .bool f, .slice K l.length e, .int .i64 a]] W fun e W' => e = .returned (.string ⟨(exprT (N.mk 16 t x f l a)).toArray⟩) ∧ Below W.heap.size W W' := by
  have hx : exprT (N.mk 16 t x f l a) = t ++ partT 16 t 0 0 l := by rw [exprT]; rfl
  obtain ⟨o, hr⟩ := hr
  obtain ⟨hsd, hsh⟩ := right_said hr
  have hkr := right_kids hr
  obtain ⟨A', c', B', d', K', e', hve, hn⟩ := hv.form
  have htl : t.length ≤ 16777216 := hn.text
  have hlen : l.length ≤ 16777216 := hn.len
  have hsz := fun (y : N) (hy : y ∈ l) => sz_mem (n := (N.mk 16 t x f l a)) hy
  clear hve hn
  simp only [N.kind, N.kids, N.text] at hsh hkr
  rw [hx] at hroom
  have HTx := Lib.hid hx
  have HV := Lib.hid hv
  have hkids : RdNs ok W (.slice K l.length e) 0 l := kids_of hv
  have hll : l.length = 1 := by simp only [shapeK] at hsh; simp at hsh; exact hsh.1
  have hkk := all_kinds (l := l) (by simp only [shapeK] at hsh; simp at hsh; simpa using hsh.2)
  have hl0 : 0 < l.length := by omega
  have hp0 : (partT 16 t 0 0 l).length ≤ 70368744177664 := by simp only [List.length_append, List.length_cons, List.length_nil] at hroom; omega
  have HP0 := Lib.hid (fun (W1 : World) (hb : Below W.heap.size W W1) => (show Calls Tryz.prog 57 #[.agg #[.int .i64 16, .string ⟨t.toArray⟩, .int .i64 x.kind, .int .i64 x.num, .string ⟨x.str.toArray⟩, .slice A x.parts.length c, .slice B x.keys.length d, .bool f, .slice K l.length e, .int .i64 a], .int .i64 0] W1 fun e W' => e = .returned (.string ⟨(partT 16 t 0 0 l).toArray⟩) ∧ Below W1.heap.size W1 W' from rf_part _ H (N.mk 16 t x f l a) 0 (by show 0 < l.length; omega) (hsz _ (List.getElem_mem _)) (hkr _ (List.getElem_mem _)) (hkk _ (List.getElem_mem _)) _ ok W1 (hv.below hb) hp0))
  have hcat : ¬ 9223372036854775807 < t.length + (partT 16 t 0 0 l).length := by omega
  clear hp0
  obtain ⟨b0, b1, b2, b3, b4, b5, b6, b7, b8, b9⟩ := box10 (Below.refl (W.alloc (.cells #[.int .i64 16, .string ⟨t.toArray⟩, .int .i64 x.kind, .int .i64 x.num, .string ⟨x.str.toArray⟩, .slice A x.parts.length c, .slice B x.keys.length d, .bool f, .slice K l.length e, .int .i64 a] 28)).heap.size (W.alloc (.cells #[.int .i64 16, .string ⟨t.toArray⟩, .int .i64 x.kind, .int .i64 x.num, .string ⟨x.str.toArray⟩, .slice A x.parts.length c, .slice B x.keys.length d, .bool f, .slice K l.length e, .int .i64 a] 28)))
  have y0 := cell_regrown b0
  have y1 := cell_regrown b1
  have y2 := cell_regrown b2
  have y3 := cell_regrown b3
  have y4 := cell_regrown b4
  have y5 := cell_regrown b5
  have y6 := cell_regrown b6
  have y7 := cell_regrown b7
  have y8 := cell_regrown b8
  have y9 := cell_regrown b9
  clear b0 b1 b2 b3 b4 b5 b6 b7 b8 b9
  have cP0 := fun (d1 : Nat) (os : Array Obj) => Calls.regrown_of (HP0.out (grow (redrawn (W.alloc (.cells #[.int .i64 16, .string ⟨t.toArray⟩, .int .i64 x.kind, .int .i64 x.num, .string ⟨x.str.toArray⟩, .slice A x.parts.length c, .slice B x.keys.length d, .bool f, .slice K l.length e, .int .i64 a] 28)) d1) os) (bthen (one_al _ _) (below_regrown _ d1 os)))
  have Hrm := Lib.hid hroom
  clear hv hr hx hroom hkids hsd hsh hkr hsz H hkk hll hl0
  go_enter Tryz.func30, Tryz.ntmps30
  go_upto_region 18 with fail
  refine wp_region_quiet_below (by kernel_rfl) (by kernel_rfl) ?_
  repeat (quiet_step (exact cP0 _ _))
  refine wpQuiet_nil ?_
  intro _ hw'
  obtain ⟨⟨dq, osq⟩, hw''⟩ := hw'
  subst hw''
  go_wp2_with fail
  go_ret
  exact ⟨ret_str (by rw [HTx.out]; simp [ByteArray.data_append]), bthen (one_al _ _) (below_regrown _ dq osq)⟩
set_option maxRecDepth 20000 in
set_option maxHeartbeats 1000000 in
theorem rf_expr_17 (t : List UInt8) (x : V) (f : Bool) (l : List N) (a : Int) (H : RExprOk (SizeOf.sizeOf (N.mk 17 t x f l a))) (A B K : Option Addr) (c d e : Nat) (ok : Nat → Prop) (W : World) (hv : RdN ok W (.agg #[.int .i64 17, .string ⟨t.toArray⟩, .int .i64 x.kind, .int .i64 x.num, .string ⟨x.str.toArray⟩, .slice A x.parts.length c, .slice B x.keys.length d, .bool f, .slice K l.length e, .int .i64 a]) (N.mk 17 t x f l a)) (hr : ∃ o, rightN o (N.mk 17 t x f l a) = true) (hroom : (exprT (N.mk 17 t x f l a)).length ≤ 70368744177664) :
    Calls Tryz.prog 30 #[.agg #[.int .i64 17, .string ⟨t.toArray⟩, .int .i64 x.kind, .int .i64 x.num, .string ⟨x.str.toArray⟩, .slice A x.parts.length c, .slice B x.keys.length d, .bool f, .slice K l.length e, .int .i64 a]] W fun e W' => e = .returned (.string ⟨(exprT (N.mk 17 t x f l a)).toArray⟩) ∧ Below W.heap.size W W' := by
  have hx : exprT (N.mk 17 t x f l a) = partT 17 t 0 0 l ++ 32 :: (t ++ 32 :: partT 17 t 1 1 l) := by rw [exprT]; rfl
  obtain ⟨o, hr⟩ := hr
  obtain ⟨hsd, hsh⟩ := right_said hr
  have hkr := right_kids hr
  obtain ⟨A', c', B', d', K', e', hve, hn⟩ := hv.form
  have htl : t.length ≤ 16777216 := hn.text
  have hlen : l.length ≤ 16777216 := hn.len
  have hsz := fun (y : N) (hy : y ∈ l) => sz_mem (n := (N.mk 17 t x f l a)) hy
  clear hve hn
  simp only [N.kind, N.kids, N.text] at hsh hkr
  rw [hx] at hroom
  have HTx := Lib.hid hx
  have HV := Lib.hid hv
  have hkids : RdNs ok W (.slice K l.length e) 0 l := kids_of hv
  have hll : l.length = 2 := by simp only [shapeK] at hsh; simp at hsh; exact hsh.1
  have hkk := all_kinds (l := l) (by simp only [shapeK] at hsh; simp at hsh; simpa using hsh.2)
  have hl0 : 0 < l.length := by omega
  have hp0 : (partT 17 t 0 0 l).length ≤ 70368744177664 := by simp only [List.length_append, List.length_cons, List.length_nil] at hroom; omega
  have HP0 := Lib.hid (fun (W1 : World) (hb : Below W.heap.size W W1) => (show Calls Tryz.prog 57 #[.agg #[.int .i64 17, .string ⟨t.toArray⟩, .int .i64 x.kind, .int .i64 x.num, .string ⟨x.str.toArray⟩, .slice A x.parts.length c, .slice B x.keys.length d, .bool f, .slice K l.length e, .int .i64 a], .int .i64 0] W1 fun e W' => e = .returned (.string ⟨(partT 17 t 0 0 l).toArray⟩) ∧ Below W1.heap.size W1 W' from rf_part _ H (N.mk 17 t x f l a) 0 (by show 0 < l.length; omega) (hsz _ (List.getElem_mem _)) (hkr _ (List.getElem_mem _)) (hkk _ (List.getElem_mem _)) _ ok W1 (hv.below hb) hp0))
  have hp1 : (partT 17 t 1 1 l).length ≤ 70368744177664 := by simp only [List.length_append, List.length_cons, List.length_nil] at hroom; omega
  have HP1 := Lib.hid (fun (W1 : World) (hb : Below W.heap.size W W1) => (show Calls Tryz.prog 57 #[.agg #[.int .i64 17, .string ⟨t.toArray⟩, .int .i64 x.kind, .int .i64 x.num, .string ⟨x.str.toArray⟩, .slice A x.parts.length c, .slice B x.keys.length d, .bool f, .slice K l.length e, .int .i64 a], .int .i64 1] W1 fun e W' => e = .returned (.string ⟨(partT 17 t 1 1 l).toArray⟩) ∧ Below W1.heap.size W1 W' from rf_part _ H (N.mk 17 t x f l a) 1 (by show 1 < l.length; omega) (hsz _ (List.getElem_mem _)) (hkr _ (List.getElem_mem _)) (hkk _ (List.getElem_mem _)) _ ok W1 (hv.below hb) hp1))
  have hcat : ¬ 9223372036854775807 < (partT 17 t 0 0 l).length + 1 := by omega
  have hcat2 : ¬ 9223372036854775807 < (partT 17 t 0 0 l).length + 1 + t.length := by omega
  have hcat3 : ¬ 9223372036854775807 < (partT 17 t 0 0 l).length + 1 + t.length + 1 := by omega
  have hcat4 : ¬ 9223372036854775807 < (partT 17 t 0 0 l).length + 1 + t.length + 1 + (partT 17 t 1 1 l).length := by omega
  clear hp0 hp1
  obtain ⟨b0, b1, b2, b3, b4, b5, b6, b7, b8, b9⟩ := box10 (Below.refl (W.alloc (.cells #[.int .i64 17, .string ⟨t.toArray⟩, .int .i64 x.kind, .int .i64 x.num, .string ⟨x.str.toArray⟩, .slice A x.parts.length c, .slice B x.keys.length d, .bool f, .slice K l.length e, .int .i64 a] 28)).heap.size (W.alloc (.cells #[.int .i64 17, .string ⟨t.toArray⟩, .int .i64 x.kind, .int .i64 x.num, .string ⟨x.str.toArray⟩, .slice A x.parts.length c, .slice B x.keys.length d, .bool f, .slice K l.length e, .int .i64 a] 28)))
  have y0 := cell_regrown b0
  have y1 := cell_regrown b1
  have y2 := cell_regrown b2
  have y3 := cell_regrown b3
  have y4 := cell_regrown b4
  have y5 := cell_regrown b5
  have y6 := cell_regrown b6
  have y7 := cell_regrown b7
  have y8 := cell_regrown b8
  have y9 := cell_regrown b9
  clear b0 b1 b2 b3 b4 b5 b6 b7 b8 b9
  have cP0 := fun (d1 : Nat) (os : Array Obj) => Calls.regrown_of (HP0.out (grow (redrawn (W.alloc (.cells #[.int .i64 17, .string ⟨t.toArray⟩, .int .i64 x.kind, .int .i64 x.num, .string ⟨x.str.toArray⟩, .slice A x.parts.length c, .slice B x.keys.length d, .bool f, .slice K l.length e, .int .i64 a] 28)) d1) os) (bthen (one_al _ _) (below_regrown _ d1 os)))
  have cP1 := fun (d1 : Nat) (os : Array Obj) => Calls.regrown_of (HP1.out (grow (redrawn (W.alloc (.cells #[.int .i64 17, .string ⟨t.toArray⟩, .int .i64 x.kind, .int .i64 x.num, .string ⟨x.str.toArray⟩, .slice A x.parts.length c, .slice B x.keys.length d, .bool f, .slice K l.length e, .int .i64 a] 28)) d1) os) (bthen (one_al _ _) (below_regrown _ d1 os)))
  have Hrm := Lib.hid hroom
  clear hv hr hx hroom hkids hsd hsh hkr hsz H hkk hll hl0
  go_enter Tryz.func30, Tryz.ntmps30
  go_upto_region 23 with fail
  refine wp_region_quiet_below (by kernel_rfl) (by kernel_rfl) ?_
  repeat (quiet_step (first | with_reducible exact cP0 _ _ | with_reducible exact cP1 _ _))
  refine wpQuiet_nil ?_
  intro _ hw'
  obtain ⟨⟨dq, osq⟩, hw''⟩ := hw'
  subst hw''
  go_wp2_with fail
  go_ret
  exact ⟨ret_str (by rw [HTx.out]; simp [ByteArray.data_append]), bthen (one_al _ _) (below_regrown _ dq osq)⟩
set_option maxRecDepth 20000 in
set_option maxHeartbeats 1000000 in
theorem rf_expr_18 (t : List UInt8) (x : V) (f : Bool) (l : List N) (a : Int) (H : RExprOk (SizeOf.sizeOf (N.mk 18 t x f l a))) (A B K : Option Addr) (c d e : Nat) (ok : Nat → Prop) (W : World) (hv : RdN ok W (.agg #[.int .i64 18, .string ⟨t.toArray⟩, .int .i64 x.kind, .int .i64 x.num, .string ⟨x.str.toArray⟩, .slice A x.parts.length c, .slice B x.keys.length d, .bool f, .slice K l.length e, .int .i64 a]) (N.mk 18 t x f l a)) (hr : ∃ o, rightN o (N.mk 18 t x f l a) = true) (hroom : (exprT (N.mk 18 t x f l a)).length ≤ 70368744177664) :
    Calls Tryz.prog 30 #[.agg #[.int .i64 18, .string ⟨t.toArray⟩, .int .i64 x.kind, .int .i64 x.num, .string ⟨x.str.toArray⟩, .slice A x.parts.length c, .slice B x.keys.length d, .bool f, .slice K l.length e, .int .i64 a]] W fun e W' => e = .returned (.string ⟨(exprT (N.mk 18 t x f l a)).toArray⟩) ∧ Below W.heap.size W W' := by
  have hx : exprT (N.mk 18 t x f l a) = 91 :: (rowT 0 l ++ [93]) := by rw [exprT]; rfl
  obtain ⟨o, hr⟩ := hr
  obtain ⟨hsd, hsh⟩ := right_said hr
  have hkr := right_kids hr
  obtain ⟨A', c', B', d', K', e', hve, hn⟩ := hv.form
  have htl : t.length ≤ 16777216 := hn.text
  have hlen : l.length ≤ 16777216 := hn.len
  have hsz := fun (y : N) (hy : y ∈ l) => sz_mem (n := (N.mk 18 t x f l a)) hy
  clear hve hn
  simp only [N.kind, N.kids, N.text] at hsh hkr
  rw [hx] at hroom
  have HTx := Lib.hid hx
  have HV := Lib.hid hv
  have hkids : RdNs ok W (.slice K l.length e) 0 l := kids_of hv
  have hrl : (rowT 0 l).length ≤ 70368744177664 := by simp only [List.length_append, List.length_cons, List.length_nil] at hroom; omega
  have HJ := Lib.hid (fun (W1 : World) (hb : Below W.heap.size W W1) => rf_join _ H (N.mk 18 t x f l a) hsz hkr (all_kinds (l := l) (by simpa [shapeK] using hsh)) _ ok W1 (hv.below hb) hrl)
  simp only [N.kids] at HJ
  have hcat : ¬ 9223372036854775807 < 1 + (rowT 0 l).length := by omega
  have hcat2 : ¬ 9223372036854775807 < 1 + (rowT 0 l).length + 1 := by omega
  clear hrl
  have Hrm := Lib.hid hroom
  clear hv hr hx hroom hkids hsd hsh hkr hsz H
  go_enter Tryz.func30, Tryz.ntmps30
  go_wp2_with fail
  refine (HJ.out _ (one_al _ _)).mono ?_
  rintro e1 w1 ⟨rfl, hb⟩
  have HB1 := Lib.hid (bthen (one_al _ _) hb)
  clear hb
  go_wp2_with fail
  go_ret
  exact ⟨ret_str (by rw [HTx.out]; simp [ByteArray.data_append]), HB1.out⟩
set_option maxRecDepth 20000 in
set_option maxHeartbeats 1000000 in
theorem rf_expr_19 (t : List UInt8) (x : V) (f : Bool) (l : List N) (a : Int) (H : RExprOk (SizeOf.sizeOf (N.mk 19 t x f l a))) (A B K : Option Addr) (c d e : Nat) (ok : Nat → Prop) (W : World) (hv : RdN ok W (.agg #[.int .i64 19, .string ⟨t.toArray⟩, .int .i64 x.kind, .int .i64 x.num, .string ⟨x.str.toArray⟩, .slice A x.parts.length c, .slice B x.keys.length d, .bool f, .slice K l.length e, .int .i64 a]) (N.mk 19 t x f l a)) (hr : ∃ o, rightN o (N.mk 19 t x f l a) = true) (hroom : (exprT (N.mk 19 t x f l a)).length ≤ 70368744177664) :
    Calls Tryz.prog 30 #[.agg #[.int .i64 19, .string ⟨t.toArray⟩, .int .i64 x.kind, .int .i64 x.num, .string ⟨x.str.toArray⟩, .slice A x.parts.length c, .slice B x.keys.length d, .bool f, .slice K l.length e, .int .i64 a]] W fun e W' => e = .returned (.string ⟨(exprT (N.mk 19 t x f l a)).toArray⟩) ∧ Below W.heap.size W W' := by
  have hx : exprT (N.mk 19 t x f l a) = 123 :: (rowT 0 l ++ [125]) := by rw [exprT]; rfl
  obtain ⟨o, hr⟩ := hr
  obtain ⟨hsd, hsh⟩ := right_said hr
  have hkr := right_kids hr
  obtain ⟨A', c', B', d', K', e', hve, hn⟩ := hv.form
  have htl : t.length ≤ 16777216 := hn.text
  have hlen : l.length ≤ 16777216 := hn.len
  have hsz := fun (y : N) (hy : y ∈ l) => sz_mem (n := (N.mk 19 t x f l a)) hy
  clear hve hn
  simp only [N.kind, N.kids, N.text] at hsh hkr
  rw [hx] at hroom
  have HTx := Lib.hid hx
  have HV := Lib.hid hv
  have hkids : RdNs ok W (.slice K l.length e) 0 l := kids_of hv
  have hrl : (rowT 0 l).length ≤ 70368744177664 := by simp only [List.length_append, List.length_cons, List.length_nil] at hroom; omega
  have HJ := Lib.hid (fun (W1 : World) (hb : Below W.heap.size W W1) => rf_join _ H (N.mk 19 t x f l a) hsz hkr (all_pairs (l := l) (by simpa [shapeK] using hsh)) _ ok W1 (hv.below hb) hrl)
  simp only [N.kids] at HJ
  have hcat : ¬ 9223372036854775807 < 1 + (rowT 0 l).length := by omega
  have hcat2 : ¬ 9223372036854775807 < 1 + (rowT 0 l).length + 1 := by omega
  clear hrl
  have Hrm := Lib.hid hroom
  clear hv hr hx hroom hkids hsd hsh hkr hsz H
  go_enter Tryz.func30, Tryz.ntmps30
  go_wp2_with fail
  refine (HJ.out _ (one_al _ _)).mono ?_
  rintro e1 w1 ⟨rfl, hb⟩
  have HB1 := Lib.hid (bthen (one_al _ _) hb)
  clear hb
  go_wp2_with fail
  go_ret
  exact ⟨ret_str (by rw [HTx.out]; simp [ByteArray.data_append]), HB1.out⟩
set_option maxRecDepth 20000 in
set_option maxHeartbeats 1000000 in
theorem rf_expr_20 (t : List UInt8) (x : V) (f : Bool) (l : List N) (a : Int) (H : RExprOk (SizeOf.sizeOf (N.mk 20 t x f l a))) (A B K : Option Addr) (c d e : Nat) (ok : Nat → Prop) (W : World) (hv : RdN ok W (.agg #[.int .i64 20, .string ⟨t.toArray⟩, .int .i64 x.kind, .int .i64 x.num, .string ⟨x.str.toArray⟩, .slice A x.parts.length c, .slice B x.keys.length d, .bool f, .slice K l.length e, .int .i64 a]) (N.mk 20 t x f l a)) (hr : ∃ o, rightN o (N.mk 20 t x f l a) = true) (hroom : (exprT (N.mk 20 t x f l a)).length ≤ 70368744177664) :
    Calls Tryz.prog 30 #[.agg #[.int .i64 20, .string ⟨t.toArray⟩, .int .i64 x.kind, .int .i64 x.num, .string ⟨x.str.toArray⟩, .slice A x.parts.length c, .slice B x.keys.length d, .bool f, .slice K l.length e, .int .i64 a]] W fun e W' => e = .returned (.string ⟨(exprT (N.mk 20 t x f l a)).toArray⟩) ∧ Below W.heap.size W W' := by
  have hx : exprT (N.mk 20 t x f l a) = keyT t ++ [58, 32] ++ rowT 0 l := by rw [exprT]; rfl
  obtain ⟨o, hr⟩ := hr
  obtain ⟨hsd, hsh⟩ := right_said hr
  have hkr := right_kids hr
  obtain ⟨A', c', B', d', K', e', hve, hn⟩ := hv.form
  have htl : t.length ≤ 16777216 := hn.text
  have hlen : l.length ≤ 16777216 := hn.len
  have hsz := fun (y : N) (hy : y ∈ l) => sz_mem (n := (N.mk 20 t x f l a)) hy
  clear hve hn
  simp only [N.kind, N.kids, N.text] at hsh hkr
  rw [hx] at hroom
  have HTx := Lib.hid hx
  have HV := Lib.hid hv
  have hkids : RdNs ok W (.slice K l.length e) 0 l := kids_of hv
  have hll : l.length = 1 := by simp only [shapeK] at hsh; simp at hsh; exact hsh.1
  have hkk := all_kinds (l := l) (by simp only [shapeK] at hsh; simp at hsh; simpa using hsh.2)
  have hl0 : 0 < l.length := by omega
  have ht32 : t.length ≤ 32 := by
    unfold saidS at hsd
    simp only [Bool.and_eq_true, N.kind, N.text] at hsd
    have := hsd.1
    simp [saidText] at this
    exact this
  have HQ := Lib.hid (fun W1 => ref_Quote ⟨t.toArray⟩ W1 (by show t.length ≤ 1048576; omega))
  have hql := quoteS_len t
  have hrw : rowT 0 l = exprT (l[0]'hl0) := by
    match l, hll with
    | [y], _ => simp [rowT]
  rw [hrw] at hroom
  have Hrw := Lib.hid hrw
  have hkl := keyT_len t
  have hle : (exprT (l[0]'hl0)).length ≤ 70368744177664 := by simp only [List.length_append, List.length_cons, List.length_nil] at hroom; omega
  have HC := Lib.hid (fun (v : Value) (W1 : World) (hv1 : RdN ok W1 v (l[0]'hl0)) => H (l[0]'hl0) (hsz _ (List.getElem_mem hl0)) v ok W1 hv1 (hkr _ (List.getElem_mem hl0)) (hkk _ (List.getElem_mem hl0)) hle)
  have HEl := Lib.hid (fun (W1 : World) (hb : Below W.heap.size W W1) => (hkids.below hb).elem 0 hl0)
  have hlA : (0 : Int) < (l.length : Int) := by omega
  generalize l[0]'hl0 = Y at *
  have hcat : ¬ 9223372036854775807 < t.length + 2 := by omega
  have hcat2 : ¬ 9223372036854775807 < t.length + 2 + (exprT Y).length := by omega
  have hcat3 : ¬ 9223372036854775807 < (quoteS t).length + 2 := by omega
  have hcat4 : ¬ 9223372036854775807 < (quoteS t).length + 2 + (exprT Y).length := by omega
  have Hkey := Lib.hid (show keyT t = if isNameB t = true then t else quoteS t from rfl)
  clear hle hrw hkl
  have Hrm := Lib.hid hroom
  clear hv hr hx hroom hkids hsd hsh hkr hsz H hkk hll
  go_enter Tryz.func30, Tryz.ntmps30
  go_wp2_with fail
  refine (ref_IsName ⟨t.toArray⟩ _).mono ?_
  rintro e1 w1 ⟨rfl, hb⟩
  have HB1 := Lib.hid (bthen (one_al _ _) hb)
  have HBx := Lib.hid hb
  obtain ⟨b0, b1, b2, b3, b4, b5, b6, b7, b8, b9⟩ := box10 hb
  clear hb
  cases hnm : isNameB t with
  | true =>
    have Hk := Lib.hid (show keyT t = t by rw [Hkey.out, hnm]; rfl)
    clear hnm
    go_upto_region 15 with fail
    obtain ⟨g, off, A2, c2, B2, d2, K2, e2, rfl, _, hk', k0, k1, k2, k3, k4, k5, k6, k7, k8, k9⟩ := HEl.out _ HB1.out
    simp only [Nat.zero_mul, Nat.add_zero] at k0 k1 k2 k3 k4 k5 k6 k7 k8 k9
    have HY := Lib.hid hk'.rd
    clear hk'
    have y0 := cell_regrown b0
    have y1 := cell_regrown b1
    have y2 := cell_regrown b2
    have y3 := cell_regrown b3
    have y4 := cell_regrown b4
    have y5 := cell_regrown b5
    have y6 := cell_regrown b6
    have y7 := cell_regrown b7
    have y8 := cell_regrown b8
    have y9 := cell_regrown b9
    have kw0 := cell_regrown k0
    have kw1 := cell_regrown k1
    have kw2 := cell_regrown k2
    have kw3 := cell_regrown k3
    have kw4 := cell_regrown k4
    have kw5 := cell_regrown k5
    have kw6 := cell_regrown k6
    have kw7 := cell_regrown k7
    have kw8 := cell_regrown k8
    have kw9 := cell_regrown k9
    have cE := fun (d1 : Nat) (os : Array Obj) => Calls.regrown_of (HC.out _ (grow (redrawn w1 d1) os) (HY.out.below (below_regrown _ d1 os)))
    clear b0 b1 b2 b3 b4 b5 b6 b7 b8 b9 k0 k1 k2 k3 k4 k5 k6 k7 k8 k9
    refine wp_region_quiet_below (by kernel_rfl) (by kernel_rfl) ?_
    repeat (quiet_step (exact cE _ _))
    refine wpQuiet_nil ?_
    intro _ hw'
    obtain ⟨⟨dq, osq⟩, hw''⟩ := hw'
    subst hw''
    go_wp2_with fail
    go_ret
    exact ⟨ret_str (by rw [HTx.out, Hk.out, Hrw.out]; simp [ByteArray.data_append]), bthen HB1.out (below_regrown _ dq osq)⟩
  | false =>
    have Hk := Lib.hid (show keyT t = quoteS t by rw [Hkey.out, hnm]; rfl)
    clear hnm
    go_upto_region 16 with fail
    obtain ⟨g, off, A2, c2, B2, d2, K2, e2, rfl, _, hk', k0, k1, k2, k3, k4, k5, k6, k7, k8, k9⟩ := HEl.out _ HB1.out
    simp only [Nat.zero_mul, Nat.add_zero] at k0 k1 k2 k3 k4 k5 k6 k7 k8 k9
    have HY := Lib.hid hk'.rd
    clear hk'
    have y0 := cell_regrown b0
    have y1 := cell_regrown b1
    have y2 := cell_regrown b2
    have y3 := cell_regrown b3
    have y4 := cell_regrown b4
    have y5 := cell_regrown b5
    have y6 := cell_regrown b6
    have y7 := cell_regrown b7
    have y8 := cell_regrown b8
    have y9 := cell_regrown b9
    have kw0 := cell_regrown k0
    have kw1 := cell_regrown k1
    have kw2 := cell_regrown k2
    have kw3 := cell_regrown k3
    have kw4 := cell_regrown k4
    have kw5 := cell_regrown k5
    have kw6 := cell_regrown k6
    have kw7 := cell_regrown k7
    have kw8 := cell_regrown k8
    have kw9 := cell_regrown k9
    have cE := fun (d1 : Nat) (os : Array Obj) => Calls.regrown_of (HC.out _ (grow (redrawn w1 d1) os) (HY.out.below (below_regrown _ d1 os)))
    have cQ := fun (d1 : Nat) (os : Array Obj) => Calls.regrown_of (HQ.out (grow (redrawn w1 d1) os))
    clear b0 b1 b2 b3 b4 b5 b6 b7 b8 b9 k0 k1 k2 k3 k4 k5 k6 k7 k8 k9
    refine wp_region_quiet_below (by kernel_rfl) (by kernel_rfl) ?_
    repeat (quiet_step (first | with_reducible exact cQ _ _ | with_reducible exact cE _ _))
    refine wpQuiet_nil ?_
    intro _ hw'
    obtain ⟨⟨dq, osq⟩, hw''⟩ := hw'
    subst hw''
    go_wp2_with fail
    go_ret
    exact ⟨ret_str (by rw [HTx.out, Hk.out, Hrw.out]; simp [ByteArray.data_append]), bthen HB1.out (below_regrown _ dq osq)⟩
set_option maxRecDepth 20000 in
set_option maxHeartbeats 1000000 in
theorem rf_expr_21 (t : List UInt8) (x : V) (f : Bool) (l : List N) (a : Int) (H : RExprOk (SizeOf.sizeOf (N.mk 21 t x f l a))) (A B K : Option Addr) (c d e : Nat) (ok : Nat → Prop) (W : World) (hv : RdN ok W (.agg #[.int .i64 21, .string ⟨t.toArray⟩, .int .i64 x.kind, .int .i64 x.num, .string ⟨x.str.toArray⟩, .slice A x.parts.length c, .slice B x.keys.length d, .bool f, .slice K l.length e, .int .i64 a]) (N.mk 21 t x f l a)) (hr : ∃ o, rightN o (N.mk 21 t x f l a) = true) (hroom : (exprT (N.mk 21 t x f l a)).length ≤ 70368744177664) :
    Calls Tryz.prog 30 #[.agg #[.int .i64 21, .string ⟨t.toArray⟩, .int .i64 x.kind, .int .i64 x.num, .string ⟨x.str.toArray⟩, .slice A x.parts.length c, .slice B x.keys.length d, .bool f, .slice K l.length e, .int .i64 a]] W fun e W' => e = .returned (.string ⟨(exprT (N.mk 21 t x f l a)).toArray⟩) ∧ Below W.heap.size W W' := by
  have hx : exprT (N.mk 21 t x f l a) = partT 21 t 0 0 l ++ 91 :: (kidT 1 l ++ [93]) := by rw [exprT]; rfl
  obtain ⟨o, hr⟩ := hr
  obtain ⟨hsd, hsh⟩ := right_said hr
  have hkr := right_kids hr
  obtain ⟨A', c', B', d', K', e', hve, hn⟩ := hv.form
  have htl : t.length ≤ 16777216 := hn.text
  have hlen : l.length ≤ 16777216 := hn.len
  have hsz := fun (y : N) (hy : y ∈ l) => sz_mem (n := (N.mk 21 t x f l a)) hy
  clear hve hn
  simp only [N.kind, N.kids, N.text] at hsh hkr
  rw [hx] at hroom
  have HTx := Lib.hid hx
  have HV := Lib.hid hv
  have hkids : RdNs ok W (.slice K l.length e) 0 l := kids_of hv
  have hll : l.length = 2 := by simp only [shapeK] at hsh; simp at hsh; exact hsh.1
  have hkk := all_kinds (l := l) (by simp only [shapeK] at hsh; simp at hsh; simpa using hsh.2)
  have hl0 : 0 < l.length := by omega
  have hp0 : (partT 21 t 0 0 l).length ≤ 70368744177664 := by simp only [List.length_append, List.length_cons, List.length_nil] at hroom; omega
  have HP0 := Lib.hid (fun (W1 : World) (hb : Below W.heap.size W W1) => (show Calls Tryz.prog 57 #[.agg #[.int .i64 21, .string ⟨t.toArray⟩, .int .i64 x.kind, .int .i64 x.num, .string ⟨x.str.toArray⟩, .slice A x.parts.length c, .slice B x.keys.length d, .bool f, .slice K l.length e, .int .i64 a], .int .i64 0] W1 fun e W' => e = .returned (.string ⟨(partT 21 t 0 0 l).toArray⟩) ∧ Below W1.heap.size W1 W' from rf_part _ H (N.mk 21 t x f l a) 0 (by show 0 < l.length; omega) (hsz _ (List.getElem_mem _)) (hkr _ (List.getElem_mem _)) (hkk _ (List.getElem_mem _)) _ ok W1 (hv.below hb) hp0))
  have hl1 : 1 < l.length := by omega
  have hk1 := kidT_at (l := l) (j := 1) hl1
  rw [hk1] at hroom
  have Hk1 := Lib.hid hk1
  have hle : (exprT (l[1]'hl1)).length ≤ 70368744177664 := by simp only [List.length_append, List.length_cons, List.length_nil] at hroom; omega
  have HC := Lib.hid (fun (v : Value) (W1 : World) (hv1 : RdN ok W1 v (l[1]'hl1)) => H (l[1]'hl1) (hsz _ (List.getElem_mem hl1)) v ok W1 hv1 (hkr _ (List.getElem_mem hl1)) (hkk _ (List.getElem_mem hl1)) hle)
  have HEl := Lib.hid (fun (W1 : World) (hb : Below W.heap.size W W1) => (hkids.below hb).elem 1 hl1)
  have hlA : (1 : Int) < (l.length : Int) := by omega
  generalize l[1]'hl1 = Y at *
  have hcat : ¬ 9223372036854775807 < (partT 21 t 0 0 l).length + 1 := by omega
  have hcat2 : ¬ 9223372036854775807 < (partT 21 t 0 0 l).length + 1 + (exprT Y).length := by omega
  have hcat3 : ¬ 9223372036854775807 < (partT 21 t 0 0 l).length + 1 + (exprT Y).length + 1 := by omega
  clear hp0 hk1 hle
  obtain ⟨g, off, Az, cz, Bz, dz, Kz, ez, rfl, _, hz', z0, z1, z2, z3, z4, z5, z6, z7, z8, z9⟩ := HEl.out _ (one_al W (.cells #[.int .i64 21, .string ⟨t.toArray⟩, .int .i64 x.kind, .int .i64 x.num, .string ⟨x.str.toArray⟩, .slice A x.parts.length c, .slice B x.keys.length d, .bool f, .slice K l.length e, .int .i64 a] 28))
  simp only [Nat.one_mul] at z0 z1 z2 z3 z4 z5 z6 z7 z8 z9
  have HY := Lib.hid hz'.rd
  clear hz'
  obtain ⟨b0, b1, b2, b3, b4, b5, b6, b7, b8, b9⟩ := box10 (Below.refl (W.alloc (.cells #[.int .i64 21, .string ⟨t.toArray⟩, .int .i64 x.kind, .int .i64 x.num, .string ⟨x.str.toArray⟩, .slice A x.parts.length c, .slice B x.keys.length d, .bool f, .slice (some ⟨g, off, none⟩) l.length e, .int .i64 a] 28)).heap.size (W.alloc (.cells #[.int .i64 21, .string ⟨t.toArray⟩, .int .i64 x.kind, .int .i64 x.num, .string ⟨x.str.toArray⟩, .slice A x.parts.length c, .slice B x.keys.length d, .bool f, .slice (some ⟨g, off, none⟩) l.length e, .int .i64 a] 28)))
  have y0 := cell_regrown b0
  have y1 := cell_regrown b1
  have y2 := cell_regrown b2
  have y3 := cell_regrown b3
  have y4 := cell_regrown b4
  have y5 := cell_regrown b5
  have y6 := cell_regrown b6
  have y7 := cell_regrown b7
  have y8 := cell_regrown b8
  have y9 := cell_regrown b9
  clear b0 b1 b2 b3 b4 b5 b6 b7 b8 b9
  have kw0 := cell_regrown z0
  have kw1 := cell_regrown z1
  have kw2 := cell_regrown z2
  have kw3 := cell_regrown z3
  have kw4 := cell_regrown z4
  have kw5 := cell_regrown z5
  have kw6 := cell_regrown z6
  have kw7 := cell_regrown z7
  have kw8 := cell_regrown z8
  have kw9 := cell_regrown z9
  have cP0 := fun (d1 : Nat) (os : Array Obj) => Calls.regrown_of (HP0.out (grow (redrawn (W.alloc (.cells #[.int .i64 21, .string ⟨t.toArray⟩, .int .i64 x.kind, .int .i64 x.num, .string ⟨x.str.toArray⟩, .slice A x.parts.length c, .slice B x.keys.length d, .bool f, .slice (some ⟨g, off, none⟩) l.length e, .int .i64 a] 28)) d1) os) (bthen (one_al _ _) (below_regrown _ d1 os)))
  have cE := fun (d1 : Nat) (os : Array Obj) => Calls.regrown_of (HC.out _ (grow (redrawn (W.alloc (.cells #[.int .i64 21, .string ⟨t.toArray⟩, .int .i64 x.kind, .int .i64 x.num, .string ⟨x.str.toArray⟩, .slice A x.parts.length c, .slice B x.keys.length d, .bool f, .slice (some ⟨g, off, none⟩) l.length e, .int .i64 a] 28)) d1) os) (HY.out.below (below_regrown _ d1 os)))
  clear z0 z1 z2 z3 z4 z5 z6 z7 z8 z9
  have Hrm := Lib.hid hroom
  clear hv hr hx hroom hkids hsd hsh hkr hsz H hkk hll hl0 hl1
  go_enter Tryz.func30, Tryz.ntmps30
  go_upto_region 20 with fail
  refine wp_region_quiet_below (by kernel_rfl) (by kernel_rfl) ?_
  repeat (quiet_step (first | with_reducible exact cP0 _ _ | with_reducible exact cE _ _))
  refine wpQuiet_nil ?_
  intro _ hw'
  obtain ⟨⟨dq, osq⟩, hw''⟩ := hw'
  subst hw''
  go_wp2_with fail
  go_ret
  exact ⟨ret_str (by rw [HTx.out, Hk1.out]; simp [ByteArray.data_append]), bthen (one_al _ _) (below_regrown _ dq osq)⟩
set_option maxRecDepth 20000 in
set_option maxHeartbeats 1000000 in
theorem rf_expr_22 (t : List UInt8) (x : V) (f : Bool) (l : List N) (a : Int) (H : RExprOk (SizeOf.sizeOf (N.mk 22 t x f l a))) (A B K : Option Addr) (c d e : Nat) (ok : Nat → Prop) (W : World) (hv : RdN ok W (.agg #[.int .i64 22, .string ⟨t.toArray⟩, .int .i64 x.kind, .int .i64 x.num, .string ⟨x.str.toArray⟩, .slice A x.parts.length c, .slice B x.keys.length d, .bool f, .slice K l.length e, .int .i64 a]) (N.mk 22 t x f l a)) (hr : ∃ o, rightN o (N.mk 22 t x f l a) = true) (hroom : (exprT (N.mk 22 t x f l a)).length ≤ 70368744177664) :
    Calls Tryz.prog 30 #[.agg #[.int .i64 22, .string ⟨t.toArray⟩, .int .i64 x.kind, .int .i64 x.num, .string ⟨x.str.toArray⟩, .slice A x.parts.length c, .slice B x.keys.length d, .bool f, .slice K l.length e, .int .i64 a]] W fun e W' => e = .returned (.string ⟨(exprT (N.mk 22 t x f l a)).toArray⟩) ∧ Below W.heap.size W W' := by
  have hx : exprT (N.mk 22 t x f l a) = partT 22 t 0 0 l ++ 46 :: t := by rw [exprT]; rfl
  obtain ⟨o, hr⟩ := hr
  obtain ⟨hsd, hsh⟩ := right_said hr
  have hkr := right_kids hr
  obtain ⟨A', c', B', d', K', e', hve, hn⟩ := hv.form
  have htl : t.length ≤ 16777216 := hn.text
  have hlen : l.length ≤ 16777216 := hn.len
  have hsz := fun (y : N) (hy : y ∈ l) => sz_mem (n := (N.mk 22 t x f l a)) hy
  clear hve hn
  simp only [N.kind, N.kids, N.text] at hsh hkr
  rw [hx] at hroom
  have HTx := Lib.hid hx
  have HV := Lib.hid hv
  have hkids : RdNs ok W (.slice K l.length e) 0 l := kids_of hv
  have hll : l.length = 1 := by simp only [shapeK] at hsh; simp at hsh; exact hsh.1
  have hkk := all_kinds (l := l) (by simp only [shapeK] at hsh; simp at hsh; simpa using hsh.2)
  have hl0 : 0 < l.length := by omega
  have hp0 : (partT 22 t 0 0 l).length ≤ 70368744177664 := by simp only [List.length_append, List.length_cons, List.length_nil] at hroom; omega
  have HP0 := Lib.hid (fun (W1 : World) (hb : Below W.heap.size W W1) => (show Calls Tryz.prog 57 #[.agg #[.int .i64 22, .string ⟨t.toArray⟩, .int .i64 x.kind, .int .i64 x.num, .string ⟨x.str.toArray⟩, .slice A x.parts.length c, .slice B x.keys.length d, .bool f, .slice K l.length e, .int .i64 a], .int .i64 0] W1 fun e W' => e = .returned (.string ⟨(partT 22 t 0 0 l).toArray⟩) ∧ Below W1.heap.size W1 W' from rf_part _ H (N.mk 22 t x f l a) 0 (by show 0 < l.length; omega) (hsz _ (List.getElem_mem _)) (hkr _ (List.getElem_mem _)) (hkk _ (List.getElem_mem _)) _ ok W1 (hv.below hb) hp0))
  have hcat : ¬ 9223372036854775807 < (partT 22 t 0 0 l).length + 1 := by omega
  have hcat2 : ¬ 9223372036854775807 < (partT 22 t 0 0 l).length + 1 + t.length := by omega
  clear hp0
  obtain ⟨b0, b1, b2, b3, b4, b5, b6, b7, b8, b9⟩ := box10 (Below.refl (W.alloc (.cells #[.int .i64 22, .string ⟨t.toArray⟩, .int .i64 x.kind, .int .i64 x.num, .string ⟨x.str.toArray⟩, .slice A x.parts.length c, .slice B x.keys.length d, .bool f, .slice K l.length e, .int .i64 a] 28)).heap.size (W.alloc (.cells #[.int .i64 22, .string ⟨t.toArray⟩, .int .i64 x.kind, .int .i64 x.num, .string ⟨x.str.toArray⟩, .slice A x.parts.length c, .slice B x.keys.length d, .bool f, .slice K l.length e, .int .i64 a] 28)))
  have y0 := cell_regrown b0
  have y1 := cell_regrown b1
  have y2 := cell_regrown b2
  have y3 := cell_regrown b3
  have y4 := cell_regrown b4
  have y5 := cell_regrown b5
  have y6 := cell_regrown b6
  have y7 := cell_regrown b7
  have y8 := cell_regrown b8
  have y9 := cell_regrown b9
  clear b0 b1 b2 b3 b4 b5 b6 b7 b8 b9
  have cP0 := fun (d1 : Nat) (os : Array Obj) => Calls.regrown_of (HP0.out (grow (redrawn (W.alloc (.cells #[.int .i64 22, .string ⟨t.toArray⟩, .int .i64 x.kind, .int .i64 x.num, .string ⟨x.str.toArray⟩, .slice A x.parts.length c, .slice B x.keys.length d, .bool f, .slice K l.length e, .int .i64 a] 28)) d1) os) (bthen (one_al _ _) (below_regrown _ d1 os)))
  have Hrm := Lib.hid hroom
  clear hv hr hx hroom hkids hsd hsh hkr hsz H hkk hll hl0
  go_enter Tryz.func30, Tryz.ntmps30
  go_upto_region 22 with fail
  refine wp_region_quiet_below (by kernel_rfl) (by kernel_rfl) ?_
  repeat (quiet_step (exact cP0 _ _))
  refine wpQuiet_nil ?_
  intro _ hw'
  obtain ⟨⟨dq, osq⟩, hw''⟩ := hw'
  subst hw''
  go_wp2_with fail
  go_ret
  exact ⟨ret_str (by rw [HTx.out]; simp [ByteArray.data_append]), bthen (one_al _ _) (below_regrown _ dq osq)⟩
theorem rf_expr : ∀ m, RExprOk m := by
  intro m
  induction m with
  | zero => exact fun n hn => absurd hn (Nat.not_lt_zero _)
  | succ m ih =>
    intro n hn v ok W hv hr hk hroom
    have H : RExprOk (SizeOf.sizeOf n) := fun y hy => ih y (by omega)
    obtain ⟨A, c, B, d, K, e, rfl, _⟩ := hv.form
    cases n with
    | mk k t x f l a =>
    have hk' := expr_kinds (k := k) hk
    rcases hk' with rfl | rfl | rfl | rfl | rfl | rfl | rfl | rfl | rfl | rfl
    · exact rf_expr_13 t x f l a H A B K c d e ok W hv hr hroom
    · exact rf_expr_14 t x f l a H A B K c d e ok W hv hr hroom
    · exact rf_expr_15 t x f l a H A B K c d e ok W hv hr hroom
    · exact rf_expr_16 t x f l a H A B K c d e ok W hv hr hroom
    · exact rf_expr_17 t x f l a H A B K c d e ok W hv hr hroom
    · exact rf_expr_18 t x f l a H A B K c d e ok W hv hr hroom
    · exact rf_expr_19 t x f l a H A B K c d e ok W hv hr hroom
    · exact rf_expr_20 t x f l a H A B K c d e ok W hv hr hroom
    · exact rf_expr_21 t x f l a H A B K c d e ok W hv hr hroom
    · exact rf_expr_22 t x f l a H A B K c d e ok W hv hr hroom
end Go.Proofs.YthlfeiiolafonaaGreatDoor
