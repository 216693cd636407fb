/- Contracts of print.sameValue, alike, Same. -/
import Derived.Test.YthlfeiiolafonaaDoorStillB
import Derived.Test.YthlfeiiolafonaaDoorPrintEq
import Derived.Test.YthlfeiiolafonaaDoorPrintTop
import Derived.Test.YthlfeiiolafonaaDoorBld
set_option linter.unusedVariables false
set_option linter.unusedSimpArgs false
namespace Go.Proofs.YthlfeiiolafonaaDoor
open Go.RowKit Go.IntWalk Go.Sort

abbrev mkB (s : List UInt8) : ByteArray := ⟨s.toArray⟩
theorem map_mkB {kx ky : List (List UInt8)} : kx.map mkB = ky.map mkB ↔ kx = ky := by
  constructor
  · intro h
    have := congrArg (List.map fun b : ByteArray => b.data.toList) h
    simpa [List.map_map, Function.comp_def] using this
  · intro h; rw [h]
theorem keys_Equal (kx ky : List (List UInt8)) (B B2 : Option Addr) (d d2 : Nat) (ok ok2 : Nat → Prop) (w : World) (hx : RdK ok w (.slice B kx.length d) kx) (hy : RdK ok2 w (.slice B2 ky.length d2) ky) (h1 : kx.length ≤ 16777216) (h2 : ky.length ≤ 16777216) :
    Calls Tryd.prog 47 #[.slice B kx.length d, .slice B2 ky.length d2] w fun e w' => e = .returned (.bool (decide (kx = ky))) ∧ Below w.heap.size w w' := by
  by_cases hl : kx.length = ky.length
  · cases hn : kx.length with
    | zero =>
      have ex : kx = [] := List.length_eq_zero_iff.1 hn
      have ey : ky = [] := List.length_eq_zero_iff.1 (by omega)
      subst ex ey
      refine (Tryd.slices_Equal_string_empty B B2 d 0 d2 w (by omega)).mono ?_
      rintro e w' ⟨rfl, rfl⟩
      exact ⟨by simp, Below.refl _ _⟩
    | succ n =>
      obtain ⟨g, off, rfl, _, _, _⟩ := hx.elem 0 (by omega)
      obtain ⟨g2, off2, rfl, _, _, _⟩ := hy.elem 0 (by omega)
      rw [← hn]
      refine (Tryd.slices_Equal_string g off kx.length d g2 off2 ky.length d2 (kx.map mkB) (ky.map mkB) w (by simp) (by simp) (by omega) (by omega) (fun j hj => ?_) (fun j hj => ?_)).mono ?_
      · rw [List.length_map] at hj
        obtain ⟨g', off', he, _, hc, _⟩ := hx.elem j hj
        injection he with he
        injection he with e1 e2
        subst e1 e2
        rw [hc]
        simp [List.getD, hj]
      · rw [List.length_map] at hj
        obtain ⟨g', off', he, _, hc, _⟩ := hy.elem j hj
        injection he with he
        injection he with e1 e2
        subst e1 e2
        rw [hc]
        simp [List.getD, hj]
      · rintro e w' ⟨rfl, q, rfl⟩
        refine ⟨?_, below_drewN _ _⟩
        rw [List.take_of_length_le (by simp), List.take_of_length_le (by simp)]
        simp only [map_mkB]
  · refine (Tryd.slices_Equal_string_lens B B2 kx.length d ky.length d2 w hl).mono ?_
    rintro e w' ⟨rfl, rfl⟩
    have hne : kx ≠ ky := fun h => hl (by rw [h])
    exact ⟨by simp [hne], Below.refl _ _⟩
/-- what is asked of the function that compares values -/
def EqFnV (l : List V) : Prop := ∀ i (h : i < l.length) (Y : V) (va vb : Value) (oka okb : Nat → Prop) (W : World), RdV oka W va l[i] → RdV okb W vb Y → Calls Tryd.prog 28 #[va, vb] W fun e w' => e = .returned (.bool (eqV l[i] Y)) ∧ Below W.heap.size W w'
theorem eqVs_no {l l' : List V} (hl : l.length = l'.length) {k : Nat} (h : k < l.length) (h' : k < l'.length) (hf : eqV l[k] l'[k] = false) : eqVs l l' = false := by
  rw [Bool.eq_false_iff]
  intro ht
  have := (eqVs_at hl).1 ht k h h'
  rw [hf] at this
  exact absurd this (by decide)
theorem eqVs_more {l l' : List V} {k : Nat} (h : ∀ i (h : i < l.length) (h' : i < l'.length), i < k → eqV l[i] l'[i] = true) (hk : k < l.length) (hk' : k < l'.length) (ht : eqV l[k] l'[k] = true) : ∀ i (h : i < l.length) (h' : i < l'.length), i < k + 1 → eqV l[i] l'[i] = true := by
  intro i h1 h2 h3
  by_cases hik : i < k
  · exact h i h1 h2 hik
  · obtain rfl : i = k := by omega
    exact ht
set_option maxRecDepth 20000 in
set_option maxHeartbeats 2000000 in
theorem equalFunc_V (l l' : List V) (hE : EqFnV l) (A A2 : Option Addr) (c c2 : Nat) (oka okb : Nat → Prop) (w : World) (ha : RdVs oka w (.slice A l.length c) 0 l) (hb : RdVs okb w (.slice A2 l'.length c2) 0 l') (h1 : l.length ≤ 16777216) (h2 : l'.length ≤ 16777216) :
    Calls Tryd.prog 48 #[.slice A l.length c, .slice A2 l'.length c2, .func (.func 28) #[] #[]] w fun e w' => e = .returned (.bool (eqVs l l')) ∧ Below w.heap.size w w' := by
  have HE := Lib.hid hE
  have HA := Lib.hid ha
  have HB := Lib.hid hb
  clear hE ha hb
  by_cases hl : l.length = l'.length
  · have Hl := Lib.hid hl
    rw [← hl]
    rw [← hl] at h2 HB
    clear hl
    go_enter Tryd.func48, Tryd.ntmps48
    go_wp2_with fail
    go_loopw [17] (fun i wr => ∃ k : Nat, k ≤ l.length ∧ i = .int .i64 (k : Int) ∧ Below w.heap.size w wr ∧ ∀ i (h : i < l.length) (h' : i < l'.length), i < k → eqV l[i] l'[i] = true) (fun i _ => l.length - (intOf i).toNat)
    case atStart => exact ⟨0, Nat.zero_le _, rfl, Below.refl _ _, fun i _ _ h => absurd h (Nat.not_lt_zero _)⟩
    case round =>
      obtain ⟨k, hk, rfl, hW, hall⟩ := hrel
      have HW := Lib.hid hW
      have Hall := Lib.hid hall
      clear hW hall
      by_cases hlt : k < l.length
      · have hlA : (k : Int) < (l.length : Int) := by omega
        have h00 : (0 : Int) ≤ (k : Int) := by omega
        have hlt2 : k < l'.length := by have := Hl.out; omega
        obtain ⟨g, off, A', c', B', d', rfl, _, hra, a0, a1, a2, a3, a4⟩ := (HA.out.below HW.out).elem k hlt
        obtain ⟨g2, off2, A3, c3, B3, d3, rfl, _, hrb, b0, b1, b2, b3, b4⟩ := (HB.out.below HW.out).elem k hlt2
        have HRa := Lib.hid hra
        have HRb := Lib.hid hrb
        have HC := Lib.hid (HE.out k hlt l'[k] (valV l[k] A' c' B' d') (valV l'[k] A3 c3 B3 d3) oka okb)
        have HNo := Lib.hid (fun hf => eqVs_no Hl.out hlt hlt2 hf)
        have HMore := Lib.hid (fun ht => eqVs_more Hall.out hlt hlt2 ht)
        generalize l[k] = Y1 at *
        generalize l'[k] = Y2 at *
        have xb := fun X => And.intro (bcell (one_al wr X) b0) (And.intro (bcell (one_al wr X) b1) (And.intro (bcell (one_al wr X) b2) (And.intro (bcell (one_al wr X) b3) (bcell (one_al wr X) b4))))
        clear hra hrb hlt2 b0 b1 b2 b3 b4
        have b0 := fun X => (xb X).1; have b1 := fun X => (xb X).2.1; have b2 := fun X => (xb X).2.2.1; have b3 := fun X => (xb X).2.2.2.1; have b4 := fun X => (xb X).2.2.2.2; clear xb
        go_wp2_with fail
        refine (HC.out _ (HRa.out.below (two_al _ _ _)) (HRb.out.below (two_al _ _ _))).mono ?_
        rintro e1 w1 ⟨rfl, hb⟩
        have HW1 := Lib.hid (bthen HW.out (bthen (two_al _ _ _) hb))
        clear hb
        cases hq : eqV Y1 Y2 with
        | false =>
          have hn := HNo.out hq
          have Hn := Lib.hid hn
          clear hn hq
          go_wp2_with fail
          go_ret
          exact ⟨ret_bool Hn.out.symm, HW1.out⟩
        | true =>
          have Hm := Lib.hid (HMore.out hq)
          clear hq
          go_wp2_with fail
          exact ⟨⟨k + 1, by omega, by go_num, HW1.out, Hm.out⟩, by simp [intOf]; omega⟩
      · have hlA : ¬ (k : Int) < (l.length : Int) := by omega
        have Hy := Lib.hid ((eqVs_at Hl.out).2 fun i h1 h2 => Hall.out i h1 h2 (by omega))
        go_wp2_with fail
        go_ret
        exact ⟨ret_bool Hy.out.symm, HW.out⟩
  · have hlA : ¬ (l.length : Int) = (l'.length : Int) := by omega
    have Hn := Lib.hid (eqVs_len hl)
    go_enter Tryd.func48, Tryd.ntmps48
    go_wp2_with fail
    go_ret
    exact ⟨ret_bool Hn.out.symm, Below.refl _ _⟩
/-- what is asked of the function that compares nodes -/
def EqFnN (l : List N) : Prop := ∀ i (h : i < l.length) (Y : N) (va vb : Value) (oka okb : Nat → Prop) (W : World), RdN oka W va l[i] → RdN okb W vb Y → Calls Tryd.prog 14 #[va, vb] W fun e w' => e = .returned (.bool (eqN l[i] Y)) ∧ Below W.heap.size W w'
theorem eqNs_no {l l' : List N} (hl : l.length = l'.length) {k : Nat} (h : k < l.length) (h' : k < l'.length) (hf : eqN l[k] l'[k] = false) : eqNs l l' = false := by
  rw [Bool.eq_false_iff]
  intro ht
  have := (eqNs_at hl).1 ht k h h'
  rw [hf] at this
  exact absurd this (by decide)
theorem eqNs_more {l l' : List N} {k : Nat} (h : ∀ i (h : i < l.length) (h' : i < l'.length), i < k → eqN l[i] l'[i] = true) (hk : k < l.length) (hk' : k < l'.length) (ht : eqN l[k] l'[k] = true) : ∀ i (h : i < l.length) (h' : i < l'.length), i < k + 1 → eqN l[i] l'[i] = true := by
  intro i h1 h2 h3
  by_cases hik : i < k
  · exact h i h1 h2 hik
  · obtain rfl : i = k := by omega
    exact ht
set_option maxRecDepth 20000 in
set_option maxHeartbeats 2000000 in
theorem equalFunc_N (l l' : List N) (hE : EqFnN l) (A A2 : Option Addr) (c c2 : Nat) (oka okb : Nat → Prop) (w : World) (ha : RdNs oka w (.slice A l.length c) 0 l) (hb : RdNs okb w (.slice A2 l'.length c2) 0 l') (h1 : l.length ≤ 16777216) (h2 : l'.length ≤ 16777216) :
    Calls Tryd.prog 29 #[.slice A l.length c, .slice A2 l'.length c2, .func (.func 14) #[] #[]] w fun e w' => e = .returned (.bool (eqNs l l')) ∧ Below w.heap.size w w' := by
  have HE := Lib.hid hE
  have HA := Lib.hid ha
  have HB := Lib.hid hb
  clear hE ha hb
  by_cases hl : l.length = l'.length
  · have Hl := Lib.hid hl
    rw [← hl]
    rw [← hl] at h2 HB
    clear hl
    go_enter Tryd.func29, Tryd.ntmps29
    go_wp2_with fail
    go_loopw [17] (fun i wr => ∃ k : Nat, k ≤ l.length ∧ i = .int .i64 (k : Int) ∧ Below w.heap.size w wr ∧ ∀ i (h : i < l.length) (h' : i < l'.length), i < k → eqN l[i] l'[i] = true) (fun i _ => l.length - (intOf i).toNat)
    case atStart => exact ⟨0, Nat.zero_le _, rfl, Below.refl _ _, fun i _ _ h => absurd h (Nat.not_lt_zero _)⟩
    case round =>
      obtain ⟨k, hk, rfl, hW, hall⟩ := hrel
      have HW := Lib.hid hW
      have Hall := Lib.hid hall
      clear hW hall
      by_cases hlt : k < l.length
      · have hlA : (k : Int) < (l.length : Int) := by omega
        have h00 : (0 : Int) ≤ (k : Int) := by omega
        have hlt2 : k < l'.length := by have := Hl.out; omega
        obtain ⟨g, off, A', c', B', d', K', e', rfl, _, hra, a0, a1, a2, a3, a4, a5, a6, a7, a8, a9⟩ := (HA.out.below HW.out).elem k hlt
        obtain ⟨g2, off2, A3, c3, B3, d3, K3, e3, rfl, _, hrb, b0, b1, b2, b3, b4, b5, b6, b7, b8, b9⟩ := (HB.out.below HW.out).elem k hlt2
        have HRa := Lib.hid hra.rd
        have HRb := Lib.hid hrb.rd
        have HC := Lib.hid (HE.out k hlt l'[k] (valN l[k] A' c' B' d' K' e') (valN l'[k] A3 c3 B3 d3 K3 e3) oka okb)
        have HNo := Lib.hid (fun hf => eqNs_no Hl.out hlt hlt2 hf)
        have HMore := Lib.hid (fun ht => eqNs_more Hall.out hlt hlt2 ht)
        generalize l[k] = Y1 at *
        generalize l'[k] = Y2 at *
        have xb := fun X => And.intro (bcell (one_al wr X) b0) (And.intro (bcell (one_al wr X) b1) (And.intro (bcell (one_al wr X) b2) (And.intro (bcell (one_al wr X) b3) (And.intro (bcell (one_al wr X) b4) (And.intro (bcell (one_al wr X) b5) (And.intro (bcell (one_al wr X) b6) (And.intro (bcell (one_al wr X) b7) (And.intro (bcell (one_al wr X) b8) (bcell (one_al wr X) b9)))))))))
        clear hra hrb hlt2 b0 b1 b2 b3 b4 b5 b6 b7 b8 b9
        have b0 := fun X => (xb X).1; have b1 := fun X => (xb X).2.1; have b2 := fun X => (xb X).2.2.1; have b3 := fun X => (xb X).2.2.2.1; have b4 := fun X => (xb X).2.2.2.2.1; have b5 := fun X => (xb X).2.2.2.2.2.1; have b6 := fun X => (xb X).2.2.2.2.2.2.1; have b7 := fun X => (xb X).2.2.2.2.2.2.2.1; have b8 := fun X => (xb X).2.2.2.2.2.2.2.2.1; have b9 := fun X => (xb X).2.2.2.2.2.2.2.2.2; clear xb
        go_wp2_with fail
        refine (HC.out _ (HRa.out.below (two_al _ _ _)) (HRb.out.below (two_al _ _ _))).mono ?_
        rintro e1 w1 ⟨rfl, hb⟩
        have HW1 := Lib.hid (bthen HW.out (bthen (two_al _ _ _) hb))
        clear hb
        cases hq : eqN Y1 Y2 with
        | false =>
          have hn := HNo.out hq
          have Hn := Lib.hid hn
          clear hn hq
          go_wp2_with fail
          go_ret
          exact ⟨ret_bool Hn.out.symm, HW1.out⟩
        | true =>
          have Hm := Lib.hid (HMore.out hq)
          clear hq
          go_wp2_with fail
          exact ⟨⟨k + 1, by omega, by go_num, HW1.out, Hm.out⟩, by simp [intOf]; omega⟩
      · have hlA : ¬ (k : Int) < (l.length : Int) := by omega
        have Hy := Lib.hid ((eqNs_at Hl.out).2 fun i h1 h2 => Hall.out i h1 h2 (by omega))
        go_wp2_with fail
        go_ret
        exact ⟨ret_bool Hy.out.symm, HW.out⟩
  · have hlA : ¬ (l.length : Int) = (l'.length : Int) := by omega
    have Hn := Lib.hid (eqNs_len hl)
    go_enter Tryd.func29, Tryd.ntmps29
    go_wp2_with fail
    go_ret
    exact ⟨ret_bool Hn.out.symm, Below.refl _ _⟩
end Go.Proofs.YthlfeiiolafonaaDoor
