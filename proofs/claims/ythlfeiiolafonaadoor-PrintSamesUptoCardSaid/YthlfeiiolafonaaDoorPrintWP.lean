/- Contracts of print.Program$1, Program, Expr. -/
import Derived.Test.YthlfeiiolafonaaDoorWSB
import Derived.Test.YthlfeiiolafonaaDoorPrintTop
set_option linter.unusedVariables false
set_option linter.unusedSimpArgs false
namespace Go.Proofs.YthlfeiiolafonaaDoor
open Go.RowKit Go.IntWalk

theorem parsT_take : ∀ (l : List N) (i k : Nat) (h : k < l.length), parsT i (l.take (k + 1)) = parsT i (l.take k) ++ ((if i + k = 0 then [] else [44, 32]) ++ l[k].text)
  | x :: l, i, 0, h => by simp [parsT]
  | x :: l, i, k + 1, h => by
    rw [List.take_succ_cons, List.take_succ_cons, parsT, parsT, parsT_take l (i + 1) k (by simpa using h)]
    simp only [List.getElem_cons_succ, List.append_assoc, show i + 1 + k = i + (k + 1) by omega]
theorem parsT_len_take (l : List N) (i k : Nat) : (parsT i (l.take k)).length ≤ (parsT i l).length := by
  induction l generalizing i k with
  | nil => simp
  | cons x l ih =>
    cases k with
    | zero => simp [parsT]
    | succ k =>
      rw [List.take_succ_cons, parsT, parsT]
      have := ih (i + 1) k
      simp only [List.length_append]
      omega
theorem fnsT_take : ∀ (l : List N) (i k : Nat) (h : k < l.length), fnsT i (l.take (k + 1)) = fnsT i (l.take k) ++ ((if i + k = 0 then [] else [10]) ++ fnT l[k])
  | x :: l, i, 0, h => by simp [fnsT]
  | x :: l, i, k + 1, h => by
    rw [List.take_succ_cons, List.take_succ_cons, fnsT, fnsT, fnsT_take l (i + 1) k (by simpa using h)]
    simp only [List.getElem_cons_succ, List.append_assoc, show i + 1 + k = i + (k + 1) by omega]
theorem fnsT_len_take (l : List N) (i k : Nat) : (fnsT i (l.take k)).length ≤ (fnsT i l).length := by
  induction l generalizing i k with
  | nil => simp
  | cons x l ih =>
    cases k with
    | zero => simp [fnsT]
    | succ k =>
      rw [List.take_succ_cons, fnsT, fnsT]
      have := ih (i + 1) k
      simp only [List.length_append]
      omega
set_option maxRecDepth 20000 in
set_option maxHeartbeats 1000000 in
theorem w_par (n : N) (v : Value) (W : World) (b : Nat) (s : List UInt8) (i : Int) (ok : Nat → Prop) (hv : RdN ok W v n) (hB : BldSt b s W) (hroom : s.length + n.text.length ≤ 70368744177664) :
    Calls Tryd.prog 25 #[.agg #[.pointer (some ⟨b, 0, none⟩), .int .i64 i], v] W fun e W' => e = .returned (.tuple #[]) ∧ BldTo b (s ++ n.text) W W' := by
  obtain ⟨A, c, B, d, K, e, rfl, hn⟩ := hv.form
  have HT0 := Lib.hid (BldTo.of hB (two_al W (.cells #[.pointer (some ⟨b, 0, none⟩), .int .i64 i] 45) (boxN n A c B d K e)))
  have HW0 := Lib.hid (show HeldW W.heap.size b i ((W.alloc (.cells #[.pointer (some ⟨b, 0, none⟩), .int .i64 i] 45)).alloc (boxN n A c B d K e)) from Held.below (Held.at rfl) (one_al _ _))
  have HX0 := Lib.hid (show HeldN (W.heap.size + 1) _ _ _ _ _ _ _ _ _ _ ((W.alloc (.cells #[.pointer (some ⟨b, 0, none⟩), .int .i64 i] 45)).alloc (boxN n A c B d K e)) from Held.at (by simp))
  have Hrm := Lib.hid hroom
  clear hv hn hB hroom
  go_enter Tryd.func25, Tryd.ntmps25
  obtain ⟨q0, q1⟩ := HeldW.facts HW0.out
  obtain ⟨x0, x1, x2, x3, x4, x5, x6, x7, x8, x9⟩ := HeldN.facts HX0.out
  go_wp2_with fail
  refine (bld_String b s n.text _ HT0.out.st (by have := Hrm.out; omega)).mono ?_
  rintro e1 w1 ⟨rfl, hT⟩
  have HT1 := Lib.hid (HT0.out.trans hT)
  clear hT q0 q1 x0 x1 x2 x3 x4 x5 x6 x7 x8 x9
  go_wp2_with fail
  go_end0
  exact ⟨rfl, HT1.out⟩
set_option maxRecDepth 20000 in
set_option maxHeartbeats 4000000 in
theorem w_rowp (l : List N) (K : Option Addr) (e : Nat) (W : World) (b : Nat) (s : List UInt8) (i : Int) (hl : RdNs (fun k => k < b) W (.slice K l.length e) 0 l) (hlen : l.length ≤ 16777216) (hB : BldSt b s W) (hroom : s.length + (parsT 0 l).length ≤ 70368744177664) :
    Calls Tryd.prog 24 #[.agg #[.pointer (some ⟨b, 0, none⟩), .int .i64 i], .slice K l.length e, .func (.func 25) #[] #[]] W fun e W' => e = .returned (.tuple #[]) ∧ BldTo b (s ++ parsT 0 l) W W' := by
  have HL := Lib.hid hl
  have HB := Lib.hid hB
  have Hroom := Lib.hid hroom
  have HW := Lib.hid (show HeldW W.heap.size b i (W.alloc (.cells #[.pointer (some ⟨b, 0, none⟩), .int .i64 i] 45)) from Held.at rfl)
  have Hbw := Lib.hid hB.lt
  clear hl hB hroom
  go_enter Tryd.func24, Tryd.ntmps24
  go_wp2_with fail
  go_loopw [10] (fun j wr => ∃ k, k ≤ l.length ∧ j = .int .i64 (k : Int) ∧ BldTo b (s ++ parsT 0 (l.take k)) W wr ∧ HeldW W.heap.size b i wr) (fun j _ => l.length - (intOf j).toNat)
  case atStart => exact ⟨0, Nat.zero_le _, rfl, by rw [List.take_zero, parsT, List.append_nil]; exact BldTo.of HB.out (one_al _ _), HW.out⟩
  case round =>
    obtain ⟨k, hk, rfl, hT, hW⟩ := hrel
    have HT := Lib.hid hT
    have HW2 := Lib.hid hW
    clear hT hW
    obtain ⟨q0, q1⟩ := HW2.out.al
    by_cases hlt : k < l.length
    · have hlA : (k : Int) < (l.length : Int) := by omega
      have h00 : (0 : Int) ≤ (k : Int) := by omega
      have hst := parsT_take l 0 k hlt
      have hln := parsT_len_take l 0 (k + 1)
      rw [Nat.zero_add] at hst
      have hmem := List.getElem_mem hlt
      have HC := Lib.hid (fun (v : Value) (W1 : World) (s1 : List UInt8) (hv1 : RdN (fun k => k < b) W1 v l[k]) (hB1 : BldSt b s1 W1) (hr1 : s1.length + l[k].text.length ≤ 70368744177664) => w_par l[k] v W1 b s1 i (fun k => k < b) hv1 hB1 hr1)
      obtain ⟨g, off, A', c', B', d', K', e', rfl, _, hk', k0, k1, k2, k3, k4, k5, k6, k7, k8, k9⟩ := (HL.out.lo HT.out.bel).elem k hlt
      generalize l[k] = Y at *
      generalize parsT 0 (l.take k) = r at *
      have HS := Lib.hid hst
      have Hln := Lib.hid hln
      have HY := Lib.hid hk'.rd
      clear hk' hst hln hmem
      have HX := Lib.hid (show HeldN wr.heap.size _ _ _ _ _ _ _ _ _ _ (wr.alloc (boxN Y A' c' B' d' K' e')) from Held.at rfl)
      have HT1 := Lib.hid (HT.out.al (boxN Y A' c' B' d' K' e'))
      have HW1 := Lib.hid (HW2.out.below (one_al wr (boxN Y A' c' B' d' K' e')))
      have Hbk := Lib.hid (show b < wr.heap.size from HT.out.st.lt)
      have HYa := Lib.hid (HY.out.below (one_al wr (boxN Y A' c' B' d' K' e')))
      by_cases hk0 : k = 0
      · have hpos : ¬ (0 : Int) < (k : Int) := by omega
        have HS' := Lib.hid (show parsT 0 (l.take (k + 1)) = r ++ Y.text by rw [HS.out, if_pos hk0]; rfl)
        clear hk0
        have hrm : (s ++ r).length + (Y.text).length ≤ 70368744177664 := by
          have h1 := Hroom.out
          have h2 := Hln.out
          rw [HS'.out] at h2
          simp only [List.length_append] at h2 ⊢
          omega
        have Hrm := Lib.hid hrm
        clear hrm
        go_wp2_with fail
        refine (HC.out _ _ (s ++ r) HYa.out HT1.out.st Hrm.out).mono ?_
        rintro e1 w1 ⟨rfl, hT2⟩
        have HT2 := Lib.hid (HT1.out.trans hT2)
        have HW3 := Lib.hid (HeldW.to HW1.out Hbw.out hT2)
        clear hT2 k0 k1 k2 k3 k4 k5 k6 k7 k8 k9 q0 q1
        go_wp2_with fail
        exact ⟨⟨k + 1, by omega, by go_num, by rw [HS'.out, ← List.append_assoc]; exact HT2.out, HW3.out⟩, by simp [intOf]; omega⟩
      · have hpos : (0 : Int) < (k : Int) := by omega
        have HS' := Lib.hid (show parsT 0 (l.take (k + 1)) = r ++ ([44, 32] ++ Y.text) by rw [HS.out, if_neg hk0])
        clear hk0
        have hrm : (s ++ r ++ [44, 32]).length + (Y.text).length ≤ 70368744177664 := by
          have h1 := Hroom.out
          have h2 := Hln.out
          rw [HS'.out] at h2
          simp only [List.length_append] at h2 ⊢
          omega
        have Hrm := Lib.hid hrm
        clear hrm
        go_wp2_with fail
        refine (bld_String b (s ++ r) [44, 32] _ HT1.out.st (by have := Hrm.out; simp only [List.length_append] at this ⊢; omega)).mono ?_
        rintro e1 w1 ⟨rfl, hT2⟩
        have HT2 := Lib.hid (HT1.out.trans hT2)
        have HW3 := Lib.hid (HeldW.to HW1.out Hbw.out hT2)
        have HX3 := Lib.hid (HeldN.to HX.out Hbk.out hT2)
        have HYb := Lib.hid (HYa.out.lo hT2.bel)
        clear hT2 k0 k1 k2 k3 k4 k5 k6 k7 k8 k9 q0 q1
        obtain ⟨q0, q1⟩ := HW3.out.facts
        obtain ⟨x0, x1, x2, x3, x4, x5, x6, x7, x8, x9⟩ := HX3.out.facts
        go_wp2_with fail
        refine (HC.out _ _ (s ++ r ++ [44, 32]) HYb.out HT2.out.st Hrm.out).mono ?_
        rintro e1 w2 ⟨rfl, hT3⟩
        have HT3 := Lib.hid (HT2.out.trans hT3)
        have HW4 := Lib.hid (HeldW.to HW3.out Hbw.out hT3)
        clear hT3 x0 x1 x2 x3 x4 x5 x6 x7 x8 x9 q0 q1
        go_wp2_with fail
        exact ⟨⟨k + 1, by omega, by go_num, by rw [HS'.out, ← List.append_assoc, ← List.append_assoc]; exact HT3.out, HW4.out⟩, by simp [intOf]; omega⟩
    · have hlA : ¬ (k : Int) < (l.length : Int) := by omega
      have hkk : l.take k = l := List.take_of_length_le (by omega)
      rw [hkk] at HT
      clear hkk
      go_wp2_with fail
      go_end0
      exact ⟨rfl, HT.out⟩
end Go.Proofs.YthlfeiiolafonaaDoor
