/- Contracts of the reference's IsExpr, isStatement, all, Binds, rank, least, bracket. -/
import Derived.Test.YthlfeiiolafonaaGreatDoorPrintLeaf
import Derived.Deep.DeepCutAuto
import Derived.Deep.RegionWith
import Derived.BigQuiet
set_option linter.unusedVariables false
set_option linter.unusedSimpArgs false
namespace Go.Proofs.YthlfeiiolafonaaGreatDoor
open Go.RowKit Go.IntWalk

theorem rf_IsExpr (k : Int) (w : World) : Calls Tryz.prog 27 #[.int .i64 k] w fun e w' => e = .returned (.bool (exprK k)) ∧ w' = w := by
  go_enter Tryz.func27, Tryz.ntmps27
  go_wp2
  all_goals go_ret
  all_goals (refine ⟨ret_bool ?_, rfl⟩; rw [Bool.eq_iff_iff]; simp [exprK]; omega)
theorem rf_isStatement (k : Int) (w : World) : Calls Tryz.prog 87 #[.int .i64 k] w fun e w' => e = .returned (.bool (stmtK k)) ∧ w' = w := by
  go_enter Tryz.func87, Tryz.ntmps87
  go_wp2
  all_goals go_ret
  all_goals (refine ⟨ret_bool ?_, rfl⟩; rw [Bool.eq_iff_iff]; simp [stmtK]; omega)
theorem all_take_step {l : List N} {k : Nat} (h : k < l.length) (p : N → Bool) : (l.take (k + 1)).all p = ((l.take k).all p && p l[k]) := by
  rw [← List.take_append_getElem h, List.all_append]
  simp
theorem all_at {l : List N} {k : Nat} (h : k < l.length) {p : N → Bool} (hp : p l[k] = false) : l.all p = false := by
  rw [List.all_eq_false]
  exact ⟨l[k], List.getElem_mem h, by rw [hp]; simp⟩
set_option maxRecDepth 20000 in
set_option maxHeartbeats 2000000 in
theorem rf_all (l : List N) (kd : Int) (K : Option Addr) (e : Nat) (ok : Nat → Prop) (w : World) (hl : RdNs ok w (.slice K l.length e) 0 l) (hlen : l.length ≤ 16777216) :
    Calls Tryz.prog 86 #[.slice K l.length e, .int .i64 kd] w fun e1 w' => e1 = .returned (.bool (l.all fun n => n.kind == kd)) ∧ w' = w := by
  have HL := Lib.hid hl
  clear hl
  go_enter Tryz.func86, Tryz.ntmps86
  go_wp2_with fail
  go_loopw [5] (fun i wr => ∃ k, k ≤ l.length ∧ i = .int .i64 (k : Int) ∧ (l.take k).all (fun n => n.kind == kd) = true ∧ wr = w) (fun i _ => l.length - (intOf i).toNat)
  case atStart => exact ⟨0, Nat.zero_le _, rfl, rfl, rfl⟩
  case round =>
    obtain ⟨k, hk, rfl, hno, rfl⟩ := hrel
    have HNo := Lib.hid hno
    clear hno
    by_cases hlt : k < l.length
    · have hlA : (k : Int) < (l.length : Int) := by omega
      have h00 : (0 : Int) ≤ (k : Int) := by omega
      have hst := all_take_step hlt (fun n => n.kind == kd)
      have hat := fun h => all_at (p := fun n => n.kind == kd) hlt h
      obtain ⟨g, off, A', c', B', d', K', e', rfl, _, hk', k0, _⟩ := HL.out.elem k hlt
      generalize l[k] = Y at *
      have HST := Lib.hid hst
      have HAT := Lib.hid hat
      clear hk' hst hat
      cases hy : (Y.kind != kd) with
      | true =>
        have HY := Lib.hid (show (Y.kind == kd) = false by simpa using hy)
        go_wp2_with fail
        go_ret
        exact ⟨ret_bool (HAT.out HY.out).symm, rfl⟩
      | false =>
        have HY := Lib.hid (show (Y.kind == kd) = true by simpa using hy)
        go_wp2_with fail
        exact ⟨⟨k + 1, by omega, by go_num, by rw [HST.out, HNo.out, HY.out]; rfl, trivial⟩, by simp [intOf]; omega⟩
    · have hlA : ¬ (k : Int) < (l.length : Int) := by omega
      have hkk : l.take k = l := List.take_of_length_le (by omega)
      rw [hkk] at HNo
      clear hkk
      go_wp2_with fail
      go_ret
      exact ⟨ret_bool HNo.out.symm, rfl⟩
/-- the rows of signs -/
def signs : List (List (List UInt8)) := [[[124, 124]], [[38, 38]], [[61, 61], [33, 61], [60], [60, 61], [62], [62, 61]], [[43], [45]], [[42], [47], [37]]]
theorem bindS_at (t : List UInt8) (i : Nat) (hi : i < 5) (j : Nat) (hj : j < (signs.getD i []).length) (h : (signs.getD i []).getD j [] = t) : bindS t = (i : Int) + 1 := by
  have hi' : i = 0 ∨ i = 1 ∨ i = 2 ∨ i = 3 ∨ i = 4 := by omega
  rcases hi' with rfl | rfl | rfl | rfl | rfl <;> simp [signs] at hj h <;> (have hj' : j = 0 ∨ j = 1 ∨ j = 2 ∨ j = 3 ∨ j = 4 ∨ j = 5 := by omega) <;> rcases hj' with rfl | rfl | rfl | rfl | rfl | rfl <;> first | omega | (simp at h; subst h; decide)
theorem bindS_none (t : List UInt8) (h : ∀ i, i < 5 → ∀ j, j < (signs.getD i []).length → (signs.getD i []).getD j [] ≠ t) : bindS t = 0 := by
  have a0 := h 0 (by decide) 0 (by decide)
  have a1 := h 1 (by decide) 0 (by decide)
  have b0 := h 2 (by decide) 0 (by decide)
  have b1 := h 2 (by decide) 1 (by decide)
  have b2 := h 2 (by decide) 2 (by decide)
  have b3 := h 2 (by decide) 3 (by decide)
  have b4 := h 2 (by decide) 4 (by decide)
  have b5 := h 2 (by decide) 5 (by decide)
  have c0 := h 3 (by decide) 0 (by decide)
  have c1 := h 3 (by decide) 1 (by decide)
  have d0 := h 4 (by decide) 0 (by decide)
  have d1 := h 4 (by decide) 1 (by decide)
  have d2 := h 4 (by decide) 2 (by decide)
  simp [signs] at a0 a1 b0 b1 b2 b3 b4 b5 c0 c1 d0 d1 d2
  simp [bindS, Ne.symm a0, Ne.symm a1, Ne.symm b0, Ne.symm b1, Ne.symm b2, Ne.symm b3, Ne.symm b4, Ne.symm b5, Ne.symm c0, Ne.symm c1, Ne.symm d0, Ne.symm d1, Ne.symm d2]
/-- what Binds' own rows hold -/
structure RowsAt (b : Nat) (W : World) : Prop where
  outer : ∀ i, i < 5 → W.cell? ⟨b + 1 + 1 + 1 + 1 + 1, i, none⟩ = some (.slice (some ⟨b + i, 0, none⟩) (signs.getD i []).length (signs.getD i []).length)
  inner : ∀ i j, i < 5 → j < (signs.getD i []).length → W.cell? ⟨b + i, j, none⟩ = some (.string ⟨((signs.getD i []).getD j []).toArray⟩)
abbrev rowsW (w : World) : World := ((((((w.alloc (.cells #[.string ⟨#[124, 124]⟩] 9)).alloc (.cells #[.string ⟨#[38, 38]⟩] 9)).alloc (.cells #[.string ⟨#[61, 61]⟩, .string ⟨#[33, 61]⟩, .string ⟨#[60]⟩, .string ⟨#[60, 61]⟩, .string ⟨#[62]⟩, .string ⟨#[62, 61]⟩] 9)).alloc (.cells #[.string ⟨#[43]⟩, .string ⟨#[45]⟩] 9)).alloc (.cells #[.string ⟨#[42]⟩, .string ⟨#[47]⟩, .string ⟨#[37]⟩] 9)).alloc (.cells #[.slice (some ⟨w.heap.size, 0, none⟩) 1 1, .slice (some ⟨w.heap.size + 1, 0, none⟩) 1 1, .slice (some ⟨w.heap.size + 1 + 1, 0, none⟩) 6 6, .slice (some ⟨w.heap.size + 1 + 1 + 1, 0, none⟩) 2 2, .slice (some ⟨w.heap.size + 1 + 1 + 1 + 1, 0, none⟩) 3 3] 24))
theorem rows_made (w : World) : RowsAt w.heap.size (rowsW w) := by
  constructor
  · intro i hi
    have hi' : i = 0 ∨ i = 1 ∨ i = 2 ∨ i = 3 ∨ i = 4 := by omega
    rcases hi' with rfl | rfl | rfl | rfl | rfl <;> exact (World.cell?_alloc_at _ _ _ _ (by simp)).trans rfl
  · intro i j hi hj
    have hi' : i = 0 ∨ i = 1 ∨ i = 2 ∨ i = 3 ∨ i = 4 := by omega
    rcases hi' with rfl | rfl | rfl | rfl | rfl <;> simp only [signs, List.getD_cons_zero, List.getD_cons_succ, List.length_cons, List.length_nil] at hj
    · obtain rfl : j = 0 := by omega
      exact bcell (one_al _ _) (bcell (one_al _ _) (bcell (one_al _ _) (bcell (one_al _ _) (bcell (one_al _ _) ((World.cell?_alloc_at _ _ _ _ (by simp)).trans rfl)))))
    · obtain rfl : j = 0 := by omega
      exact bcell (one_al _ _) (bcell (one_al _ _) (bcell (one_al _ _) (bcell (one_al _ _) ((World.cell?_alloc_at _ _ _ _ (by simp)).trans rfl))))
    · have hj' : j = 0 ∨ j = 1 ∨ j = 2 ∨ j = 3 ∨ j = 4 ∨ j = 5 := by omega
      rcases hj' with rfl | rfl | rfl | rfl | rfl | rfl <;> exact bcell (one_al _ _) (bcell (one_al _ _) (bcell (one_al _ _) ((World.cell?_alloc_at _ _ _ _ (by simp)).trans rfl)))
    · have hj' : j = 0 ∨ j = 1 := by omega
      rcases hj' with rfl | rfl <;> exact bcell (one_al _ _) (bcell (one_al _ _) ((World.cell?_alloc_at _ _ _ _ (by simp)).trans rfl))
    · have hj' : j = 0 ∨ j = 1 ∨ j = 2 := by omega
      rcases hj' with rfl | rfl | rfl <;> exact bcell (one_al _ _) ((World.cell?_alloc_at _ _ _ _ (by simp)).trans rfl)
theorem rowsW_below (w : World) : Below w.heap.size w (rowsW w) := bthen (bthen (bthen (bthen (bthen (one_al _ _) (one_al _ _)) (one_al _ _)) (one_al _ _)) (one_al _ _)) (one_al _ _)
theorem signs_len (i : Nat) : (signs.getD i []).length ≤ 6 := by
  match i with
  | 0 | 1 | 2 | 3 | 4 => decide
  | n + 5 => simp [signs]
set_option maxRecDepth 20000 in
set_option maxHeartbeats 4000000 in
theorem rf_Binds (t : List UInt8) (w : World) : Calls Tryz.prog 84 #[.string ⟨t.toArray⟩] w fun e w' => e = .returned (.int .i64 (bindS t)) ∧ Below w.heap.size w w' := by
  have HR := Lib.hid (rows_made w)
  have HB := Lib.hid (rowsW_below w)
  go_enter Tryz.func84, Tryz.ntmps84
  go_wp2_with fail
  go_loopw [4] (fun i wr => ∃ k : Nat, k ≤ 5 ∧ i = .int .i64 (k : Int) ∧ (∀ a, a < k → ∀ j, j < (signs.getD a []).length → (signs.getD a []).getD j [] ≠ t) ∧ wr = rowsW w) (fun i _ => 5 - (intOf i).toNat)
  case atStart => exact ⟨0, by omega, rfl, fun a h => absurd h (Nat.not_lt_zero a), rfl⟩
  case round =>
    obtain ⟨k, hk, rfl, hno, rfl⟩ := hrel
    have HNo := Lib.hid hno
    clear hno
    by_cases hlt : k < 5
    · have hlA : (k : Int) < 5 := by omega
      have h00 : (0 : Int) ≤ (k : Int) := by omega
      have hout := HR.out.outer k hlt
      have HIn := Lib.hid (fun j hj => HR.out.inner k j hlt hj)
      have HAt := Lib.hid (fun j hj h => bindS_at t k hlt j hj h)
      have hn6 := signs_len k
      have HNext := Lib.hid (fun (h : ∀ c, c < (signs.getD k []).length → (signs.getD k []).getD c [] ≠ t) => (show ∀ a, a < k + 1 → ∀ j, j < (signs.getD a []).length → (signs.getD a []).getD j [] ≠ t from fun a ha j hj => by
        by_cases hak : a = k
        · subst hak; exact h j hj
        · exact HNo.out a (by omega) j hj))
      generalize (signs.getD k []).length = n at *
      generalize signs.getD k [] = row at *
      clear HR
      go_wp2_with fail
      go_loopw [5] (fun j wr => ∃ q : Nat, q ≤ n ∧ j = .int .i64 (q : Int) ∧ (∀ c, c < q → row.getD c [] ≠ t) ∧ wr = rowsW w) (fun j _ => n - (intOf j).toNat)
      case atStart => exact ⟨0, Nat.zero_le _, rfl, fun c h => absurd h (Nat.not_lt_zero c), rfl⟩
      case round =>
        obtain ⟨q, hq, rfl, hnq, rfl⟩ := hrel
        have HNq := Lib.hid hnq
        clear hnq
        by_cases hqn : q < n
        · have hqA : (q : Int) < (n : Int) := by omega
          have q00 : (0 : Int) ≤ (q : Int) := by omega
          have hcell := HIn.out q hqn
          have HA := Lib.hid (HAt.out q hqn)
          have HStep := Lib.hid (fun (h : row.getD q [] ≠ t) => (show ∀ c, c < q + 1 → row.getD c [] ≠ t from fun c hc => by
            by_cases hcq : c = q
            · subst hcq; exact h
            · exact HNq.out c (by omega)))
          generalize row.getD q [] = x at *
          cases he : (x == t) with
          | true =>
            have HE := Lib.hid (show x = t by simpa using he)
            go_wp2_with fail
            go_ret
            exact ⟨ret_int (HA.out HE.out).symm, HB.out⟩
          | false =>
            have HE := Lib.hid (show x ≠ t by simpa using he)
            go_wp2_with fail
            exact ⟨⟨q + 1, by omega, by go_num, HStep.out HE.out, by trivial⟩, by simp [intOf]; omega⟩
        · have hqA : ¬ (q : Int) < (n : Int) := by omega
          go_wp2_with fail
          exact ⟨⟨k + 1, by omega, by go_num, HNext.out fun c hc => HNq.out c (by omega), by trivial⟩, by simp [intOf]; omega⟩
    · have hlA : ¬ (k : Int) < 5 := by omega
      go_wp2_with fail
      go_ret
      exact ⟨ret_int (bindS_none t fun i hi j hj => HNo.out i (by omega) j hj).symm, HB.out⟩
set_option maxHeartbeats 1000000 in
theorem rf_rank (n : N) (v : Value) (ok : Nat → Prop) (w : World) (hv : RdN ok w v n) : Calls Tryz.prog 111 #[v] w fun e w' => e = .returned (.int .i64 (bindingS n)) ∧ Below w.heap.size w w' := by
  obtain ⟨A, c, B, d, K, e, rfl, hn⟩ := hv.form
  go_enter Tryz.func111, Tryz.ntmps111
  go_wp2_with (first | (go_at_call 84; refine (rf_Binds n.text _).mono ?_; rintro e w1 ⟨rfl, hb⟩; have HB := Lib.hid hb; clear hb) | fail)
  all_goals go_wp2_with fail
  all_goals go_ret
  all_goals (refine ⟨ret_int ?_, by first | exact bthen (one_al _ _) HB.out | exact one_al _ _⟩; unfold bindingS; simp_all)
def leastS (n : N) (i : Nat) : Int := if n.kind = 16 then 6 else if n.kind = 21 ∨ n.kind = 22 then (if i = 0 then 7 else 0) else if n.kind = 17 then (if i = 1 ∨ bindS n.text = 3 then bindS n.text + 1 else bindS n.text) else 0
theorem bindS_range (t : List UInt8) : 0 ≤ bindS t ∧ bindS t ≤ 5 := by unfold bindS; split <;> (try split) <;> (try split) <;> (try split) <;> (try split) <;> omega
set_option maxHeartbeats 2000000 in
theorem rf_least (n : N) (i : Nat) (hi : i ≤ 16777216) (v : Value) (ok : Nat → Prop) (w : World) (hv : RdN ok w v n) : Calls Tryz.prog 112 #[v, .int .i64 (i : Int)] w fun e w' => e = .returned (.int .i64 (leastS n i)) ∧ Below w.heap.size w w' := by
  obtain ⟨A, c, B, d, K, e, rfl, hn⟩ := hv.form
  obtain ⟨r0, r5⟩ := bindS_range n.text
  go_enter Tryz.func112, Tryz.ntmps112
  go_wp2_with (first | (go_at_call 84; refine (rf_Binds n.text _).mono ?_; rintro e w1 ⟨rfl, hb⟩; have HB := Lib.hid hb; clear hb) | fail)
  all_goals go_wp2_with fail
  all_goals go_ret
  all_goals (refine ⟨ret_int ?_, by first | exact bthen (one_al _ _) HB.out | exact one_al _ _⟩; unfold leastS; simp_all <;> omega)
theorem bracket_wrap (n : N) (i : Nat) (kid : N) : decide (bindingS kid < leastS n i) = wrapS n i kid := by
  have hb : 0 ≤ bindingS kid := by
    unfold bindingS
    split
    · exact (bindS_range _).1
    · split <;> omega
  rw [Bool.eq_iff_iff]
  unfold wrapS wrapK leastS
  repeat' split
  all_goals simp_all <;> omega
end Go.Proofs.YthlfeiiolafonaaGreatDoor
