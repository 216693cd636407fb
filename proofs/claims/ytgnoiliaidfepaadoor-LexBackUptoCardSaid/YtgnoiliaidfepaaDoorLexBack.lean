/- The walk of LexBack. -/
import Derived.Test.YtgnoiliaidfepaaDoorLexAhead
import Derived.Test.YtgnoiliaidfepaaDoorLexRound
import Derived.Test.YtgnoiliaidfepaaDoorLexQuoteP
import Derived.BigQuiet
set_option linter.unusedVariables false
set_option linter.unusedSimpArgs false
namespace Go.Proofs.YtgnoiliaidfepaaDoor
open Go.RowKit Go.IntWalk

def frame (a : Nat) : List UInt8 := frames.getD a []
theorem frame_in {a : Nat} (h : a < 5) : frame a ∈ frames := by
  match a, h with
  | 0, _ | 1, _ | 2, _ | 3, _ | 4, _ => simp [frame, frames]
theorem frame_cell (w : World) {a : Nat} (h : a < 5) : (w.alloc (.cells #[.string ⟨#[]⟩, .string ⟨#[32]⟩, .string ⟨#[10, 9]⟩, .string ⟨#[47, 47, 32, 34, 120, 10]⟩, .string ⟨#[13, 32, 10]⟩] 43)).cell? ⟨w.heap.size, a, none⟩ = some (.string ⟨(frame a).toArray⟩) := by
  rw [World.cell?_alloc_at _ _ _ _ rfl]
  match a, h with
  | 0, _ | 1, _ | 2, _ | 3, _ | 4, _ => rfl

theorem tmod5 (x : Int) : ∃ a : Nat, a < 5 ∧ ((0 < a ∧ x.tmod 5 = -(a : Int)) ∨ x.tmod 5 = (a : Int)) := by
  have h1 := Int.tmod_lt_of_pos x (show (0 : Int) < 5 by omega)
  have h2 := Int.neg_tmod x 5
  have h3 := Int.tmod_lt_of_pos (-x) (show (0 : Int) < 5 by omega)
  by_cases h : 0 ≤ x.tmod 5
  · exact ⟨(x.tmod 5).toNat, by omega, .inr (by omega)⟩
  · exact ⟨(-(x.tmod 5)).toNat, by omega, .inl ⟨by omega, by omega⟩⟩
theorem quoteS_len (l : List UInt8) : (quoteS l).length ≤ 4 * l.length + 2 := by
  have := quoteL_le l
  simp only [quoteS, List.length_cons, List.length_append, List.length_nil]
  omega
theorem frame_len {x : List UInt8} (h : x ∈ frames) : x.length ≤ 6 := (show ∀ x ∈ frames, x.length ≤ 6 by decide) x h

set_option maxRecDepth 20000 in
set_option maxHeartbeats 1000000 in
theorem law_LexBack (s : ByteArray) (ahead hind : Int) (w : World) (hs : s.size ≤ 1048576) (hW : Hid (LexW w)) :
    Calls Tryd.prog 7 #[.string s, .int .i64 ahead, .int .i64 hind] w fun e w' => e = .returned (.bool true) ∧ Below w.heap.size w w' := by
  obtain ⟨a, ha5, ha⟩ := tmod5 ahead
  obtain ⟨b, hb5, hb⟩ := tmod5 hind
  have hia : (a : Int) < 5 := by omega
  have hib : (b : Int) < 5 := by omega
  have hfa := frame_cell w ha5
  have hfb := frame_cell w hb5
  have HQ := Lib.hid (lex_Quote s)
  rcases ha with ⟨ha0, ha⟩ | ha <;> rcases hb with ⟨hb0, hb⟩ | hb
  all_goals
    go_enter Tryd.func7, Tryd.ntmps7
    go_wp2_with fail
    refine (HQ.out _ hs).mono ?_
    rintro e w1 ⟨rfl, hb1⟩
    have c1 := bcell hb1 hfa
    have c2 := bcell hb1 hfb
    have HB := Lib.hid (bthen ((Below.refl _ _).alloc (Nat.le_refl _) _) hb1)
    have HW1 := Lib.hid (hW.out.below HB.out)
    have hq := quoteS_len s.data.toList
    rw [data_len] at hq
    have HFa := Lib.hid (frame_in ha5)
    have HFb := Lib.hid (frame_in hb5)
    have HS := Lib.hid (fun ha hb => allS_back (a := frame a) (b := frame b) (s := s.data.toList) ha hb)
    generalize frame a = fa at *
    generalize frame b = fb at *
    generalize quoteS s.data.toList = q at *
    have hla := frame_len HFa.out
    have hlb := frame_len HFb.out
    have hadd1 := fun W => run_string_add_lists (P := Tryd.prog) W fa q (by omega) (by omega)
    have hadd2 := fun W => run_string_add_lists (P := Tryd.prog) W (fa ++ q) fb (by rw [List.length_append]; omega) (by omega)
    clear hb1 hfa hfb
    go_wp2
    go_quiet (fail)
    go_wp2_with fail
    have hA0 := HS.out HFa.out HFb.out
    rw [List.append_assoc] at hA0
    have hLb : (fa ++ (q ++ fb)).length ≤ 8388608 := by simp only [List.length_append]; omega
    generalize fa ++ (q ++ fb) = L at *
    have HW2 := Lib.hid (HW1.out.below (below_drewN w1 nq))
    have HB2 := Lib.hid (bthen HB.out (below_drewN w1 nq))
    have hLz : (⟨L.toArray⟩ : ByteArray).size = L.length := by simp [ByteArray.size]
    have c3 : (w1.drewN nq).cell? ⟨w.heap.size, a, none⟩ = some (.string ⟨fa.toArray⟩) := c1
    clear hadd1 hadd2 HQ HS c1 c2 HB HW1
    generalize w1.drewN nq = w2 at *
    by_cases h1 : 8192 < L.length
    · rw [if_pos h1] at hA0
      refine (allErr ⟨L.toArray⟩ (by omega) hA0 _ HW2.out).mono ?_
      rintro e w3 ⟨rfl, hb3⟩
      have hA := Lib.hid hA0
      have h1' : (8192 : Int) < (L.length : Int) := by omega
      clear hA0 hLz
      go_wp2_with (go_at_call 18; refine (law_shown _ (HW2.out.below hb3)).mono ?_; rintro e w4 ⟨rfl, hb4⟩)
      go_ret
      exact ⟨rfl, bthen (bthen HB2.out hb3) hb4⟩
    · rw [if_neg h1] at hA0
      by_cases h2 : 2047 < s.data.toList.length
      · rw [if_pos h2] at hA0
        refine (allErr ⟨L.toArray⟩ (by omega) hA0 _ HW2.out).mono ?_
        rintro e w3 ⟨rfl, hb3⟩
        have hA := Lib.hid hA0
        have h1' : ¬ (8192 : Int) < (L.length : Int) := by omega
        rw [data_len] at h2
        have h2' : (2047 : Int) < (s.size : Int) := by omega
        have c4 := bcell hb3 c3
        clear hA0 hLz h1 h2 c3
        go_wp2_with (go_at_call 18; refine (law_shown _ (HW2.out.below hb3)).mono ?_; rintro e w4 ⟨rfl, hb4⟩; have c5 := bcell hb4 c4)
        go_ret
        exact ⟨rfl, bthen (bthen HB2.out hb3) hb4⟩
      · rw [if_neg h2] at hA0
        refine (allOk ⟨L.toArray⟩ (by omega) hA0 _ HW2.out).mono ?_
        rintro e w3 ⟨g, rfl, hb3, hr3⟩
        have hA := Lib.hid hA0
        have h1' : ¬ (8192 : Int) < (L.length : Int) := by omega
        rw [data_len] at h2
        have h2' : ¬ (2047 : Int) < (s.size : Int) := by omega
        have c4 := bcell hb3 c3
        clear hA0 hLz h1 h2 c3
        go_wp2_with (go_at_call 18; refine (law_shown _ (HW2.out.below hb3)).mono ?_; rintro e w4 ⟨rfl, hb4⟩; have c5 := bcell hb4 c4; have HR := Lib.hid (hr3.out.below hb4); have HB4 := Lib.hid (bthen (bthen HB2.out hb3) hb4); clear hb3 hb4 hr3 c4)
        obtain ⟨g0, g1, g2, g3⟩ := HR.out.at 0 (by simp)
        obtain ⟨k0, k1, k2, k3⟩ := HR.out.at 1 (by simp)
        simp only [tAt, List.getD_cons_zero, List.getD_cons_succ, ba_eta] at g0 g1 g2 g3 k0 k1 k2 k3
        have q1 : ∀ W, (binOp .eql 41 (.agg #[.int .i64 4, .string s, .int .i64 0, .int .i64 (fa.length : Int)]) (.agg #[.int .i64 4, .string s, .int .i64 0, .int .i64 (fa.length : Int)])).run Tryd.prog W = .ok (.bool true) W := by
          intro W
          have := tok_eql ⟨4, s.data.toList, 0, fa.length⟩ ⟨4, s.data.toList, 0, fa.length⟩ W
          simp only [tokA, ba_eta] at this
          rw [show tokEq ⟨4, s.data.toList, 0, fa.length⟩ ⟨4, s.data.toList, 0, fa.length⟩ = true by simp [tokEq]] at this
          exact this
        have q2 : ∀ W, (binOp .eql 41 (.agg #[.int .i64 0, .string ⟨#[]⟩, .int .i64 0, .int .i64 (L.length : Int)]) (.agg #[.int .i64 0, .string ⟨#[]⟩, .int .i64 0, .int .i64 (L.length : Int)])).run Tryd.prog W = .ok (.bool true) W := by
          intro W
          have := tok_eql ⟨0, [], 0, L.length⟩ ⟨0, [], 0, L.length⟩ W
          rw [show tokEq ⟨0, [], 0, L.length⟩ ⟨0, [], 0, L.length⟩ = true by simp [tokEq]] at this
          exact this
        have hgu := tok_guard
        clear HW2 HFa HFb hla hlb
        go_quiet (fail)
        go_wp2
        go_ret
        exact ⟨rfl, bthen HB4.out (below_drewN _ _)⟩
end Go.Proofs.YtgnoiliaidfepaaDoor
