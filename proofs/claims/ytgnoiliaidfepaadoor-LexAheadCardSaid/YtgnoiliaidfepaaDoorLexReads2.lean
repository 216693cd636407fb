/- The walk of LexReads. -/
import Derived.Test.YtgnoiliaidfepaaDoorLexReads
set_option linter.unusedVariables false
set_option linter.unusedSimpArgs false
namespace Go.Proofs.YtgnoiliaidfepaaDoor
open Go.RowKit Go.IntWalk

theorem allRun_len {f : Nat} : ∀ {l : List UInt8} {p : Nat} {acc toks : List Tok}, allRun f l p acc = .ok toks → toks.length ≤ acc.length + l.length + 1 := by
  induction f with
  | zero => intro l p acc toks h; simp [allRun] at h
  | succ f ih =>
    intro l p acc toks h
    simp only [allRun] at h
    have h1 := skip_len false l
    split at h
    · injection h with h; rw [← h]; simp
    · rename_i hr
      split at h
      · cases h
      · rename_i k t n m ht
        have := tokS_len hr ht
        have := ih h
        simp only [List.length_append, List.length_cons, List.length_nil, List.length_drop] at this
        omega
theorem allS_len {l : List UInt8} {toks : List Tok} (h : allS l = .ok toks) : toks.length ≤ 8193 ∧ toks ≠ [] := by
  unfold allS at h
  split at h
  · cases h
  · have h1 := allRun_len h
    have h2 := allRun_ok h
    simp only [List.length_nil] at h1
    exact ⟨by omega, h2⟩

theorem allErr (s : ByteArray) (hs : s.size ≤ 9223372036854775807) {p er : Nat} (hA : allS s.data.toList = .error (p, er)) (W : World) (hW : LexW W) :
    Calls Tryd.prog 15 #[.string s] W fun e w' => e = .returned (.tuple #[.slice none 0 0, .int .i64 (p : Int), .int .i64 (er : Int)]) ∧ Below W.heap.size W w' := by
  refine (lex_All s W hs hW).mono fun e w' h => ?_
  rw [hA] at h
  exact ⟨h.2, h.1⟩
theorem refErr (s : ByteArray) (hs : s.size ≤ 9223372036854775807) {p er : Nat} (hA : allS s.data.toList = .error (p, er)) (W : World) :
    Calls Tryd.prog 16 #[.string s] W fun e w' => e = .returned (.tuple #[.slice none 0 0, .int .i64 (p : Int), .int .i64 (er : Int)]) ∧ Below W.heap.size W w' := by
  refine (ref_All s W hs).mono fun e w' h => ?_
  rw [hA] at h
  exact ⟨h.2, h.1⟩
theorem allOk (s : ByteArray) (hs : s.size ≤ 9223372036854775807) {toks : List Tok} (hA : allS s.data.toList = .ok toks) (W : World) (hW : LexW W) :
    Calls Tryd.prog 15 #[.string s] W fun e w' => ∃ g, e = .returned (.tuple #[.slice (some ⟨g, 0, none⟩) toks.length toks.length, .int .i64 0, .int .i64 0]) ∧ Below W.heap.size W w' ∧ Hid (RdT (behind W) w' (.slice (some ⟨g, 0, none⟩) toks.length toks.length) toks) := by
  refine (lex_All s W hs hW).mono fun e w' h => ?_
  rw [hA] at h
  obtain ⟨hb, g, n, h1, h2⟩ := h
  have hn := (RdT.clip h2).1
  subst hn
  exact ⟨g, h1, hb, h2⟩
theorem refOk (s : ByteArray) (hs : s.size ≤ 9223372036854775807) {toks : List Tok} (hA : allS s.data.toList = .ok toks) (W : World) :
    Calls Tryd.prog 16 #[.string s] W fun e w' => ∃ v, e = .returned (.tuple #[v, .int .i64 0, .int .i64 0]) ∧ Below W.heap.size W w' ∧ Hid (RdT (behind W) w' v toks) := by
  refine (ref_All s W hs).mono fun e w' h => ?_
  rw [hA] at h
  obtain ⟨hb, v, h1, h2⟩ := h
  exact ⟨v, h1, hb, h2.rd⟩

theorem rd_range {w w' : World} {g n c : Nat} {l : List Tok} (h : RdT (behind w) w' (.slice (some ⟨g, 0, none⟩) n c) l) : w.heap.size ≤ g ∧ g < w'.heap.size := by
  rcases h.full with ⟨_, h⟩ | ⟨g', cap, hv, ho, _, _, _, hl⟩
  · cases h
  · injection hv with e _ _
    injection e with e
    injection e with e
    subst e
    exact ⟨ho, hl⟩
theorem RdT.fr {ok ok' : Nat → Prop} {w w1 : World} {v : Value} {l : List Tok} (h : RdT ok w v l) (hf : Fr ok' w w1) (hne : ∀ k, k < w.heap.size → ok k → ¬ ok' k) : RdT ok w1 v l := by
  rcases h with h | ⟨g, cap, cur, rfl, ho, hbl, hc, hs, hm, ht⟩
  · exact .inl h
  · refine .inr ⟨g, cap, cur, rfl, ho, ?_, hc, hs, hm, ht⟩
    rw [hf.block g (Array.getElem?_eq_some_iff.1 hbl).1 (hne g (Array.getElem?_eq_some_iff.1 hbl).1 ho)]
    exact hbl
theorem rd_full {ok : Nat → Prop} {w : World} {g n c : Nat} {l : List Tok} (h : RdT ok w (.slice (some ⟨g, 0, none⟩) n c) l) : Full w g l.length := by
  rcases h.full with ⟨_, h⟩ | ⟨g', cap, hv, ho, _, _, hf, hl⟩
  · cases h
  · injection hv with e _ _
    injection e with e
    injection e with e
    subst e
    exact hf
theorem same_refl (v1 v2 : Value) (l : List Tok) (ok1 ok2 : Nat → Prop) (w : World) (h1 : Hid (RdT ok1 w v1 l)) (h2 : Hid (RdT ok2 w v2 l)) (hl : l.length ≤ 1000000) :
    Calls Tryd.prog 17 #[v1, v2] w fun e w' => e = .returned (.bool true) ∧ Below w.heap.size w w' := by
  have h := law_same v1 v2 l l ok1 ok2 w h1 h2 hl hl
  rw [show sameB l l = true from by simp [sameB]] at h
  exact h
theorem same_nil (w : World) :
    Calls Tryd.prog 17 #[.slice none 0 0, .slice none 0 0] w fun e w' => e = .returned (.bool true) ∧ Below w.heap.size w w' :=
  same_refl _ _ [] (fun _ => True) (fun _ => True) w (.inl ⟨rfl, rfl⟩) (.inl ⟨rfl, rfl⟩) (by simp)

set_option maxRecDepth 20000 in
set_option maxHeartbeats 400000 in
theorem law_LexReads (A : Option Addr) (n c : Nat) (xs : List ByteArray) (w : World) (hx : Hid (Strs w A n xs)) (hn : n ≤ 9223372036854775807) (hz : Hid (∀ x ∈ xs, x.size ≤ 9223372036854775807)) (hW : Hid (LexW w)) :
    Calls Tryd.prog 5 #[.slice A n c] w fun e w' => e = .returned (.bool true) ∧ Below w.heap.size w w' := by
  go_enter Tryd.func5, Tryd.ntmps5
  go_wp2
  go_loopw [3] (fun i wr => ∃ k : Nat, k ≤ n ∧ i = .int .i64 k ∧ Below w.heap.size w wr) (fun i _ => n - (intOf i).toNat)
  case atStart => exact ⟨0, Nat.zero_le _, rfl, Below.refl _ _⟩
  case round =>
    obtain ⟨k, hk, rfl, hb⟩ := hrel
    have HWr : Hid (LexW wr) := hW.out.below hb
    by_cases hlt : k < n
    · obtain ⟨ad, rfl, hc⟩ := hx.out.below hb k hlt
      have hsz := sAt_size hx.out hz.out k hlt
      generalize sAt xs k = s at *
      have Hb := Lib.hid hb
      clear hb
      rcases hA : allS s.data.toList with ⟨p, er⟩ | toks
      · have hL1 := fun W hW => allErr s hsz hA W hW
        have hR := fun W => refErr s hsz hA W
        clear hA
        go_wp2_with (first
          | (go_at_call 15; refine (hL1 _ HWr).mono ?_; rintro e w1 ⟨rfl, hb1⟩; have HW1 : Hid (LexW w1) := HWr.out.below hb1; replace hc := bcell hb1 hc; clear HWr)
          | (go_at_call 15; refine (hL1 _ HW1).mono ?_; rintro e w2 ⟨rfl, hb2⟩; replace hc := bcell hb2 hc; clear HW1)
          | (go_at_call 16; refine (hR _).mono ?_; rintro e w3 ⟨rfl, hb3⟩; have HB : Hid (Below w.heap.size w w3) := bthen (bthen (bthen Hb.out hb1) hb2) hb3; clear hc hb1 hb2 hb3)
          | (go_at_call 17; refine (same_nil _).mono ?_; rintro e w4 ⟨rfl, hb4⟩))
        go_loopw [13] (fun j wi => wi = w4 ∧ j = .int .i64 0) (fun _ _ => 0)
        case atStart => exact ⟨rfl, rfl⟩
        case round =>
          obtain ⟨rfl, rfl⟩ := hrel
          go_wp2
          go_loopw [4, 14] (fun v j wi => ∃ q : Nat, q ≤ 9 ∧ j = .int .i64 q ∧ App (behind w3) wi v q ∧ Fr (behind w3) w3 wi) (fun _ j _ => 9 - (intOf j).toNat)
          case atStart => exact ⟨0, by omega, rfl, .inr ⟨[], OwnR.nil _ _ _ _⟩, Fr.of_below hb4⟩
          case round =>
            obtain ⟨q, hq, rfl, hAp, hF⟩ := hrel
            have HAp := Lib.hid hAp
            have HF := Lib.hid hF
            clear hAp hF hb4
            by_cases hq9 : q < 9
            · go_wp2_with (at_builtin; refine wpA_append _ (.int .i64 (-3), .string ⟨#[]⟩, .int .i64 0, .int .i64 0) (.tmp 86) (.tmp 88) rfl rfl _ rfl (by intro u hu; simp at hu; rcases hu with rfl | rfl | rfl <;> rfl) 1 rfl rfl HAp.out HF.out (by omega) (fun j h => Nat.le_trans HF.out.size h) ?_; intro v1 w5 hA1 hF1; clear HAp HF)
              exact ⟨⟨q + 1, by omega, by go_num, hA1, hF1⟩, by simp [intOf]; omega⟩
            · go_wp2_with (go_at_call 17; refine (same_nil _).mono ?_; rintro e w6 ⟨rfl, hb6⟩)
              exact ⟨⟨k + 1, by omega, by go_num, bthen (bthen HB.out (HF.out.to_below fun j hj => by simp [behind]; omega)) hb6⟩, by simp [intOf]; omega⟩
      · have hL1 := fun W hW => allOk s hsz hA W hW
        have hR := fun W => refOk s hsz hA W
        obtain ⟨hlen, hne⟩ := allS_len hA
        clear hA
        go_wp2_with (first
          | (go_at_call 15; refine (hL1 _ HWr).mono ?_; rintro e w1 ⟨g, rfl, hb1, hr1⟩; have HW1 : Hid (LexW w1) := HWr.out.below hb1; replace hc := bcell hb1 hc; clear HWr)
          | (go_at_call 15; refine (hL1 _ HW1).mono ?_; rintro e w2 ⟨g2, rfl, hb2, hr2⟩; replace hc := bcell hb2 hc; clear HW1)
          | (go_at_call 16; refine (hR _).mono ?_; rintro e w3 ⟨v3, rfl, hb3, hr3⟩; have HB : Hid (Below w.heap.size w w3) := bthen (bthen (bthen Hb.out hb1) hb2) hb3; have HR1 := Lib.hid ((hr1.out.below hb2).below hb3); have HR2 := Lib.hid (hr2.out.below hb3); have hg0 := rd_range hr1.out; have hs12 := hb2.size; have hs0 := Hb.out.size; clear hc hb1 hb2 hb3 hr1 hr2)
          | (go_at_call 17; refine (same_refl _ _ toks _ _ _ HR1.out hr3.out (by omega)).mono ?_; rintro e w4 ⟨rfl, hb4⟩))
        have HF4 : Hid (Full w4 g toks.length) := rd_full (HR1.out.below hb4)
        go_loopw [13] (fun j wi => ∃ q : Nat, q ≤ toks.length ∧ j = .int .i64 q ∧ Full wi g toks.length ∧ Fr (fun b => b = g) w3 wi) (fun j _ => toks.length - (intOf j).toNat)
        case atStart => exact ⟨0, by omega, rfl, HF4.out, Fr.of_below hb4⟩
        case round =>
          obtain ⟨q, hq, rfl, hfull, hF⟩ := hrel
          have HFu := Lib.hid hfull
          have HF := Lib.hid hF
          clear hfull hF
          by_cases hql : q < toks.length
          · obtain ⟨⟨x0, c0⟩, z0⟩ := HFu.out (q * 4) (by omega)
            obtain ⟨⟨x1, c1⟩, z1⟩ := HFu.out (q * 4 + 1) (by omega)
            obtain ⟨⟨x2, c2⟩, z2⟩ := HFu.out (q * 4 + 2) (by omega)
            obtain ⟨⟨x3, c3⟩, z3⟩ := HFu.out (q * 4 + 3) (by omega)
            have hbA : (q : Int) < (toks.length : Int) := by omega
            go_wp2
            exact ⟨⟨q + 1, by omega, by go_num, (((HFu.out.set _ _).set _ _).set _ _).set _ _, (((HF.out.setCell rfl _).setCell rfl _).setCell rfl _).setCell rfl _⟩, by simp [intOf]; omega⟩
          · have hgw : g < wr.heap.size := by
              obtain ⟨⟨u, hu⟩, _⟩ := HFu.out 0 (by have := List.length_pos_iff.2 hne; omega)
              exact block_lt_cell hu
            have HAp0 : Hid (App (fun b => b = g ∨ w3.heap.size ≤ b) wr (.slice (some ⟨g, 0, none⟩) toks.length toks.length) (toks.length + 0)) := .inl ⟨g, rfl, hgw, HFu.out⟩
            have HF0 : Hid (Fr (fun b => b = g ∨ w3.heap.size ≤ b) w3 wr) := HF.out.mono fun k _ h => .inl h
            clear HFu HF HF4 hb4
            go_wp2
            go_loopw [4, 14] (fun v j wi => ∃ q : Nat, q ≤ 9 ∧ j = .int .i64 q ∧ App (fun b => b = g ∨ w3.heap.size ≤ b) wi v (toks.length + q) ∧ Fr (fun b => b = g ∨ w3.heap.size ≤ b) w3 wi) (fun _ j _ => 9 - (intOf j).toNat)
            case atStart => exact ⟨0, by omega, rfl, HAp0.out, HF0.out⟩
            case round =>
              obtain ⟨q', hq', rfl, hAp, hF⟩ := hrel
              have HAp := Lib.hid hAp
              have HF := Lib.hid hF
              clear hAp hF HAp0 HF0
              by_cases hq9 : q' < 9
              · go_wp2_with (at_builtin; refine wpA_append _ (.int .i64 (-3), .string ⟨#[]⟩, .int .i64 0, .int .i64 0) (.tmp 86) (.tmp 88) rfl rfl _ rfl (by intro u hu; simp at hu; rcases hu with rfl | rfl | rfl <;> rfl) 1 rfl rfl HAp.out HF.out (by omega) (fun j h => .inr (Nat.le_trans HF.out.size h)) ?_; intro v1 w5 hA1 hF1; clear HAp HF)
                exact ⟨⟨q' + 1, by omega, by go_num, hA1, hF1⟩, by simp [intOf]; omega⟩
              · have HK2 : Hid (RdT (behind w1) _ (.slice (some ⟨g2, 0, none⟩) toks.length toks.length) toks) := HR2.out.fr HF.out (fun k hk hb => by simp [behind] at hb; omega)
                have HK3 : Hid (RdT (behind w2) _ v3 toks) := hr3.out.fr HF.out (fun k hk hb => by simp [behind] at hb; omega)
                have HBw : Hid (Below w.heap.size w _) := HF.out.behind HB.out (fun k hk => by simp; have := HB.out.size; omega)
                go_wp2_with (go_at_call 17; refine (same_refl _ _ toks _ _ _ HK2.out HK3.out (by omega)).mono ?_; rintro e w6 ⟨rfl, hb6⟩)
                exact ⟨⟨k + 1, by omega, by go_num, bthen HBw.out hb6⟩, by simp [intOf]; omega⟩
    · go_wp2_with (go_at_call 18; refine (law_shown _ HWr.out).mono ?_; rintro e w1 ⟨rfl, hb1⟩)
      go_ret
      exact ⟨rfl, bthen hb hb1⟩
end Go.Proofs.YtgnoiliaidfepaaDoor
