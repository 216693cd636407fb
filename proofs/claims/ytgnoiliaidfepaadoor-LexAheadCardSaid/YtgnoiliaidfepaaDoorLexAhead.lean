/- The walk of LexAhead. -/
import Derived.Test.YtgnoiliaidfepaaDoorLexReads2
import Derived.Test.YtgnoiliaidfepaaDoorLexPre
import Derived.BigQuiet
set_option linter.unusedVariables false
set_option linter.unusedSimpArgs false
namespace Go.Proofs.YtgnoiliaidfepaaDoor
open Go.RowKit Go.IntWalk

theorem posAt_eq (l : List Tok) (i : Nat) : posAt l i = (tAt l i).pos := rfl
theorem RdT.take {ok : Nat → Prop} {w : World} {g n cap : Nat} {l : List Tok} (h : RdT ok w (.slice (some ⟨g, 0, none⟩) n cap) l) (i : Nat) (hi : i ≤ l.length) : RdT ok w (.slice (some ⟨g, 0, none⟩) i cap) (l.take i) := by
  rcases h with ⟨_, h⟩ | ⟨g', cap', cur, hv, ho, hb, hl, hs, hm, ht⟩
  · cases h
  · injection hv with h1 h2 h3
    injection h1 with h1
    injection h1 with h1
    subst h1 h2 h3
    have hlen : (l.take i).length = i := by rw [List.length_take]; omega
    refine .inr ⟨_, _, cur, by rw [hlen], ho, hb, by omega, hs, hm, ?_⟩
    rw [hlen]
    have e1 : (cur.toList.take (l.length * 4)).take (i * 4) = cur.toList.take (i * 4) := by rw [List.take_take]; congr 1; omega
    rw [← e1, ht]
    have key : ∀ (l : List Tok) (i : Nat), (tvals l).take (i * 4) = tvals (l.take i) := by
      intro l
      induction l with
      | nil => intro i; simp [tvals]
      | cons a l ih =>
        intro i
        cases i with
        | zero => simp [tvals]
        | succ i =>
          have := ih i
          simp only [tvals, List.flatMap_cons, List.take_succ_cons] at this ⊢
          rw [List.take_append, show (tcells a).length = 4 from rfl, ← this, List.take_of_length_le (by show (tcells a).length ≤ _; rw [show (tcells a).length = 4 from rfl]; omega)]
          congr 2
          omega
    exact key l i
theorem cut_take (s : ByteArray) (p : Nat) (h : p ≤ s.size) : s.extract 0 p = ⟨(s.data.toList.take p).toArray⟩ := by
  have := ext_at s 0 p (by omega)
  simpa using this
theorem cut_list (s : ByteArray) (p : Nat) (h : p ≤ s.size) : (s.extract 0 p).data.toList = s.data.toList.take p := by
  rw [cut_take s p h]
theorem tAt_last (ts : List Tok) (t : Tok) : tAt (ts ++ [t]) ts.length = t := by simp [tAt]
/-- the cells of one token -/
theorem RdT.at {ok : Nat → Prop} {w : World} {g n cap : Nat} {l : List Tok} (h : RdT ok w (.slice (some ⟨g, 0, none⟩) n cap) l) (k : Nat) (hk : k < l.length) :
    w.cell? ⟨g, k * 4, none⟩ = some (.int .i64 ((tAt l k).kind : Int)) ∧ w.cell? ⟨g, k * 4 + 1, none⟩ = some (.string ⟨(tAt l k).text.toArray⟩) ∧ w.cell? ⟨g, k * 4 + 2, none⟩ = some (.int .i64 ((tAt l k).n : Int)) ∧ w.cell? ⟨g, k * 4 + 3, none⟩ = some (.int .i64 ((tAt l k).pos : Int)) := by
  obtain ⟨g', c', hv, _, _, _, h0, h1, h2, h3⟩ := h.cells k hk
  injection hv with e _ _
  injection e with e
  injection e with e
  subst e
  exact ⟨h0, h1, h2, h3⟩

theorem allS_err_ne {l : List UInt8} {p er : Nat} (hA : allS l = .error (p, er)) : er ≠ 0 := by
  rintro rfl
  have key : ∀ f (l : List UInt8) pos acc p, l.length < f → allRun f l pos acc = .error (p, 0) → False := by
    intro f
    induction f with
    | zero => intro l pos acc p hf; omega
    | succ f ih =>
      intro l pos acc p hf h
      simp only [allRun] at h
      split at h
      · cases h
      · rename_i hr
        split at h
        · rename_i e' he
          simp at h
          obtain ⟨-, rfl⟩ := h
          unfold tokS at he
          simp only [] at he
          repeat' split at he
          all_goals simp at he
        · rename_i k t n m ht
          have := tokS_len hr ht
          have := skip_len false l
          exact ih _ _ _ _ (by rw [List.length_drop]; omega) h
  unfold allS at hA
  split at hA
  · simp at hA
  · exact key _ _ _ _ _ (by omega) hA

set_option maxRecDepth 20000 in
set_option maxHeartbeats 400000 in
/-- a fault -/
theorem law_LexAhead_err (s : ByteArray) (w : World) (hs : s.size ≤ 9223372036854775807) (hW : Hid (LexW w)) {p er : Nat} (hA : allS s.data.toList = .error (p, er)) :
    Calls Tryd.prog 6 #[.string s] w fun e w' => e = .returned (.bool true) ∧ Below w.heap.size w w' := by
  have hL1 := fun W hW => allErr s hs hA W hW
  rcases allS_err hA with ⟨hbig, rfl, rfl⟩ | ⟨hle, hne, hp, ts, hts⟩
  · rw [data_len] at hbig
    have hbi : (8192 : Int) < (s.size : Int) := by omega
    clear hA
    go_enter Tryd.func6, Tryd.ntmps6
    go_wp2_with (first
      | (go_at_call 15; refine (hL1 _ hW.out).mono ?_; rintro e w1 ⟨rfl, hb1⟩)
      | (go_at_call 18; refine (law_shown _ (hW.out.below hb1)).mono ?_; rintro e w2 ⟨rfl, hb2⟩))
    go_ret
    exact ⟨rfl, bthen hb1 hb2⟩
  · rw [data_len] at hle hp
    have hez := by simpa using hne
    have hq1 : ((er : Int) == 160) = false := by simp; omega
    have her : er ≠ 0 := allS_err_ne hA
    have hq2 : ((er : Int) != 0) = true := by simp; omega
    have hL2 := fun W hW => allOk (s.extract 0 p) (by rw [ByteArray.size_extract]; omega) (by rw [cut_list s p (by omega)]; exact hts) W hW
    have hlen : (ts ++ [(⟨0, [], 0, p⟩ : Tok)]).length = ts.length + 1 := by simp
    have htb : ts.length ≤ 8192 := by
      have := (allS_len hts).1
      rw [hlen] at this
      omega
    rw [hlen] at hL2
    have hlast := tAt_last ts ⟨0, [], 0, p⟩
    have hpi : (p : Int) < (s.size : Int) := by omega
    obtain ⟨l, hl⟩ : ∃ l, ts ++ [(⟨0, [], 0, p⟩ : Tok)] = l := ⟨_, rfl⟩
    obtain ⟨m, hm⟩ : ∃ m, ts.length = m := ⟨_, rfl⟩
    rw [hl, hm] at hlast hlen
    simp only [hl, hm] at hL2
    rw [hm] at htb
    have Hlast := Lib.hid hlast
    have Hlen := Lib.hid hlen
    clear hA hts hez hne her hlen hlast hl hm
    have hgu := tok_guard
    have hq3 := fun W => tok_eql ⟨0, [], 0, p⟩ ⟨0, [], 0, p⟩ W
    go_enter Tryd.func6, Tryd.ntmps6
    go_wp2_with (first
      | (go_at_call 15; (with_reducible refine (hL1 _ hW.out).mono ?_); rintro e w1 ⟨rfl, hb1⟩)
      | (go_at_call 18; refine (law_shown _ (hW.out.below hb1)).mono ?_; rintro e w2 ⟨rfl, hb2⟩; have HW2 := Lib.hid ((hW.out.below hb1).below hb2); have HB := Lib.hid (bthen hb1 hb2); clear hb1 hb2))
    refine (hL2 _ HW2.out).mono ?_
    rintro e w3 ⟨g, rfl, hb3, hr3⟩
    obtain ⟨a0, a1, a2, a3⟩ := hr3.out.at m (by rw [Hlen.out]; omega)
    rw [Hlast.out] at a0 a1 a2 a3
    have HB3 := Lib.hid (bthen HB.out hb3)
    clear hb3
    go_wp2
    go_ret
    exact ⟨rfl, HB3.out⟩

set_option maxRecDepth 20000 in
set_option maxHeartbeats 400000 in
/-- no fault -/
theorem law_LexAhead_ok (s : ByteArray) (w : World) (hs : s.size ≤ 9223372036854775807) (hW : Hid (LexW w)) {toks : List Tok} (hA : allS s.data.toList = .ok toks) :
    Calls Tryd.prog 6 #[.string s] w fun e w' => e = .returned (.bool true) ∧ Below w.heap.size w w' := by
  have hL1 := fun W hW => allOk s hs hA W hW
  obtain ⟨hle, hO⟩ := allS_okrun hA
  rw [data_len] at hle
  obtain ⟨hlen, hne⟩ := allS_len hA
  have hlast : tAt toks (toks.length - 1) = ⟨0, [], 0, s.size⟩ := by
    obtain ⟨u, hu⟩ := hO.last
    rw [hu]
    have := tAt_last u ⟨0, [], 0, 0 + s.data.toList.length⟩
    simp only [List.length_append, List.length_cons, List.length_nil, Nat.add_sub_cancel, data_len, Nat.zero_add] at this ⊢
    exact this
  have hcut : ∀ i, i < toks.length → ∀ W, LexW W → Calls Tryd.prog 15 #[.string (s.extract 0 (posAt toks i))] W fun e w' => ∃ g, e = .returned (.tuple #[.slice (some ⟨g, 0, none⟩) (i + 1) (i + 1), .int .i64 0, .int .i64 0]) ∧ Below W.heap.size W w' ∧ Hid (RdT (behind W) w' (.slice (some ⟨g, 0, none⟩) (i + 1) (i + 1)) (toks.take i ++ [⟨0, [], 0, posAt toks i⟩])) := by
    intro i hi W hW
    have hp := (hO.ge i hi).2
    rw [data_len] at hp
    have h := allOk (s.extract 0 (posAt toks i)) (by rw [ByteArray.size_extract]; omega) (toks := toks.take i ++ [⟨0, [], 0, posAt toks i⟩]) (by rw [cut_list s _ (by omega)]; exact allS_cut hA hi) W hW
    rw [show (toks.take i ++ [(⟨0, [], 0, posAt toks i⟩ : Tok)]).length = i + 1 by rw [List.length_append, List.length_take, List.length_singleton]; omega] at h
    exact h
  have Hcut := Lib.hid hcut
  have Hge : Hid (∀ i, i < toks.length → posAt toks i ≤ s.size) := by
    show _
    intro i hi
    have := (hO.ge i hi).2
    rw [data_len] at this
    omega
  have Hrise := Lib.hid hO.rise
  have hn0 : 0 < toks.length := List.length_pos_iff.2 hne
  obtain ⟨m, hm⟩ : ∃ m, toks.length = m + 1 := ⟨toks.length - 1, by omega⟩
  rw [hm, Nat.add_sub_cancel] at hlast
  simp only [hm] at hL1
  have Hlast := Lib.hid hlast
  have Hm := Lib.hid hm
  have hmb : m ≤ 8192 := by omega
  have hgu := tok_guard
  have hq1 := fun W => tok_neq ⟨0, [], 0, s.size⟩ ⟨0, [], 0, s.size⟩ W
  clear hA hO hcut hlast hlen hne hn0 hm
  go_enter Tryd.func6, Tryd.ntmps6
  go_wp2_with (first
    | (go_at_call 15; (with_reducible refine (hL1 _ hW.out).mono ?_); rintro e w1 ⟨g, rfl, hb1, hr1⟩)
    | (go_at_call 18; refine (law_shown _ (hW.out.below hb1)).mono ?_; rintro e w2 ⟨rfl, hb2⟩; have HW2 := Lib.hid ((hW.out.below hb1).below hb2); have HB := Lib.hid (bthen hb1 hb2); have HR := Lib.hid (hr1.out.below hb2); obtain ⟨a0, a1, a2, a3⟩ := HR.out.at m (by rw [Hm.out]; omega); rw [Hlast.out] at a0 a1 a2 a3; clear hb1 hb2 hr1))
  clear a0 a1 a2 a3 hq1
  go_loopw [10] (fun i wr => ∃ k : Nat, k ≤ m + 1 ∧ i = .int .i64 k ∧ ∃ n, wr = w2.drewN n) (fun i _ => m + 1 - (intOf i).toNat)
  case atStart => exact ⟨0, Nat.zero_le _, rfl, 0, rfl⟩
  case round =>
    obtain ⟨k, hk, rfl, nd, rfl⟩ := hrel
    by_cases hlt : k < m + 1
    · have hbA : (k : Int) < (m : Int) + 1 := by omega
      have h00 : (0 : Int) ≤ (k : Int) := by omega
      obtain ⟨_, _, _, a3⟩ := HR.out.at k (by rw [Hm.out]; omega)
      have hpb := Hge.out k (by rw [Hm.out]; omega)
      rw [posAt_eq] at hpb
      by_cases h0 : 0 < k
      · obtain ⟨_, _, _, b3⟩ := HR.out.at (k - 1) (by rw [Hm.out]; omega)
        have hr := Hrise.out (k - 1) (by rw [Hm.out]; omega)
        rw [posAt_eq, posAt_eq, show k - 1 + 1 = k by omega] at hr
        generalize (tAt toks k).pos = p at *
        generalize (tAt toks (k - 1)).pos = q at *
        have d0 : decide ((0 : Int) < (k : Int)) = true := by simp; omega
        have d1 : decide ((p : Int) < (q : Int)) = false := by simp; omega
        have d2 : ((p : Int) == (q : Int)) = false := by simp; omega
        have d3 : decide ((p : Int) < 0) = false := by simp
        have e1 : decide (p < q) = false := by simp; omega
        have e2 : (p == q) = false := by simp; omega
        have e4 : decide (s.size < p) = false := by simp; omega
        have e5 : decide (0 < k) = true := by simp; omega
        have d4 : decide ((s.size : Int) < (p : Int)) = false := by simp; omega
        have i1 : (0 : Int) ≤ (k : Int) - 1 := by omega
        have i2 : (k : Int) - 1 < (m : Int) + 1 := by omega
        have i3 : (1 : Int) ≤ (k : Int) := by omega
        have i4 : 1 ≤ k := h0
        have i5 : k - 1 < m + 1 := by omega
        have i6 : k ≤ m + 1 := by omega
        have s1 : IntKind.i64.wrap ((k : Int) - 1) = (k : Int) - 1 := i64_in _ (by omega)
        have s2 : IntKind.i64.wrap ((k : Int) + 1) = (k : Int) + 1 := i64_in _ (by omega)
        have s3 : ((k : Int) - 1).toNat = k - 1 := by omega
        by_cases hkm : k < m
        · have f1 : decide (k < m) = true := by simp; omega
          have f2 : decide ((k : Int) + 1 < (m : Int) + 1) = true := by simp; omega
          have f3 : decide ((k : Int) < (m : Int)) = true := by simp; omega
          go_wp2
          go_quiet (fail)
          go_wp2
          exact ⟨⟨k + 1, by omega, by go_num, _, by first | rfl | exact World.drewN_drewN _ _ _⟩, by simp [intOf]; omega⟩
        · have f1 : decide (k < m) = false := by simp; omega
          have f2 : decide ((k : Int) + 1 < (m : Int) + 1) = false := by simp; omega
          have f3 : decide ((k : Int) < (m : Int)) = false := by simp; omega
          go_wp2
          go_quiet (fail)
          go_wp2
          exact ⟨⟨k + 1, by omega, by go_num, _, by first | rfl | exact World.drewN_drewN _ _ _⟩, by simp [intOf]; omega⟩
      · obtain rfl : k = 0 := by omega
        generalize (tAt toks 0).pos = p at *
        have d3 : decide ((p : Int) < 0) = false := by simp
        have d4 : decide ((s.size : Int) < (p : Int)) = false := by simp; omega
        have e4 : decide (s.size < p) = false := by simp; omega
        clear h0 hbA h00
        go_wp2
        go_quiet (fail)
        go_wp2
        exact ⟨⟨1, by omega, by go_num, _, by first | rfl | exact World.drewN_drewN _ _ _⟩, by simp [intOf]⟩
    · have hkA : ¬ (k : Int) < (m : Int) + 1 := by omega
      have hst : IntKind.i64.wrap (1 + ((m : Int) + 1) / 40) = 1 + ((m : Int) + 1) / 40 := i64_in _ (by omega)
      obtain ⟨st, hst2⟩ : ∃ st : Nat, st = 1 + (m + 1) / 40 := ⟨_, rfl⟩
      have Hst := Lib.hid hst2
      have hstb : st ≤ 1000 := by omega
      have hst1 : 1 ≤ st := by omega
      clear hst2
      have hst3 : (1 : Int) + ((m : Int) + 1) / 40 = (st : Int) := by have := Hst.out; omega
      rw [hst3] at hst
      have HSt := Lib.hid hst3
      clear hst3
      go_wp2
      go_loopw [12] (fun i wr => ∃ k : Nat, k ≤ m + st ∧ i = .int .i64 k ∧ Below w2.heap.size w2 wr) (fun i _ => m + st - (intOf i).toNat)
      case atStart => exact ⟨0, Nat.zero_le _, rfl, below_drewN _ _⟩
      case round =>
        obtain ⟨k, hk, rfl, hb⟩ := hrel
        have Hb := Lib.hid hb
        clear hb
        by_cases hlt : k < m + 1
        · have hbA : (k : Int) < (m : Int) + 1 := by omega
          have h00 : (0 : Int) ≤ (k : Int) := by omega
          obtain ⟨_, _, _, a3⟩ := (HR.out.below Hb.out).at k (by rw [Hm.out]; omega)
          have hpb := Hge.out k (by rw [Hm.out]; omega)
          have hC := Hcut.out k (by rw [Hm.out]; omega)
          rw [posAt_eq] at hpb hC
          generalize (tAt toks k).pos = p at *
          have q1 : ∀ W, (binOp .neq 41 (tokA ⟨0, [], 0, p⟩) (tokA ⟨0, [], 0, p⟩)).run Tryd.prog W = .ok (.bool false) W := by
            intro W
            rw [tok_neq]
            simp [tokEq]
          have q2 : IntKind.i64.wrap ((k : Int) + 1) = (k : Int) + 1 := i64_in _ (by omega)
          have q3 : (((k : Int) + 1) != ((k : Int) + 1)) = false := by simp
          have q4 : IntKind.i64.wrap ((k : Int) + (st : Int)) = (k : Int) + (st : Int) := i64_in _ (by omega)
          have tl : (toks.take k).length = k := by rw [List.length_take, Hm.out]; omega
          have e1 : (toks.take k ++ [(⟨0, [], 0, p⟩ : Tok)]).take k = toks.take k := by rw [List.take_append_of_le_length (by omega), List.take_take]; congr 1; omega
          have e2 : tAt (toks.take k ++ [(⟨0, [], 0, p⟩ : Tok)]) k = ⟨0, [], 0, p⟩ := by have := tAt_last (toks.take k) ⟨0, [], 0, p⟩; rwa [tl] at this
          have e3 : (toks.take k ++ [(⟨0, [], 0, p⟩ : Tok)]).length = k + 1 := by rw [List.length_append, tl]; rfl
          have E1 := Lib.hid e1
          have E2 := Lib.hid e2
          have E3 := Lib.hid e3
          have Tl := Lib.hid tl
          clear e1 e2 e3 tl hst
          go_wp2_with fail
          refine (hC _ (HW2.out.below Hb.out)).mono ?_
          rintro e w3 ⟨g2, rfl, hb3, hr3⟩
          have HK := hr3.out.take k (by rw [E3.out]; omega)
          rw [E1.out] at HK
          have HK := Lib.hid HK
          have HL := Lib.hid (((HR.out.below Hb.out).below hb3).take k (by rw [Hm.out]; omega))
          obtain ⟨c0, c1, c2, c3⟩ := hr3.out.at k (by rw [E3.out]; omega)
          rw [E2.out] at c0 c1 c2 c3
          have Hb3 := Lib.hid (bthen Hb.out hb3)
          have hL3 := bcell hb3 a3
          clear hb3 hr3 hC a3
          have same3 : ∀ n, Calls Tryd.prog 17 #[.slice (some ⟨g2, 0, none⟩) k (k + 1), .slice (some ⟨g, 0, none⟩) k (m + 1)] (w3.drewN n) fun e w' => e = .returned (.bool true) ∧ ∃ m, w' = w3.drewN m := by
            intro n
            refine Calls.quiet_of ((law_sameQ _ _ (toks.take k) (toks.take k) _ _ (w3.drewN n) (Lib.hid (HK.out.below (below_drewN _ _))) (Lib.hid (HL.out.below (below_drewN _ _))) (by rw [Tl.out]; omega) (by rw [Tl.out]; omega)).mono ?_)
            rintro e w' ⟨h1, h2⟩
            exact ⟨by rw [h1]; simp [sameB], h2⟩
          go_wp2
          go_quiet ((go_at_call 17; exact same3 _))
          go_wp2
          go_roundw
          case rel => exact ⟨k + st, by omega, congrArg (Value.int .i64) (by have := HSt.out; omega), bthen Hb3.out (below_drewN _ _)⟩
          case measure => simp [intOf]; omega
        · go_wp2
          go_ret
          exact ⟨rfl, bthen HB.out Hb.out⟩

theorem law_LexAhead (s : ByteArray) (w : World) (hs : s.size ≤ 9223372036854775807) (hW : LexW w) :
    Calls Tryd.prog 6 #[.string s] w fun e w' => e = .returned (.bool true) ∧ Below w.heap.size w w' := by
  rcases hA : allS s.data.toList with ⟨p, er⟩ | toks
  · exact law_LexAhead_err s w hs (Lib.hid hW) hA
  · exact law_LexAhead_ok s w hs (Lib.hid hW) hA
end Go.Proofs.YtgnoiliaidfepaaDoor
