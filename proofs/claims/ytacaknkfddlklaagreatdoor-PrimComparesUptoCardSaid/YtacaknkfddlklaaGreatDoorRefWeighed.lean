/- Contracts of the reference's weighed and Right. -/
import Derived.Test.YtacaknkfddlklaaGreatDoorRefPlain
set_option linter.unusedVariables false
set_option linter.unusedSimpArgs false
namespace Go.Proofs.YtacaknkfddlklaaGreatDoor
open Go.RowKit Go.IntWalk

/-- what the reference tells of a weight: 2049 of what is none -/
def wI : Option Nat → Nat
  | some w => w
  | none => 2049
theorem leq_run (a b : List UInt8) (W : World) : (Op.stringOp .leq ⟨b.toArray⟩ ⟨a.toArray⟩).run Tryz.prog W = .ok (.bool (!Op.bytesLess a b)) W := by
  rw [← leq_not_less a b]
  simp [Op.stringOp, ByteArray.toList_eq]
theorem rbox5 (w : World) (c0 c1 c2 c3 c4 : Value) (t : TypeId) : Five (w.alloc (.cells #[c0, c1, c2, c3, c4] t)) w.heap.size 0 (.agg #[c0, c1, c2, c3, c4]) :=
  ⟨c0, c1, c2, c3, c4, rfl, World.cell?_alloc_at _ _ _ _ rfl, World.cell?_alloc_at _ _ _ _ rfl, World.cell?_alloc_at _ _ _ _ rfl, World.cell?_alloc_at _ _ _ _ rfl, World.cell?_alloc_at _ _ _ _ rfl⟩
def prevR (ks : List (List UInt8)) (k : Nat) : Option (List UInt8) := if k = 0 then none else some (ks.getD (k - 1) [])
def WghPost (w : World) (r : Option Nat) (e : Ending) (w' : World) : Prop := e = .returned (.int .i64 (wI r : Int)) ∧ Below w.heap.size w w'
theorem plainS_len {kind n : Int} {s : List UInt8} {nl nk : Nat} (h : plainS kind n s nl nk = true) (hk : kind = 3) : nl = 0 := by
  subst hk
  simp [plainS] at h
  exact h.2.1
theorem plainS_bytes {kind n : Int} {s : List UInt8} {nl nk : Nat} (h : plainS kind n s nl nk = true) (hk : kind ≠ 3) : s = [] := by
  unfold plainS at h
  repeat' split at h
  all_goals simp_all

set_option maxRecDepth 20000 in
set_option maxHeartbeats 4000000 in
theorem ref_weighed : ∀ (sz : Nat) (x : V), SizeOf.sizeOf x ≤ sz → ∀ (v : Value) (a n : Int) (ok : Nat → Prop) (w : World), RdV ok w v x → 0 ≤ a → a ≤ 8 → 0 ≤ n → n ≤ 4096 →
    Calls Tryz.prog 44 #[v, .int .i64 a, .int .i64 n] w (WghPost w (wS a.toNat n.toNat x)) := by
  intro sz
  induction sz with
  | zero => intro x hx; cases x; simp at hx
  | succ sz ih =>
    intro x hsz v a n ok w hv ha0 ha8 hn0 hn
    obtain ⟨A, cl, B, ck, rfl, hl1, hl2, hk3, hk4, hl3, hk5, hsl⟩ := hv.form
    obtain ⟨_, _, _, lv, kv, hve, _, hvs, hks⟩ := hv.open
    injection hve with hve
    simp only [Array.mk.injEq, List.cons.injEq, and_true, true_and] at hve
    obtain ⟨rfl, rfl⟩ := hve
    have hform := fun W => ref_plain x.kind x.num x.str A B x.parts.length cl x.keys.length ck W hl3 hk5 hl1 hk3
    have hw : wS a.toNat n.toNat x = if plainS x.kind x.num x.str x.parts.length x.keys.length = true ∧ a.toNat < 8 ∧ n.toNat + 1 + x.str.length ≤ 2048 then wL a.toNat (x.kind == 5) none (n.toNat + 1 + x.str.length) x.parts x.keys else none := wS_eq _ _ _
    have Hv := Lib.hid hv
    have Hvs := Lib.hid hvs
    have Hks := Lib.hid hks
    have Hih := Lib.hid ih
    have hS : (⟨x.str.toArray⟩ : ByteArray).size = x.str.length := by simp [ByteArray.size]
    have hb1 : ∀ O : Obj, Below w.heap.size w (w.alloc O) := fun O => (Below.refl _ _).alloc (Nat.le_refl _) O
    clear hv hvs hks ih
    by_cases hg : (plainS x.kind x.num x.str x.parts.length x.keys.length = true ∧ a < 8 ∧ n ≤ 2048)
    · obtain ⟨hp, ha, hn8⟩ := hg
      rw [hp] at hform
      have Hform := Lib.hid hform
      clear hform
      have hw2 : wS a.toNat n.toNat x = if n.toNat + 1 + x.str.length ≤ 2048 then wL a.toNat (x.kind == 5) none (n.toNat + 1 + x.str.length) x.parts x.keys else none := by
        rw [hw]
        by_cases h : n.toNat + 1 + x.str.length ≤ 2048
        · rw [if_pos ⟨hp, by omega, h⟩, if_pos h]
        · rw [if_neg (fun q => h q.2.2), if_neg h]
      have Hw2 := Lib.hid hw2
      have hst : (n.toNat + 1 + x.str.length ≤ 2048 ∧ wS a.toNat n.toNat x = wL a.toNat (x.kind == 5) (prevR x.keys 0) (n.toNat + 1 + x.str.length) (x.parts.drop 0) (x.keys.drop 0)) ∨ (2049 ≤ n.toNat + 1 + x.str.length ∧ wS a.toNat n.toNat x = none) := by
        by_cases h : n.toNat + 1 + x.str.length ≤ 2048
        · left; exact ⟨h, by rw [Hw2.out, if_pos h]; rfl⟩
        · right; exact ⟨by omega, by rw [Hw2.out, if_neg h]⟩
      have Hst := Lib.hid hst
      have hbx := rbox5 w (.int .i64 x.kind) (.int .i64 x.num) (.string ⟨x.str.toArray⟩) (.slice A x.parts.length cl) (.slice B x.keys.length ck) 25
      have HBX := Lib.hid hbx
      have Hp := Lib.hid hp
      clear hst hbx hw hw2
      by_cases hk : x.kind = 3
      · have hk' : (x.kind == 3) = true := by simpa using hk
        have Hk := Lib.hid hk
        clear hk
        by_cases hlen : 2048 < x.str.length
        · have hlen' : (2048 : Int) < (x.str.length : Int) := by omega
          have hnone : wS a.toNat n.toNat x = none := by rw [Hw2.out, if_neg (by omega)]
          have Hn := Lib.hid hnone
          clear hnone
          go_enter Tryz.func44, Tryz.ntmps44
          go_wp2_with (go_at_call 101; refine (Hform.out _).mono ?_; rintro e w3 ⟨rfl, hb3⟩; obtain ⟨x0, x1, x2, x3, x4, hx, b0, b1, b2, b3, b4⟩ := HBX.out.below hb3; injection hx with hx; simp only [Array.mk.injEq, List.cons.injEq, and_true] at hx; obtain ⟨rfl, rfl, rfl, rfl, rfl⟩ := hx; simp only [Nat.zero_add] at b0 b1 b2 b3 b4)
          go_ret
          rw [Hn.out]
          exact ⟨rfl, bthen (hb1 _) hb3⟩
        · have hlen' : ¬ (2048 : Int) < (x.str.length : Int) := by omega
          have Hlen : Hid (n + 1 + (x.str.length : Int) = ((n.toNat + 1 + x.str.length : Nat) : Int)) := by show _ = _; omega
          go_enter Tryz.func44, Tryz.ntmps44
          go_wp2_with (go_at_call 101; refine (Hform.out _).mono ?_; rintro e w3 ⟨rfl, hb3⟩; obtain ⟨x0, x1, x2, x3, x4, hx, b0, b1, b2, b3, b4⟩ := HBX.out.below hb3; injection hx with hx; simp only [Array.mk.injEq, List.cons.injEq, and_true] at hx; obtain ⟨rfl, rfl, rfl, rfl, rfl⟩ := hx; simp only [Nat.zero_add] at b0 b1 b2 b3 b4)
          have HBw := Lib.hid (HBX.out.below hb3)
          have HV3 := Lib.hid (Hvs.out.below (bthen (hb1 _) hb3))
          have HK3 := Lib.hid (Hks.out.below (bthen (hb1 _) hb3))
          have Hb3 := Lib.hid (bthen (hb1 _) hb3)
          clear b0 b1 b2 b3 b4 hb3 hb1

          go_loopw [9, 10] (fun v9 v10 wr => ∃ (k m : Nat), k ≤ x.parts.length ∧ v10 = .int .i64 k ∧ v9 = .int .i64 m ∧ ((m ≤ 2048 ∧ wS a.toNat n.toNat x = wL a.toNat (x.kind == 5) (prevR x.keys k) m (x.parts.drop k) (x.keys.drop k)) ∨ (2049 ≤ m ∧ wS a.toNat n.toNat x = none)) ∧ Below w3.heap.size w3 wr) (fun _ i _ => x.parts.length - (intOf i).toNat)
          case atStart => exact ⟨0, n.toNat + 1 + x.str.length, Nat.zero_le _, rfl, congrArg (Value.int .i64) (by have := Hlen.out; omega), Hst.out, Below.refl _ _⟩
          case round =>
            obtain ⟨k, m, hk, rfl, rfl, hR, hbl⟩ := hrel
            have HBl := Lib.hid hbl
            rcases hR with ⟨hm, hR⟩ | ⟨hm, hR⟩
            · have hmA : (m : Int) < 2049 := by omega
              have hmB : ¬ (2048 : Int) < (m : Int) := by omega
              by_cases hlt : k < x.parts.length
              · have hlA : (k : Int) < (x.parts.length : Int) := by omega
                have h00 : (0 : Int) ≤ (k : Int) := by omega
                obtain ⟨g, off, A', c', B', d', rfl, hog, hrd, e0, e1, e2, e3, e4⟩ := (HV3.out.below HBl.out).elem k hlt
                have hsub := V.sz_part hlt
                rw [List.drop_eq_getElem_cons hlt] at hR
                generalize x.parts[k] = X at *
                have HRd := Lib.hid hrd
                obtain ⟨y0, y1, y2, y3, y4, hy, d0, d1, d2, d3, d4⟩ := HBw.out.below HBl.out
                injection hy with hy
                simp only [Array.mk.injEq, List.cons.injEq, and_true] at hy
                obtain ⟨rfl, rfl, rfl, rfl, rfl⟩ := hy
                simp only [Nat.zero_add] at d0 d1 d2 d3 d4
                have hta : (a + 1).toNat = a.toNat + 1 := by omega
                have Hta := Lib.hid hta
                clear hta hrd hbl
                exact absurd (plainS_len Hp.out Hk.out) (by omega)
              · obtain ⟨y0, y1, y2, y3, y4, hy, d0, d1, d2, d3, d4⟩ := HBw.out.below HBl.out
                injection hy with hy
                simp only [Array.mk.injEq, List.cons.injEq, and_true] at hy
                obtain ⟨rfl, rfl, rfl, rfl, rfl⟩ := hy
                simp only [Nat.zero_add] at d0 d1 d2 d3 d4
                rw [List.drop_eq_nil_of_le (by omega), wL_nil] at hR
                have Hdd := Lib.hid hR
                clear hR hbl
                go_wp2_with fail
                go_ret
                rw [Hdd.out]
                exact ⟨rfl, bthen Hb3.out HBl.out⟩
            · obtain ⟨y0, y1, y2, y3, y4, hy, d0, d1, d2, d3, d4⟩ := HBw.out.below HBl.out
              injection hy with hy
              simp only [Array.mk.injEq, List.cons.injEq, and_true] at hy
              obtain ⟨rfl, rfl, rfl, rfl, rfl⟩ := hy
              simp only [Nat.zero_add] at d0 d1 d2 d3 d4
              have Hdd := Lib.hid hR
              have hmA : ¬ (m : Int) < 2049 := by omega
              have hmB : (2048 : Int) < (m : Int) := by omega
              clear hR hbl
              by_cases hlt : k < x.parts.length
              · have hlA : (k : Int) < (x.parts.length : Int) := by omega
                go_wp2_with fail
                go_ret
                rw [Hdd.out]
                exact ⟨rfl, bthen Hb3.out HBl.out⟩
              · have hlA : ¬ (k : Int) < (x.parts.length : Int) := by omega
                go_wp2_with fail
                go_ret
                rw [Hdd.out]
                exact ⟨rfl, bthen Hb3.out HBl.out⟩
      · have hk' : (x.kind == 3) = false := by simpa using hk
        have hz : x.str = [] := plainS_bytes hp hk
        have Hlen : Hid (n + 1 = ((n.toNat + 1 + x.str.length : Nat) : Int)) := by show _ = _; rw [hz]; simp; omega
        clear hk hz
        go_enter Tryz.func44, Tryz.ntmps44
        go_wp2_with (go_at_call 101; refine (Hform.out _).mono ?_; rintro e w3 ⟨rfl, hb3⟩; obtain ⟨x0, x1, x2, x3, x4, hx, b0, b1, b2, b3, b4⟩ := HBX.out.below hb3; injection hx with hx; simp only [Array.mk.injEq, List.cons.injEq, and_true] at hx; obtain ⟨rfl, rfl, rfl, rfl, rfl⟩ := hx; simp only [Nat.zero_add] at b0 b1 b2 b3 b4)
        have HBw := Lib.hid (HBX.out.below hb3)
        have HV3 := Lib.hid (Hvs.out.below (bthen (hb1 _) hb3))
        have HK3 := Lib.hid (Hks.out.below (bthen (hb1 _) hb3))
        have Hb3 := Lib.hid (bthen (hb1 _) hb3)
        clear b0 b1 b2 b3 b4 hb3 hb1

        go_loopw [9, 10] (fun v9 v10 wr => ∃ (k m : Nat), k ≤ x.parts.length ∧ v10 = .int .i64 k ∧ v9 = .int .i64 m ∧ ((m ≤ 2048 ∧ wS a.toNat n.toNat x = wL a.toNat (x.kind == 5) (prevR x.keys k) m (x.parts.drop k) (x.keys.drop k)) ∨ (2049 ≤ m ∧ wS a.toNat n.toNat x = none)) ∧ Below w3.heap.size w3 wr) (fun _ i _ => x.parts.length - (intOf i).toNat)
        case atStart => exact ⟨0, n.toNat + 1 + x.str.length, Nat.zero_le _, rfl, congrArg (Value.int .i64) (by have := Hlen.out; omega), Hst.out, Below.refl _ _⟩
        case round =>
          obtain ⟨k, m, hk, rfl, rfl, hR, hbl⟩ := hrel
          have HBl := Lib.hid hbl
          rcases hR with ⟨hm, hR⟩ | ⟨hm, hR⟩
          · have hmA : (m : Int) < 2049 := by omega
            have hmB : ¬ (2048 : Int) < (m : Int) := by omega
            by_cases hlt : k < x.parts.length
            · have hlA : (k : Int) < (x.parts.length : Int) := by omega
              have h00 : (0 : Int) ≤ (k : Int) := by omega
              obtain ⟨g, off, A', c', B', d', rfl, hog, hrd, e0, e1, e2, e3, e4⟩ := (HV3.out.below HBl.out).elem k hlt
              have hsub := V.sz_part hlt
              rw [List.drop_eq_getElem_cons hlt] at hR
              generalize x.parts[k] = X at *
              have HRd := Lib.hid hrd
              obtain ⟨y0, y1, y2, y3, y4, hy, d0, d1, d2, d3, d4⟩ := HBw.out.below HBl.out
              injection hy with hy
              simp only [Array.mk.injEq, List.cons.injEq, and_true] at hy
              obtain ⟨rfl, rfl, rfl, rfl, rfl⟩ := hy
              simp only [Nat.zero_add] at d0 d1 d2 d3 d4
              have hta : (a + 1).toNat = a.toNat + 1 := by omega
              have Hta := Lib.hid hta
              clear hta hrd hbl
              by_cases hr : x.kind = 5
              · have hr' : (x.kind == 5) = true := by simpa using hr
                have hkl : x.keys.length = x.parts.length := by have := Hp.out; rw [hr] at this; exact plainS_rec this
                have hltk : k < x.keys.length := by omega
                have hlB : (k : Int) < (x.keys.length : Int) := by omega
                obtain ⟨gk, ofk, rfl, hgk, kc, hkz⟩ := (HK3.out.below HBl.out).elem k hltk
                have hdk : x.keys.drop k = x.keys[k] :: x.keys.drop (k + 1) := List.drop_eq_getElem_cons hltk
                have Hpk1 : Hid (prevR x.keys (k + 1) = some x.keys[k]) := by
                  show _ = _
                  rw [prevR, if_neg (by omega), Nat.add_sub_cancel, List.getD_eq_getElem?_getD, List.getElem?_eq_getElem hltk]
                  rfl
                rw [hr', hdk, wL_rec] at hR
                generalize x.keys[k] = K at *
                have hKz : (⟨K.toArray⟩ : ByteArray).size = K.length := by simp [ByteArray.size]
                have Hkl := Lib.hid hkl
                have Hr := Lib.hid hr
                clear hdk hkl hr
                by_cases hK32 : 32 < K.length
                · have q1 : decide ((32 : Int) < (K.length : Int)) = true := by simp; omega
                  have q2 : decide (32 < K.length) = true := by simp; omega
                  rw [if_neg (by simp [keyOK]; omega)] at hR
                  have Hdd := Lib.hid hR
                  clear hR
                  go_wp2_with fail
                  go_quiet (fail)
                  go_wp2_with fail
                  go_ret
                  rw [Hdd.out]
                  exact ⟨rfl, bthen Hb3.out (bthen HBl.out (below_drewN _ _))⟩
                · have q1 : decide ((32 : Int) < (K.length : Int)) = false := by simp; omega
                  have q2 : decide (32 < K.length) = false := by simp; omega
                  have hKb : (K.length : Int) ≤ 32 := by omega
                  by_cases h0 : 0 < k
                  · obtain ⟨g2, of2, hB2, _, kc2, _⟩ := (HK3.out.below HBl.out).elem (k - 1) (by omega)
                    injection hB2 with hB2
                    injection hB2 with hB2 hB3
                    subst hB2 hB3
                    have hpk : prevR x.keys k = some x.keys[k - 1] := by
                      rw [prevR, if_neg (by omega), List.getD_eq_getElem?_getD, List.getElem?_eq_getElem (by omega)]
                      rfl
                    rw [hpk] at hR
                    generalize x.keys[k - 1] = K' at *
                    have p1 : decide ((0 : Int) < (k : Int)) = true := by simp; omega
                    have p2 : decide (0 < k) = true := by simp; omega
                    have i1 : (0 : Int) ≤ (k : Int) - 1 := by omega
                    have i2 : (k : Int) - 1 < (x.keys.length : Int) := by omega
                    have i3 : (1 : Int) ≤ (k : Int) := by omega
                    have i4 : 1 ≤ k := h0
                    have i5 : k - 1 < x.keys.length := by omega
                    have i6 : k ≤ x.keys.length := by omega
                    have s1 : IntKind.i64.wrap ((k : Int) - 1) = (k : Int) - 1 := i64_in _ (by omega)
                    have s3 : ((k : Int) - 1).toNat = k - 1 := by omega
                    have hge := fun W => leq_run K' K W
                    have t1 : (⟨K.toArray⟩ : ByteArray).toList = K := by simp [ByteArray.toList_eq]
                    have t2 : (⟨K'.toArray⟩ : ByteArray).toList = K' := by simp [ByteArray.toList_eq]
                    have hle := leq_not_less K' K
                    clear hpk
                    cases hlt2 : Op.bytesLess K' K with
                    | false =>
                      rw [hlt2] at hge hle
                      rw [if_neg (by simp [keyOK, hlt2])] at hR
                      have Hdd := Lib.hid hR
                      clear hR
                      simp only [Bool.not_false] at hge hle
                      go_wp2_with fail
                      go_quiet (fail)
                      go_wp2_with fail
                      go_ret
                      rw [Hdd.out]
                      exact ⟨rfl, bthen Hb3.out (bthen HBl.out (below_drewN _ _))⟩
                    | true =>
                      rw [hlt2] at hge hle
                      rw [if_pos (by simp [keyOK, hlt2]; omega)] at hR
                      simp only [Bool.not_true] at hge hle
                      rcases hXr : wS (a.toNat + 1) (m + 1 + K.length) X with _ | m'
                      · rw [hXr] at hR
                        change _ = none at hR
                        have Hdd := Lib.hid hR
                        have HXr := Lib.hid hXr
                        clear hR hXr
                        go_wp2_with fail
                        go_quiet (fail)
                        go_wp2_with fail
                        refine (Hih.out X (by omega) _ (a + 1) ((m : Int) + 1 + (K.length : Int)) ok _ (HRd.out.below (below_drewN _ _)) (by omega) (by omega) (by omega) (by omega)).mono ?_
                        rintro e w4 ⟨rfl, hb4⟩
                        rw [Hta.out, show ((m : Int) + 1 + (K.length : Int)).toNat = m + 1 + K.length by omega, HXr.out]
                        go_wp2_with fail
                        exact ⟨⟨k + 1, 2049, by omega, by go_num, rfl, .inr ⟨by omega, Hdd.out⟩, bthen (bthen HBl.out (below_drewN _ _)) hb4⟩, by simp [intOf]; omega⟩
                      · rw [hXr] at hR
                        change _ = wL _ _ _ _ _ _ at hR
                        have Hdd := Lib.hid hR
                        have HXr := Lib.hid hXr
                        have hm' := (wS_bound hXr).2
                        clear hR hXr
                        go_wp2_with fail
                        go_quiet (fail)
                        go_wp2_with fail
                        refine (Hih.out X (by omega) _ (a + 1) ((m : Int) + 1 + (K.length : Int)) ok _ (HRd.out.below (below_drewN _ _)) (by omega) (by omega) (by omega) (by omega)).mono ?_
                        rintro e w4 ⟨rfl, hb4⟩
                        rw [Hta.out, show ((m : Int) + 1 + (K.length : Int)).toNat = m + 1 + K.length by omega, HXr.out]
                        go_wp2_with fail
                        exact ⟨⟨k + 1, m', by omega, by go_num, rfl, .inl ⟨hm', by rw [Hdd.out, hr', Hpk1.out]⟩, bthen (bthen HBl.out (below_drewN _ _)) hb4⟩, by simp [intOf]; omega⟩
                  · have p1 : decide ((0 : Int) < (k : Int)) = false := by simp; omega
                    have p2 : decide (0 < k) = false := by simp; omega
                    rw [show prevR x.keys k = none from if_pos (by omega), if_pos (by simp [keyOK]; omega)] at hR
                    rcases hXr : wS (a.toNat + 1) (m + 1 + K.length) X with _ | m'
                    · rw [hXr] at hR
                      change _ = none at hR
                      have Hdd := Lib.hid hR
                      have HXr := Lib.hid hXr
                      clear hR hXr
                      go_wp2_with fail
                      go_quiet (fail)
                      go_wp2_with fail
                      refine (Hih.out X (by omega) _ (a + 1) ((m : Int) + 1 + (K.length : Int)) ok _ (HRd.out.below (below_drewN _ _)) (by omega) (by omega) (by omega) (by omega)).mono ?_
                      rintro e w4 ⟨rfl, hb4⟩
                      rw [Hta.out, show ((m : Int) + 1 + (K.length : Int)).toNat = m + 1 + K.length by omega, HXr.out]
                      go_wp2_with fail
                      exact ⟨⟨k + 1, 2049, by omega, by go_num, rfl, .inr ⟨by omega, Hdd.out⟩, bthen (bthen HBl.out (below_drewN _ _)) hb4⟩, by simp [intOf]; omega⟩
                    · rw [hXr] at hR
                      change _ = wL _ _ _ _ _ _ at hR
                      have Hdd := Lib.hid hR
                      have HXr := Lib.hid hXr
                      have hm' := (wS_bound hXr).2
                      clear hR hXr
                      go_wp2_with fail
                      go_quiet (fail)
                      go_wp2_with fail
                      refine (Hih.out X (by omega) _ (a + 1) ((m : Int) + 1 + (K.length : Int)) ok _ (HRd.out.below (below_drewN _ _)) (by omega) (by omega) (by omega) (by omega)).mono ?_
                      rintro e w4 ⟨rfl, hb4⟩
                      rw [Hta.out, show ((m : Int) + 1 + (K.length : Int)).toNat = m + 1 + K.length by omega, HXr.out]
                      go_wp2_with fail
                      exact ⟨⟨k + 1, m', by omega, by go_num, rfl, .inl ⟨hm', by rw [Hdd.out, hr', Hpk1.out]⟩, bthen (bthen HBl.out (below_drewN _ _)) hb4⟩, by simp [intOf]; omega⟩
              · have hr' : (x.kind == 5) = false := by simpa using hr
                rw [hr', wL_row] at hR
                rcases hXr : wS (a.toNat + 1) m X with _ | m'
                · rw [hXr] at hR
                  change _ = none at hR
                  have Hdd := Lib.hid hR
                  have HXr := Lib.hid hXr
                  clear hR hXr
                  go_wp2_with fail
                  refine (Hih.out X (by omega) _ (a + 1) (m : Int) ok _ HRd.out (by omega) (by omega) (by omega) (by omega)).mono ?_
                  rintro e w4 ⟨rfl, hb4⟩
                  rw [Hta.out, Int.toNat_natCast, HXr.out]
                  go_wp2_with fail
                  exact ⟨⟨k + 1, 2049, by omega, by go_num, rfl, .inr ⟨by omega, Hdd.out⟩, bthen HBl.out hb4⟩, by simp [intOf]; omega⟩
                · rw [hXr] at hR
                  change _ = wL _ _ _ _ _ _ at hR
                  have Hdd := Lib.hid hR
                  have HXr := Lib.hid hXr
                  have hm' := (wS_bound hXr).2
                  clear hR hXr
                  go_wp2_with fail
                  refine (Hih.out X (by omega) _ (a + 1) (m : Int) ok _ HRd.out (by omega) (by omega) (by omega) (by omega)).mono ?_
                  rintro e w4 ⟨rfl, hb4⟩
                  rw [Hta.out, Int.toNat_natCast, HXr.out]
                  go_wp2_with fail
                  exact ⟨⟨k + 1, m', by omega, by go_num, rfl, .inl ⟨hm', by rw [Hdd.out, hr']; exact wL_ks⟩, bthen HBl.out hb4⟩, by simp [intOf]; omega⟩
            · obtain ⟨y0, y1, y2, y3, y4, hy, d0, d1, d2, d3, d4⟩ := HBw.out.below HBl.out
              injection hy with hy
              simp only [Array.mk.injEq, List.cons.injEq, and_true] at hy
              obtain ⟨rfl, rfl, rfl, rfl, rfl⟩ := hy
              simp only [Nat.zero_add] at d0 d1 d2 d3 d4
              rw [List.drop_eq_nil_of_le (by omega), wL_nil] at hR
              have Hdd := Lib.hid hR
              clear hR hbl
              go_wp2_with fail
              go_ret
              rw [Hdd.out]
              exact ⟨rfl, bthen Hb3.out HBl.out⟩
          · obtain ⟨y0, y1, y2, y3, y4, hy, d0, d1, d2, d3, d4⟩ := HBw.out.below HBl.out
            injection hy with hy
            simp only [Array.mk.injEq, List.cons.injEq, and_true] at hy
            obtain ⟨rfl, rfl, rfl, rfl, rfl⟩ := hy
            simp only [Nat.zero_add] at d0 d1 d2 d3 d4
            have Hdd := Lib.hid hR
            have hmA : ¬ (m : Int) < 2049 := by omega
            have hmB : (2048 : Int) < (m : Int) := by omega
            clear hR hbl
            by_cases hlt : k < x.parts.length
            · have hlA : (k : Int) < (x.parts.length : Int) := by omega
              go_wp2_with fail
              go_ret
              rw [Hdd.out]
              exact ⟨rfl, bthen Hb3.out HBl.out⟩
            · have hlA : ¬ (k : Int) < (x.parts.length : Int) := by omega
              go_wp2_with fail
              go_ret
              rw [Hdd.out]
              exact ⟨rfl, bthen Hb3.out HBl.out⟩
    · rw [if_neg (fun h => hg ⟨h.1, by omega, by omega⟩)] at hw
      have Hw := Lib.hid hw
      clear hw
      by_cases hp : plainS x.kind x.num x.str x.parts.length x.keys.length = true
      · rw [hp] at hform
        have Hform := Lib.hid hform
        clear hform
        by_cases ha : a < 8
        · have hn2 : ¬ n ≤ 2048 := fun h => hg ⟨hp, ha, h⟩
          clear hg
          go_enter Tryz.func44, Tryz.ntmps44
          go_wp2_with (go_at_call 101; refine (Hform.out _).mono ?_; rintro e w3 ⟨rfl, hb3⟩)
          go_ret
          rw [Hw.out]
          exact ⟨rfl, bthen (hb1 _) hb3⟩
        · clear hg
          go_enter Tryz.func44, Tryz.ntmps44
          go_wp2_with (go_at_call 101; refine (Hform.out _).mono ?_; rintro e w3 ⟨rfl, hb3⟩)
          go_ret
          rw [Hw.out]
          exact ⟨rfl, bthen (hb1 _) hb3⟩
      · have hp' : plainS x.kind x.num x.str x.parts.length x.keys.length = false := by simpa using hp
        rw [hp'] at hform
        have Hform := Lib.hid hform
        clear hform hg
        go_enter Tryz.func44, Tryz.ntmps44
        go_wp2_with (go_at_call 101; refine (Hform.out _).mono ?_; rintro e w3 ⟨rfl, hb3⟩)
        go_ret
        rw [Hw.out]
        exact ⟨rfl, bthen (hb1 _) hb3⟩
end Go.Proofs.YtacaknkfddlklaaGreatDoor
