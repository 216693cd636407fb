/- Contracts of the reference's Expr and Program. Printed by gen_rp.py. -/
import Derived.Test.YthlfeiiolafonaaGreatDoorPrintRS
import Derived.Test.YthlfeiiolafonaaGreatDoorPrintRefRight
import Derived.Test.YthlfeiiolafonaaGreatDoorPrintWP2
import Derived.Test.YthlfeiiolafonaaGreatDoorRowK
set_option linter.unusedVariables false
set_option linter.unusedSimpArgs false
namespace Go.Proofs.YthlfeiiolafonaaGreatDoor
open Go.RowKit Go.IntWalk

theorem kcell {m : Nat} {w w' : World} (h : KeptTo m w w') {g o : Nat} {u : Value} (hg : g < m) (hc : w.cell? ⟨g, o, none⟩ = some u) : w'.cell? ⟨g, o, none⟩ = some u := by
  unfold World.cell? at hc ⊢
  rw [h.bel.block g hg]
  exact hc
theorem pars_step {l : List N} {m : Nat} (hm : m < l.length) (q : Nat) (hq : q < m) : parsT 0 ((l.take m).take (q + 1)) = parsT 0 ((l.take m).take q) ++ ((if q = 0 then [] else [44, 32]) ++ (l[q]'(by omega)).text) := by
  have h := parsT_take (l.take m) 0 q (by rw [List.length_take]; omega)
  rw [Nat.zero_add, List.getElem_take] at h
  exact h
set_option maxRecDepth 20000 in
set_option maxHeartbeats 2000000 in
theorem rf_Expr (n : N) (v : Value) (ok : Nat → Prop) (W : World) (hv : RdN ok W v n) :
    Calls Tryz.prog 9 #[v] W fun e1 w' => e1 = .returned (.tuple #[.string ⟨(exprS n).1.toArray⟩, .int .i64 (exprS n).2]) ∧ Below W.heap.size W w' := by
  obtain ⟨A, c, B, d, K, e, rfl, hn⟩ := hv.form
  have HV := Lib.hid hv
  have HBn := Lib.hid hv.bounds
  clear hn hv
  cases h1 : exprK n.kind with
  | false =>
    have hp := Lib.hid (show exprS n = ([], 180) by simp [exprS, rightE, h1])
    have H1 := Lib.hid h1
    clear h1
    go_enter Tryz.func9, Tryz.ntmps9
    go_wp2_with fail
    refine (rf_IsExpr n.kind _).mono ?_
    rintro e1 w1 ⟨rfl, rfl⟩
    rw [H1.out]
    go_wp2_with fail
    refine bodyPost_ret (results_tmp2 rfl _ _ _) rfl ?_
    exact ⟨by rw [hp.out]; rfl, one_al _ _⟩
  | true =>
    have HF := Lib.hid (fun W hv => ref_fits n (valN n A c B d K e) ok W hv)
    have HG := Lib.hid (fun W hv => rf_right (SizeOf.sizeOf n) n (valN n A c B d K e) ok W 0 hv (Nat.le_refl _) (by decide))
    have H1 := Lib.hid h1
    clear h1
    go_enter Tryz.func9, Tryz.ntmps9
    go_wp2_with fail
    refine (rf_IsExpr n.kind _).mono ?_
    rintro e1 w1 ⟨rfl, rfl⟩
    rw [H1.out]
    go_wp2_with fail
    refine (HF.out _ (HV.out.below (one_al _ _))).mono ?_
    rintro e1 w1 ⟨rfl, hb⟩
    have HB := Lib.hid (bthen (one_al _ _) hb)
    have HBx := Lib.hid hb
    obtain ⟨b0, b1, b2, b3, b4, b5, b6, b7, b8, b9⟩ := box10 hb
    clear hb
    cases hf : decide (nsize n ≤ 20000) with
    | false =>
      have hp := Lib.hid (show exprS n = ([], 180) by simp [exprS, rightE, fitsN, hf])
      clear hf
      go_wp2_with fail
      refine bodyPost_ret (results_tmp2 rfl _ _ _) rfl ?_
      exact ⟨by rw [hp.out]; rfl, HB.out⟩
    | true =>
      have HFd := Lib.hid hf
      clear hf
      go_wp2_with fail
      refine (HG.out _ (HV.out.below HB.out)).mono ?_
      rintro e2 w2 ⟨rfl, hb⟩
      have HB2 := Lib.hid (bthen HB.out hb)
      have HBy := Lib.hid (bthen HBx.out hb)
      clear hb b0 b1 b2 b3 b4 b5 b6 b7 b8 b9
      obtain ⟨b0, b1, b2, b3, b4, b5, b6, b7, b8, b9⟩ := box10 HBy.out
      cases hr : rightN 0 n with
      | false =>
        have hp := Lib.hid (show exprS n = ([], 180) by simp [exprS, rightE, hr])
        clear hr
        go_wp2_with fail
        refine bodyPost_ret (results_tmp2 rfl _ _ _) rfl ?_
        exact ⟨by rw [hp.out]; rfl, HB2.out⟩
      | true =>
        have hp := Lib.hid (show exprS n = (exprT n, 0) by simp [exprS, rightE, hr, fitsN, H1.out, HFd.out])
        have HW := Lib.hid (fun (W1 : World) (hv1 : RdN ok W1 (valN n A c B d K e) n) => rf_expr (SizeOf.sizeOf n + 1) n (Nat.lt_succ_self _) (valN n A c B d K e) ok W1 hv1 ⟨0, hr⟩ (.inl H1.out) (by have := expr_room HBn.out (of_decide_eq_true HFd.out); omega))
        clear hr
        go_wp2_with fail
        refine (HW.out _ (HV.out.below HB2.out)).mono ?_
        rintro e3 w3 ⟨rfl, hb⟩
        have HB3 := Lib.hid (bthen HB2.out hb)
        clear hb b0 b1 b2 b3 b4 b5 b6 b7 b8 b9
        go_wp2_with fail
        refine bodyPost_ret (results_tmp2 rfl _ _ _) rfl ?_
        exact ⟨by rw [hp.out]; rfl, HB3.out⟩
set_option maxRecDepth 20000 in
set_option maxHeartbeats 8000000 in
theorem rf_Program (n : N) (v : Value) (ok : Nat → Prop) (W : World) (hv : RdN ok W v n) :
    Calls Tryz.prog 8 #[v] W fun e1 w' => e1 = .returned (.tuple #[.string ⟨(progS n).1.toArray⟩, .int .i64 (progS n).2]) ∧ Below W.heap.size W w' := by
  obtain ⟨A, c, B, d, K, e, rfl, hn⟩ := hv.form
  have hlen := hn.len
  have HKids := Lib.hid (show RdNs (fun k => k < W.heap.size) W (.slice K n.kids.length e) 0 n.kids from by have h := hv.lows; cases n; exact kids_of h)
  have HV := Lib.hid hv
  have HBn := Lib.hid hv.bounds
  have HR := Lib.hid (fun W hv => rf_Right n (valN n A c B d K e) ok W hv)
  clear hn hv
  go_enter Tryz.func8, Tryz.ntmps8
  go_wp2_with fail
  refine (HR.out _ (HV.out.below (one_al _ _))).mono ?_
  rintro e1 w2 ⟨rfl, hb⟩
  have HB2 := Lib.hid (bthen (one_al _ _) hb)
  have HNb := Lib.hid (show HeldN W.heap.size _ _ _ _ _ _ _ _ _ _ w2 from Held.below (Held.at (W := W) rfl) hb)
  clear hb HR
  cases hr : rightP n with
  | false =>
    have hp := Lib.hid (show progS n = ([], 180) by simp [progS, hr])
    clear hr
    go_wp2_with fail
    refine bodyPost_ret (results_tmp2 rfl _ _ _) rfl ?_
    exact ⟨by rw [hp.out]; rfl, HB2.out⟩
  | true =>
    have hp := Lib.hid (show progS n = (fnsT 0 n.kids, 0) by simp [progS, hr])
    have hr' := hr
    unfold rightP at hr'
    simp only [Bool.and_eq_true] at hr'
    obtain ⟨hk1, hfit, hrn⟩ := hr'
    have hroom := prog_room HBn.out (of_decide_eq_true hfit)
    have hkr := right_kids hrn
    have hk2 : ∀ y ∈ n.kids, y.kind = 2 := by
      have hs := (right_said hrn).2
      rw [of_decide_eq_true hk1] at hs
      simp only [shapeK] at hs
      intro y hy
      have h2 : (n.kids.map N.kind).all (· == 2) = true := by simpa using hs
      rw [List.all_map, List.all_eq_true] at h2
      simpa using h2 y hy
    have Hrm := Lib.hid hroom
    have Hkr := Lib.hid hkr
    have Hk2 := Lib.hid hk2
    have HWw := Lib.hid (show W.heap.size ≤ w2.heap.size from HB2.out.size)
    clear hr hk1 hfit hrn hroom hkr hk2
    have HKl := Lib.hid (fun (W1 : World) (hb : KeptTo w2.heap.size w2 W1) => ((HKids.out.imp (fun k hk => Nat.lt_of_lt_of_le hk HWw.out)).below HB2.out).lo hb.bel)
    clear HKids
    go_wp2_with fail
    go_loopw [5, 6] (fun u j wr => ∃ k : Nat, k ≤ n.kids.length ∧ j = .int .i64 (k : Int) ∧ RowB w2.heap.size wr u (fnsT 0 (n.kids.take k)) ∧ KeptTo w2.heap.size w2 wr) (fun _ j _ => n.kids.length - (intOf j).toNat)
    case atStart => exact ⟨0, Nat.zero_le _, rfl, RowB.nil _ _, KeptTo.refl _ _⟩
    case round =>
      obtain ⟨k, hk, rfl, hO, hB⟩ := hrel
      have HO := Lib.hid hO
      have HT := Lib.hid hB
      have HN := Lib.hid (Held.kt HNb.out (by decide) hB)
      have Hsz := Lib.hid hB.bel.size
      clear hO hB
      obtain ⟨n0, n1, n2, n3, n4, n5, n6, n7, n8, n9⟩ := HeldN.facts HN.out
      by_cases hlt : k < n.kids.length
      · have hlA : (k : Int) < (n.kids.length : Int) := by omega
        have h00 : (0 : Int) ≤ (k : Int) := by omega
        have hst := fnsT_take n.kids 0 k hlt
        have hln := fnsT_len_take n.kids 0 (k + 1)
        rw [Nat.zero_add] at hst
        have hmem := List.getElem_mem hlt
        obtain ⟨o, hro⟩ := Hkr.out _ hmem
        have hky := Hk2.out _ hmem
        have HElk := Lib.hid (fun (W1 : World) (hb : KeptTo w2.heap.size w2 W1) => (HKl.out _ hb).elem k hlt)
        obtain ⟨g, off, A', c', B', d', K', e', rfl, hgk, hk', k0, k1, k2, k3, k4, k5, k6, k7, k8, k9⟩ := HElk.out _ HT.out
        have HG := Lib.hid hgk
        clear hgk
        generalize n.kids[k] = Y at *
        rw [fnT_eq] at hst
        obtain ⟨m, hm, hlm, hzk⟩ := fn_shape hky hro
        have hkrY := right_kids hro
        have hdl : Y.kids.dropLast = Y.kids.take m := by rw [List.dropLast_eq_take, hlm]; rfl
        rw [hdl, hlm, show m + 1 - 1 = m by omega, blkT_at hm] at hst
        generalize fnsT 0 (n.kids.take k) = r at *
        rw [hst] at hln
        have HS := Lib.hid hst
        have hYl := hk'.len
        have htl := hk'.text
        have hm0 : (0 : Int) ≤ (m : Int) := by omega
        have hm1 : (m : Int) ≤ 16777215 := by omega
        have hlp : (blockT 0 (Y.kids[m]'hm)).length ≤ 2690000000000 := by have h2 := Hrm.out; simp only [List.length_append, List.length_cons, List.length_nil] at hln; omega
        have Hbd := Lib.hid (show r.length + Y.text.length + (parsT 0 (Y.kids.take m)).length + (blockT 0 (Y.kids[m]'hm)).length ≤ 2690000000000 by have h2 := Hrm.out; simp only [List.length_append, List.length_cons, List.length_nil] at hln; omega)
        have HBlk := Lib.hid (fun (v : Value) (W1 : World) (z : Int) (hz : z = ((0 : Nat) : Int)) (hv1 : RdN (fun k => k < w2.heap.size) W1 v (Y.kids[m]'hm)) => hz ▸ rf_block (Y.kids[m]'hm) (rf_statement _) v (fun k => k < w2.heap.size) W1 0 hv1 (hkrY _ (List.getElem_mem hm)) hzk (by omega))
        have hkn := hk'.kids
        have HEl := Lib.hid (fun (W1 : World) (hb : KeptTo w2.heap.size wr W1) (j : Nat) (hj : j < Y.kids.length) => (hkn.lo hb.bel).elem j hj)
        rw [hlm] at k8
        have HSt := Lib.hid (fun q hq => pars_step hm q hq)
        have Hm := Lib.hid hm
        have HEm := Lib.hid (fun (W1 : World) (hb : KeptTo w2.heap.size wr W1) => HEl.out W1 hb m hm)
        obtain ⟨g2, off2, _, _, _, _, _, _, rfl, hgk, _⟩ := HEm.out _ (KeptTo.refl _ _)
        have HG2 := Lib.hid hgk
        generalize Y.kids[m]'hm = Z at *
        clear hst hln hmem hk' hkn hro hky hkrY hzk hdl hlm hYl htl hlp hgk
        by_cases hk0 : k = 0
        · cases hfl : Y.flag with
          | false =>
            rw [hfl] at k7
            have Hfl := Lib.hid hfl
            clear hfl
            have hpos : ¬ (0 : Int) < (k : Int) := by omega
            have Hk0 := Lib.hid hk0
            clear hk0
            go_upto_region 10 with fail
            have HU := Lib.hid (KeptTo.refl w2.heap.size wr)
            have HX := Lib.hid (show HeldN wr.heap.size _ _ _ _ _ _ _ _ _ _ (wr.alloc (.cells #[.int .i64 Y.kind, .string ⟨Y.text.toArray⟩, .int .i64 Y.val.kind, .int .i64 Y.val.num, .string ⟨Y.val.str.toArray⟩, .slice A' Y.val.parts.length c', .slice B' Y.val.keys.length d', .bool false, .slice (some ⟨g2, off2, none⟩) (m + 1) e', .int .i64 Y.spot] 28)) from Held.at rfl)
            have HU := Lib.hid (HU.out.more (one_al wr (.cells #[.int .i64 Y.kind, .string ⟨Y.text.toArray⟩, .int .i64 Y.val.kind, .int .i64 Y.val.num, .string ⟨Y.val.str.toArray⟩, .slice A' Y.val.parts.length c', .slice B' Y.val.keys.length d', .bool false, .slice (some ⟨g2, off2, none⟩) (m + 1) e', .int .i64 Y.spot] 28)) (by have := HT.out.bel.size; exact this))
            have HO := Lib.hid (HO.out.below (one_al wr (.cells #[.int .i64 Y.kind, .string ⟨Y.text.toArray⟩, .int .i64 Y.val.kind, .int .i64 Y.val.num, .string ⟨Y.val.str.toArray⟩, .slice A' Y.val.parts.length c', .slice B' Y.val.keys.length d', .bool false, .slice (some ⟨g2, off2, none⟩) (m + 1) e', .int .i64 Y.spot] 28)))
            have HN := Lib.hid (Held.below HN.out (one_al wr (.cells #[.int .i64 Y.kind, .string ⟨Y.text.toArray⟩, .int .i64 Y.val.kind, .int .i64 Y.val.num, .string ⟨Y.val.str.toArray⟩, .slice A' Y.val.parts.length c', .slice B' Y.val.keys.length d', .bool false, .slice (some ⟨g2, off2, none⟩) (m + 1) e', .int .i64 Y.spot] 28)))
            have HT := Lib.hid (HT.out.more (one_al wr (.cells #[.int .i64 Y.kind, .string ⟨Y.text.toArray⟩, .int .i64 Y.val.kind, .int .i64 Y.val.num, .string ⟨Y.val.str.toArray⟩, .slice A' Y.val.parts.length c', .slice B' Y.val.keys.length d', .bool false, .slice (some ⟨g2, off2, none⟩) (m + 1) e', .int .i64 Y.spot] 28)) (by have := HT.out.bel.size; exact this))
            obtain ⟨x0, x1, x2, x3, x4, x5, x6, x7, x8, x9⟩ := HeldN.facts HX.out
            go_wp2_with (first
              | (at_builtin; refine wpRowK_str _ [102, 110, 32] (.tmp 34) (.const (.string ⟨#[102, 110, 32]⟩)) rfl rfl rfl rfl HO.out HT.out (Nat.le_refl _) (by have := Hbd.out; (try simp only [List.length_append, List.length_cons, List.length_nil]); omega) ?_; intro v1 w1 hO hK1 hK; have HO := Lib.hid hO; have HT := Lib.hid hK; have HU := Lib.hid (HU.out.trans hK1); have HX := Lib.hid (Held.kt HX.out (by decide) hK1); have HN := Lib.hid (Held.kt HN.out (by decide) hK1); clear hO hK1 hK x0 x1 x2 x3 x4 x5 x6 x7 x8 x9; obtain ⟨x0, x1, x2, x3, x4, x5, x6, x7, x8, x9⟩ := HeldN.facts HX.out)
              | (at_builtin; refine wpRowK_str _ Y.text (.tmp 36) (.tmp 38) rfl rfl rfl rfl HO.out HT.out (Nat.le_refl _) (by have := Hbd.out; (try simp only [List.length_append, List.length_cons, List.length_nil]); omega) ?_; intro v1 w1 hO hK1 hK; have HO := Lib.hid hO; have HT := Lib.hid hK; have HU := Lib.hid (HU.out.trans hK1); have HX := Lib.hid (Held.kt HX.out (by decide) hK1); have HN := Lib.hid (Held.kt HN.out (by decide) hK1); clear hO hK1 hK x0 x1 x2 x3 x4 x5 x6 x7 x8 x9; obtain ⟨x0, x1, x2, x3, x4, x5, x6, x7, x8, x9⟩ := HeldN.facts HX.out)
              | (at_builtin; refine wpRowK_row _ [40] (by simp) (.tmp 40) (.tmp 41) rfl rfl _ rfl 1 1 rfl rfl rfl HO.out HT.out (Nat.le_refl _) (by have := Hbd.out; (try simp only [List.length_append, List.length_cons, List.length_nil]); omega) ?_; intro v1 w1 hO hK1 hK; have HO := Lib.hid hO; have HT := Lib.hid hK; have HU := Lib.hid (HU.out.trans hK1); have HX := Lib.hid (Held.kt HX.out (by decide) hK1); have HN := Lib.hid (Held.kt HN.out (by decide) hK1); clear hO hK1 hK x0 x1 x2 x3 x4 x5 x6 x7 x8 x9; obtain ⟨x0, x1, x2, x3, x4, x5, x6, x7, x8, x9⟩ := HeldN.facts HX.out)
              | fail)
            go_loopw [5, 8] (fun u j wz => ∃ q : Nat, q ≤ m ∧ j = .int .i64 (q : Int) ∧ RowB w2.heap.size wz u (r ++ [102, 110, 32] ++ Y.text ++ [40] ++ parsT 0 ((Y.kids.take m).take q)) ∧ KeptTo w2.heap.size w2 wz ∧ KeptTo w2.heap.size wr wz ∧ HeldN wr.heap.size (.int .i64 Y.kind) (.string ⟨Y.text.toArray⟩) (.int .i64 Y.val.kind) (.int .i64 Y.val.num) (.string ⟨Y.val.str.toArray⟩) (.slice A' Y.val.parts.length c') (.slice B' Y.val.keys.length d') (.bool false) (.slice (some ⟨g2, off2, none⟩) (m + 1) e') (.int .i64 Y.spot) wz ∧ HeldN W.heap.size (.int .i64 n.kind) (.string ⟨n.text.toArray⟩) (.int .i64 n.val.kind) (.int .i64 n.val.num) (.string ⟨n.val.str.toArray⟩) (.slice A n.val.parts.length c) (.slice B n.val.keys.length d) (.bool n.flag) (.slice (some ⟨g, off, none⟩) n.kids.length e) (.int .i64 n.spot) wz) (fun _ j _ => m - (intOf j).toNat)
            case atStart => exact ⟨0, Nat.zero_le _, rfl, by rw [List.take_zero, parsT, List.append_nil]; exact HO.out, HT.out, HU.out, HX.out, HN.out⟩
            case round =>
              obtain ⟨q, hq, rfl, hO, hT, hU, hX, hN⟩ := hrel
              have HO := Lib.hid hO
              have HT := Lib.hid hT
              have HU := Lib.hid hU
              have HX := Lib.hid hX
              have HN := Lib.hid hN
              clear hO hT hU hX hN x0 x1 x2 x3 x4 x5 x6 x7 x8 x9
              obtain ⟨x0, x1, x2, x3, x4, x5, x6, x7, x8, x9⟩ := HeldN.facts HX.out
              have hq0 : (0 : Int) ≤ (q : Int) := by omega
              by_cases hqm : q < m
              · have hlB : (q : Int) + 1 < (m : Int) + 1 := by omega
                have hlC : (q : Int) < (m : Int) := by omega
                have hst := HSt.out q hqm
                have hln := parsT_len_take (Y.kids.take m) 0 (q + 1)
                obtain ⟨g3, off3, A3, c3, B3, d3, K3, e3, hg, _, hz', z0, z1, z2, z3, z4, z5, z6, z7, z8, z9⟩ := HEl.out _ HU.out q (by have := Hm.out; omega)
                injection hg with hg
                injection hg with hg1 hg2
                subst hg1 hg2
                clear hz' z0 z2 z3 z4 z5 z6 z7 z8 z9
                generalize (Y.kids[q]'(by have := Hm.out; omega)) = Q at *
                rw [hst] at hln
                have HS2 := Lib.hid hst
                clear hst
                have Hb2 := Lib.hid (show (parsT 0 ((Y.kids.take m).take q)).length + Q.text.length ≤ (parsT 0 (Y.kids.take m)).length by simp only [List.length_append] at hln; omega)
                clear hln
                by_cases hq1 : q = 0
                · have hpq : ¬ (0 : Int) < (q : Int) := by omega
                  have Hq1 := Lib.hid hq1
                  clear hq1
                  go_wp2_with (first
                    | (at_builtin; refine wpRowK_str _ Q.text (.tmp 55) (.tmp 61) rfl rfl rfl rfl HO.out HT.out (Nat.le_refl _) (by have h1 := Hbd.out; have h2 := Hb2.out; (try simp only [List.length_append, List.length_cons, List.length_nil]); omega) ?_; intro v1 w1 hO hK1 hK; have HO := Lib.hid hO; have HT := Lib.hid hK; have HU := Lib.hid (HU.out.trans hK1); have HX := Lib.hid (Held.kt HX.out (by decide) hK1); have HN := Lib.hid (Held.kt HN.out (by decide) hK1); clear hO hK1 hK x0 x1 x2 x3 x4 x5 x6 x7 x8 x9; obtain ⟨x0, x1, x2, x3, x4, x5, x6, x7, x8, x9⟩ := HeldN.facts HX.out)
                    | fail)
                  exact ⟨⟨q + 1, by omega, by go_num, by rw [HS2.out, if_pos Hq1.out]; have := HO.out; simpa using this, HT.out, HU.out, HX.out, HN.out⟩, by simp [intOf]; omega⟩
                · have hpq : (0 : Int) < (q : Int) := by omega
                  have Hq1 := Lib.hid hq1
                  clear hq1
                  go_wp2_with (first
                    | (at_builtin; refine wpRowK_str _ [44, 32] (.tmp 53) (.const (.string ⟨#[44, 32]⟩)) rfl rfl rfl rfl HO.out HT.out (Nat.le_refl _) (by have h1 := Hbd.out; have h2 := Hb2.out; (try simp only [List.length_append, List.length_cons, List.length_nil]); omega) ?_; intro v1 w1 hO hK1 hK; have HO := Lib.hid hO; have HT := Lib.hid hK; have HU := Lib.hid (HU.out.trans hK1); have HX := Lib.hid (Held.kt HX.out (by decide) hK1); have HN := Lib.hid (Held.kt HN.out (by decide) hK1); have z1 := kcell hK1 HG2.out z1; clear hO hK1 hK x0 x1 x2 x3 x4 x5 x6 x7 x8 x9; obtain ⟨x0, x1, x2, x3, x4, x5, x6, x7, x8, x9⟩ := HeldN.facts HX.out)
                    | (at_builtin; refine wpRowK_str _ Q.text (.tmp 55) (.tmp 61) rfl rfl rfl rfl HO.out HT.out (Nat.le_refl _) (by have h1 := Hbd.out; have h2 := Hb2.out; (try simp only [List.length_append, List.length_cons, List.length_nil]); omega) ?_; intro v1 w1 hO hK1 hK; have HO := Lib.hid hO; have HT := Lib.hid hK; have HU := Lib.hid (HU.out.trans hK1); have HX := Lib.hid (Held.kt HX.out (by decide) hK1); have HN := Lib.hid (Held.kt HN.out (by decide) hK1); clear hO hK1 hK x0 x1 x2 x3 x4 x5 x6 x7 x8 x9; obtain ⟨x0, x1, x2, x3, x4, x5, x6, x7, x8, x9⟩ := HeldN.facts HX.out)
                    | fail)
                  exact ⟨⟨q + 1, by omega, by go_num, by rw [HS2.out, if_neg Hq1.out]; have := HO.out; simpa using this, HT.out, HU.out, HX.out, HN.out⟩, by simp [intOf]; omega⟩
              · have hlB : ¬ (q : Int) + 1 < (m : Int) + 1 := by omega
                have hlC : ¬ (q : Int) < (m : Int) := by omega
                have hqe : q = m := by omega
                rw [hqe, List.take_take, Nat.min_self] at HO
                clear hqe
                go_wp2_with (first
                  | (at_builtin; refine wpRowK_str _ [41, 32] (.tmp 63) (.const (.string ⟨#[41, 32]⟩)) rfl rfl rfl rfl HO.out HT.out (Nat.le_refl _) (by have := Hbd.out; (try simp only [List.length_append, List.length_cons, List.length_nil]); omega) ?_; intro v1 w1 hO hK1 hK; have HO := Lib.hid hO; have HT := Lib.hid hK; have HU := Lib.hid (HU.out.trans hK1); have HX := Lib.hid (Held.kt HX.out (by decide) hK1); have HN := Lib.hid (Held.kt HN.out (by decide) hK1); clear hO hK1 hK x0 x1 x2 x3 x4 x5 x6 x7 x8 x9; obtain ⟨x0, x1, x2, x3, x4, x5, x6, x7, x8, x9⟩ := HeldN.facts HX.out; obtain ⟨g3, off3, A3, c3, B3, d3, K3, e3, hg, _, hz', z0, z1, z2, z3, z4, z5, z6, z7, z8, z9⟩ := HEm.out _ HU.out; injection hg with hg; injection hg with hg1 hg2; subst hg1 hg2; have HZ := Lib.hid hz'.rd; clear hz')
                  | fail)
                refine (HBlk.out _ _ _ rfl HZ.out).mono ?_
                rintro e9 w9 ⟨rfl, hb⟩
                have HO := Lib.hid (HO.out.below hb)
                have HU := Lib.hid (HU.out.more hb HT.out.bel.size)
                have HT := Lib.hid (HT.out.more hb HT.out.bel.size)
                have HX := Lib.hid (Held.below HX.out hb)
                have HN := Lib.hid (Held.below HN.out hb)
                clear hb x0 x1 x2 x3 x4 x5 x6 x7 x8 x9 z0 z1 z2 z3 z4 z5 z6 z7 z8 z9
                obtain ⟨x0, x1, x2, x3, x4, x5, x6, x7, x8, x9⟩ := HeldN.facts HX.out
                go_wp2_with (first
                  | (at_builtin; refine wpRowK_str _ (blockT 0 Z) (.tmp 65) (.tmp 74) rfl rfl rfl rfl HO.out HT.out (Nat.le_refl _) (by have := Hbd.out; (try simp only [List.length_append, List.length_cons, List.length_nil]); omega) ?_; intro v1 w1 hO hK1 hK; have HO := Lib.hid hO; have HT := Lib.hid hK; have HU := Lib.hid (HU.out.trans hK1); have HX := Lib.hid (Held.kt HX.out (by decide) hK1); have HN := Lib.hid (Held.kt HN.out (by decide) hK1); clear hO hK1 hK x0 x1 x2 x3 x4 x5 x6 x7 x8 x9; obtain ⟨x0, x1, x2, x3, x4, x5, x6, x7, x8, x9⟩ := HeldN.facts HX.out)
                  | (at_builtin; refine wpRowK_row _ [10] (by simp) (.tmp 76) (.tmp 77) rfl rfl _ rfl 1 1 rfl rfl rfl HO.out HT.out (Nat.le_refl _) (by have := Hbd.out; (try simp only [List.length_append, List.length_cons, List.length_nil]); omega) ?_; intro v1 w1 hO hK1 hK; have HO := Lib.hid hO; have HT := Lib.hid hK; have HU := Lib.hid (HU.out.trans hK1); have HX := Lib.hid (Held.kt HX.out (by decide) hK1); have HN := Lib.hid (Held.kt HN.out (by decide) hK1); clear hO hK1 hK x0 x1 x2 x3 x4 x5 x6 x7 x8 x9; obtain ⟨x0, x1, x2, x3, x4, x5, x6, x7, x8, x9⟩ := HeldN.facts HX.out)
                  | fail)
                exact ⟨⟨k + 1, by omega, by go_num, by rw [HS.out]; have := HO.out; simpa [Hk0.out, Hfl.out] using this, HT.out⟩, by simp [intOf]; omega⟩
          | true =>
            rw [hfl] at k7
            have Hfl := Lib.hid hfl
            clear hfl
            have hpos : ¬ (0 : Int) < (k : Int) := by omega
            have Hk0 := Lib.hid hk0
            clear hk0
            go_upto_region 10 with fail
            have HU := Lib.hid (KeptTo.refl w2.heap.size wr)
            have HX := Lib.hid (show HeldN wr.heap.size _ _ _ _ _ _ _ _ _ _ (wr.alloc (.cells #[.int .i64 Y.kind, .string ⟨Y.text.toArray⟩, .int .i64 Y.val.kind, .int .i64 Y.val.num, .string ⟨Y.val.str.toArray⟩, .slice A' Y.val.parts.length c', .slice B' Y.val.keys.length d', .bool true, .slice (some ⟨g2, off2, none⟩) (m + 1) e', .int .i64 Y.spot] 28)) from Held.at rfl)
            have HU := Lib.hid (HU.out.more (one_al wr (.cells #[.int .i64 Y.kind, .string ⟨Y.text.toArray⟩, .int .i64 Y.val.kind, .int .i64 Y.val.num, .string ⟨Y.val.str.toArray⟩, .slice A' Y.val.parts.length c', .slice B' Y.val.keys.length d', .bool true, .slice (some ⟨g2, off2, none⟩) (m + 1) e', .int .i64 Y.spot] 28)) (by have := HT.out.bel.size; exact this))
            have HO := Lib.hid (HO.out.below (one_al wr (.cells #[.int .i64 Y.kind, .string ⟨Y.text.toArray⟩, .int .i64 Y.val.kind, .int .i64 Y.val.num, .string ⟨Y.val.str.toArray⟩, .slice A' Y.val.parts.length c', .slice B' Y.val.keys.length d', .bool true, .slice (some ⟨g2, off2, none⟩) (m + 1) e', .int .i64 Y.spot] 28)))
            have HN := Lib.hid (Held.below HN.out (one_al wr (.cells #[.int .i64 Y.kind, .string ⟨Y.text.toArray⟩, .int .i64 Y.val.kind, .int .i64 Y.val.num, .string ⟨Y.val.str.toArray⟩, .slice A' Y.val.parts.length c', .slice B' Y.val.keys.length d', .bool true, .slice (some ⟨g2, off2, none⟩) (m + 1) e', .int .i64 Y.spot] 28)))
            have HT := Lib.hid (HT.out.more (one_al wr (.cells #[.int .i64 Y.kind, .string ⟨Y.text.toArray⟩, .int .i64 Y.val.kind, .int .i64 Y.val.num, .string ⟨Y.val.str.toArray⟩, .slice A' Y.val.parts.length c', .slice B' Y.val.keys.length d', .bool true, .slice (some ⟨g2, off2, none⟩) (m + 1) e', .int .i64 Y.spot] 28)) (by have := HT.out.bel.size; exact this))
            obtain ⟨x0, x1, x2, x3, x4, x5, x6, x7, x8, x9⟩ := HeldN.facts HX.out
            go_wp2_with (first
              | (at_builtin; refine wpRowK_str _ [101, 120, 112, 111, 114, 116, 32] (.tmp 32) (.const (.string ⟨#[101, 120, 112, 111, 114, 116, 32]⟩)) rfl rfl rfl rfl HO.out HT.out (Nat.le_refl _) (by have := Hbd.out; (try simp only [List.length_append, List.length_cons, List.length_nil]); omega) ?_; intro v1 w1 hO hK1 hK; have HO := Lib.hid hO; have HT := Lib.hid hK; have HU := Lib.hid (HU.out.trans hK1); have HX := Lib.hid (Held.kt HX.out (by decide) hK1); have HN := Lib.hid (Held.kt HN.out (by decide) hK1); clear hO hK1 hK x0 x1 x2 x3 x4 x5 x6 x7 x8 x9; obtain ⟨x0, x1, x2, x3, x4, x5, x6, x7, x8, x9⟩ := HeldN.facts HX.out)
              | (at_builtin; refine wpRowK_str _ [102, 110, 32] (.tmp 34) (.const (.string ⟨#[102, 110, 32]⟩)) rfl rfl rfl rfl HO.out HT.out (Nat.le_refl _) (by have := Hbd.out; (try simp only [List.length_append, List.length_cons, List.length_nil]); omega) ?_; intro v1 w1 hO hK1 hK; have HO := Lib.hid hO; have HT := Lib.hid hK; have HU := Lib.hid (HU.out.trans hK1); have HX := Lib.hid (Held.kt HX.out (by decide) hK1); have HN := Lib.hid (Held.kt HN.out (by decide) hK1); clear hO hK1 hK x0 x1 x2 x3 x4 x5 x6 x7 x8 x9; obtain ⟨x0, x1, x2, x3, x4, x5, x6, x7, x8, x9⟩ := HeldN.facts HX.out)
              | (at_builtin; refine wpRowK_str _ Y.text (.tmp 36) (.tmp 38) rfl rfl rfl rfl HO.out HT.out (Nat.le_refl _) (by have := Hbd.out; (try simp only [List.length_append, List.length_cons, List.length_nil]); omega) ?_; intro v1 w1 hO hK1 hK; have HO := Lib.hid hO; have HT := Lib.hid hK; have HU := Lib.hid (HU.out.trans hK1); have HX := Lib.hid (Held.kt HX.out (by decide) hK1); have HN := Lib.hid (Held.kt HN.out (by decide) hK1); clear hO hK1 hK x0 x1 x2 x3 x4 x5 x6 x7 x8 x9; obtain ⟨x0, x1, x2, x3, x4, x5, x6, x7, x8, x9⟩ := HeldN.facts HX.out)
              | (at_builtin; refine wpRowK_row _ [40] (by simp) (.tmp 40) (.tmp 41) rfl rfl _ rfl 1 1 rfl rfl rfl HO.out HT.out (Nat.le_refl _) (by have := Hbd.out; (try simp only [List.length_append, List.length_cons, List.length_nil]); omega) ?_; intro v1 w1 hO hK1 hK; have HO := Lib.hid hO; have HT := Lib.hid hK; have HU := Lib.hid (HU.out.trans hK1); have HX := Lib.hid (Held.kt HX.out (by decide) hK1); have HN := Lib.hid (Held.kt HN.out (by decide) hK1); clear hO hK1 hK x0 x1 x2 x3 x4 x5 x6 x7 x8 x9; obtain ⟨x0, x1, x2, x3, x4, x5, x6, x7, x8, x9⟩ := HeldN.facts HX.out)
              | fail)
            go_loopw [5, 8] (fun u j wz => ∃ q : Nat, q ≤ m ∧ j = .int .i64 (q : Int) ∧ RowB w2.heap.size wz u (r ++ [101, 120, 112, 111, 114, 116, 32] ++ [102, 110, 32] ++ Y.text ++ [40] ++ parsT 0 ((Y.kids.take m).take q)) ∧ KeptTo w2.heap.size w2 wz ∧ KeptTo w2.heap.size wr wz ∧ HeldN wr.heap.size (.int .i64 Y.kind) (.string ⟨Y.text.toArray⟩) (.int .i64 Y.val.kind) (.int .i64 Y.val.num) (.string ⟨Y.val.str.toArray⟩) (.slice A' Y.val.parts.length c') (.slice B' Y.val.keys.length d') (.bool true) (.slice (some ⟨g2, off2, none⟩) (m + 1) e') (.int .i64 Y.spot) wz ∧ HeldN W.heap.size (.int .i64 n.kind) (.string ⟨n.text.toArray⟩) (.int .i64 n.val.kind) (.int .i64 n.val.num) (.string ⟨n.val.str.toArray⟩) (.slice A n.val.parts.length c) (.slice B n.val.keys.length d) (.bool n.flag) (.slice (some ⟨g, off, none⟩) n.kids.length e) (.int .i64 n.spot) wz) (fun _ j _ => m - (intOf j).toNat)
            case atStart => exact ⟨0, Nat.zero_le _, rfl, by rw [List.take_zero, parsT, List.append_nil]; exact HO.out, HT.out, HU.out, HX.out, HN.out⟩
            case round =>
              obtain ⟨q, hq, rfl, hO, hT, hU, hX, hN⟩ := hrel
              have HO := Lib.hid hO
              have HT := Lib.hid hT
              have HU := Lib.hid hU
              have HX := Lib.hid hX
              have HN := Lib.hid hN
              clear hO hT hU hX hN x0 x1 x2 x3 x4 x5 x6 x7 x8 x9
              obtain ⟨x0, x1, x2, x3, x4, x5, x6, x7, x8, x9⟩ := HeldN.facts HX.out
              have hq0 : (0 : Int) ≤ (q : Int) := by omega
              by_cases hqm : q < m
              · have hlB : (q : Int) + 1 < (m : Int) + 1 := by omega
                have hlC : (q : Int) < (m : Int) := by omega
                have hst := HSt.out q hqm
                have hln := parsT_len_take (Y.kids.take m) 0 (q + 1)
                obtain ⟨g3, off3, A3, c3, B3, d3, K3, e3, hg, _, hz', z0, z1, z2, z3, z4, z5, z6, z7, z8, z9⟩ := HEl.out _ HU.out q (by have := Hm.out; omega)
                injection hg with hg
                injection hg with hg1 hg2
                subst hg1 hg2
                clear hz' z0 z2 z3 z4 z5 z6 z7 z8 z9
                generalize (Y.kids[q]'(by have := Hm.out; omega)) = Q at *
                rw [hst] at hln
                have HS2 := Lib.hid hst
                clear hst
                have Hb2 := Lib.hid (show (parsT 0 ((Y.kids.take m).take q)).length + Q.text.length ≤ (parsT 0 (Y.kids.take m)).length by simp only [List.length_append] at hln; omega)
                clear hln
                by_cases hq1 : q = 0
                · have hpq : ¬ (0 : Int) < (q : Int) := by omega
                  have Hq1 := Lib.hid hq1
                  clear hq1
                  go_wp2_with (first
                    | (at_builtin; refine wpRowK_str _ Q.text (.tmp 55) (.tmp 61) rfl rfl rfl rfl HO.out HT.out (Nat.le_refl _) (by have h1 := Hbd.out; have h2 := Hb2.out; (try simp only [List.length_append, List.length_cons, List.length_nil]); omega) ?_; intro v1 w1 hO hK1 hK; have HO := Lib.hid hO; have HT := Lib.hid hK; have HU := Lib.hid (HU.out.trans hK1); have HX := Lib.hid (Held.kt HX.out (by decide) hK1); have HN := Lib.hid (Held.kt HN.out (by decide) hK1); clear hO hK1 hK x0 x1 x2 x3 x4 x5 x6 x7 x8 x9; obtain ⟨x0, x1, x2, x3, x4, x5, x6, x7, x8, x9⟩ := HeldN.facts HX.out)
                    | fail)
                  exact ⟨⟨q + 1, by omega, by go_num, by rw [HS2.out, if_pos Hq1.out]; have := HO.out; simpa using this, HT.out, HU.out, HX.out, HN.out⟩, by simp [intOf]; omega⟩
                · have hpq : (0 : Int) < (q : Int) := by omega
                  have Hq1 := Lib.hid hq1
                  clear hq1
                  go_wp2_with (first
                    | (at_builtin; refine wpRowK_str _ [44, 32] (.tmp 53) (.const (.string ⟨#[44, 32]⟩)) rfl rfl rfl rfl HO.out HT.out (Nat.le_refl _) (by have h1 := Hbd.out; have h2 := Hb2.out; (try simp only [List.length_append, List.length_cons, List.length_nil]); omega) ?_; intro v1 w1 hO hK1 hK; have HO := Lib.hid hO; have HT := Lib.hid hK; have HU := Lib.hid (HU.out.trans hK1); have HX := Lib.hid (Held.kt HX.out (by decide) hK1); have HN := Lib.hid (Held.kt HN.out (by decide) hK1); have z1 := kcell hK1 HG2.out z1; clear hO hK1 hK x0 x1 x2 x3 x4 x5 x6 x7 x8 x9; obtain ⟨x0, x1, x2, x3, x4, x5, x6, x7, x8, x9⟩ := HeldN.facts HX.out)
                    | (at_builtin; refine wpRowK_str _ Q.text (.tmp 55) (.tmp 61) rfl rfl rfl rfl HO.out HT.out (Nat.le_refl _) (by have h1 := Hbd.out; have h2 := Hb2.out; (try simp only [List.length_append, List.length_cons, List.length_nil]); omega) ?_; intro v1 w1 hO hK1 hK; have HO := Lib.hid hO; have HT := Lib.hid hK; have HU := Lib.hid (HU.out.trans hK1); have HX := Lib.hid (Held.kt HX.out (by decide) hK1); have HN := Lib.hid (Held.kt HN.out (by decide) hK1); clear hO hK1 hK x0 x1 x2 x3 x4 x5 x6 x7 x8 x9; obtain ⟨x0, x1, x2, x3, x4, x5, x6, x7, x8, x9⟩ := HeldN.facts HX.out)
                    | fail)
                  exact ⟨⟨q + 1, by omega, by go_num, by rw [HS2.out, if_neg Hq1.out]; have := HO.out; simpa using this, HT.out, HU.out, HX.out, HN.out⟩, by simp [intOf]; omega⟩
              · have hlB : ¬ (q : Int) + 1 < (m : Int) + 1 := by omega
                have hlC : ¬ (q : Int) < (m : Int) := by omega
                have hqe : q = m := by omega
                rw [hqe, List.take_take, Nat.min_self] at HO
                clear hqe
                go_wp2_with (first
                  | (at_builtin; refine wpRowK_str _ [41, 32] (.tmp 63) (.const (.string ⟨#[41, 32]⟩)) rfl rfl rfl rfl HO.out HT.out (Nat.le_refl _) (by have := Hbd.out; (try simp only [List.length_append, List.length_cons, List.length_nil]); omega) ?_; intro v1 w1 hO hK1 hK; have HO := Lib.hid hO; have HT := Lib.hid hK; have HU := Lib.hid (HU.out.trans hK1); have HX := Lib.hid (Held.kt HX.out (by decide) hK1); have HN := Lib.hid (Held.kt HN.out (by decide) hK1); clear hO hK1 hK x0 x1 x2 x3 x4 x5 x6 x7 x8 x9; obtain ⟨x0, x1, x2, x3, x4, x5, x6, x7, x8, x9⟩ := HeldN.facts HX.out; obtain ⟨g3, off3, A3, c3, B3, d3, K3, e3, hg, _, hz', z0, z1, z2, z3, z4, z5, z6, z7, z8, z9⟩ := HEm.out _ HU.out; injection hg with hg; injection hg with hg1 hg2; subst hg1 hg2; have HZ := Lib.hid hz'.rd; clear hz')
                  | fail)
                refine (HBlk.out _ _ _ rfl HZ.out).mono ?_
                rintro e9 w9 ⟨rfl, hb⟩
                have HO := Lib.hid (HO.out.below hb)
                have HU := Lib.hid (HU.out.more hb HT.out.bel.size)
                have HT := Lib.hid (HT.out.more hb HT.out.bel.size)
                have HX := Lib.hid (Held.below HX.out hb)
                have HN := Lib.hid (Held.below HN.out hb)
                clear hb x0 x1 x2 x3 x4 x5 x6 x7 x8 x9 z0 z1 z2 z3 z4 z5 z6 z7 z8 z9
                obtain ⟨x0, x1, x2, x3, x4, x5, x6, x7, x8, x9⟩ := HeldN.facts HX.out
                go_wp2_with (first
                  | (at_builtin; refine wpRowK_str _ (blockT 0 Z) (.tmp 65) (.tmp 74) rfl rfl rfl rfl HO.out HT.out (Nat.le_refl _) (by have := Hbd.out; (try simp only [List.length_append, List.length_cons, List.length_nil]); omega) ?_; intro v1 w1 hO hK1 hK; have HO := Lib.hid hO; have HT := Lib.hid hK; have HU := Lib.hid (HU.out.trans hK1); have HX := Lib.hid (Held.kt HX.out (by decide) hK1); have HN := Lib.hid (Held.kt HN.out (by decide) hK1); clear hO hK1 hK x0 x1 x2 x3 x4 x5 x6 x7 x8 x9; obtain ⟨x0, x1, x2, x3, x4, x5, x6, x7, x8, x9⟩ := HeldN.facts HX.out)
                  | (at_builtin; refine wpRowK_row _ [10] (by simp) (.tmp 76) (.tmp 77) rfl rfl _ rfl 1 1 rfl rfl rfl HO.out HT.out (Nat.le_refl _) (by have := Hbd.out; (try simp only [List.length_append, List.length_cons, List.length_nil]); omega) ?_; intro v1 w1 hO hK1 hK; have HO := Lib.hid hO; have HT := Lib.hid hK; have HU := Lib.hid (HU.out.trans hK1); have HX := Lib.hid (Held.kt HX.out (by decide) hK1); have HN := Lib.hid (Held.kt HN.out (by decide) hK1); clear hO hK1 hK x0 x1 x2 x3 x4 x5 x6 x7 x8 x9; obtain ⟨x0, x1, x2, x3, x4, x5, x6, x7, x8, x9⟩ := HeldN.facts HX.out)
                  | fail)
                exact ⟨⟨k + 1, by omega, by go_num, by rw [HS.out]; have := HO.out; simpa [Hk0.out, Hfl.out] using this, HT.out⟩, by simp [intOf]; omega⟩
        · cases hfl : Y.flag with
          | false =>
            rw [hfl] at k7
            have Hfl := Lib.hid hfl
            clear hfl
            have hpos : (0 : Int) < (k : Int) := by omega
            have Hk0 := Lib.hid hk0
            clear hk0
            go_upto_region 10 with (at_builtin; refine wpRowK_row _ [10] (by simp) (.tmp 22) (.tmp 23) rfl rfl _ rfl 1 1 rfl rfl rfl HO.out HT.out (Nat.le_refl _) (by have := Hbd.out; (try simp only [List.length_append, List.length_cons, List.length_nil]); omega) ?_; intro v0 wn hO hK1 hK; have HO := Lib.hid hO; have HT := Lib.hid hK; have HN := Lib.hid (Held.kt HN.out (by decide) hK1); have HU := Lib.hid hK1; clear hO hK; have k0 := kcell hK1 HG.out k0; have k1 := kcell hK1 HG.out k1; have k2 := kcell hK1 HG.out k2; have k3 := kcell hK1 HG.out k3; have k4 := kcell hK1 HG.out k4; have k5 := kcell hK1 HG.out k5; have k6 := kcell hK1 HG.out k6; have k7 := kcell hK1 HG.out k7; have k8 := kcell hK1 HG.out k8; have k9 := kcell hK1 HG.out k9; clear n0 n1 n2 n3 n4 n5 n6 n7 n8 n9 hK1; obtain ⟨n0, n1, n2, n3, n4, n5, n6, n7, n8, n9⟩ := HeldN.facts HN.out)
            have HX := Lib.hid (show HeldN wn.heap.size _ _ _ _ _ _ _ _ _ _ (wn.alloc (.cells #[.int .i64 Y.kind, .string ⟨Y.text.toArray⟩, .int .i64 Y.val.kind, .int .i64 Y.val.num, .string ⟨Y.val.str.toArray⟩, .slice A' Y.val.parts.length c', .slice B' Y.val.keys.length d', .bool false, .slice (some ⟨g2, off2, none⟩) (m + 1) e', .int .i64 Y.spot] 28)) from Held.at rfl)
            have HU := Lib.hid (HU.out.more (one_al wn (.cells #[.int .i64 Y.kind, .string ⟨Y.text.toArray⟩, .int .i64 Y.val.kind, .int .i64 Y.val.num, .string ⟨Y.val.str.toArray⟩, .slice A' Y.val.parts.length c', .slice B' Y.val.keys.length d', .bool false, .slice (some ⟨g2, off2, none⟩) (m + 1) e', .int .i64 Y.spot] 28)) (by have := HT.out.bel.size; exact this))
            have HO := Lib.hid (HO.out.below (one_al wn (.cells #[.int .i64 Y.kind, .string ⟨Y.text.toArray⟩, .int .i64 Y.val.kind, .int .i64 Y.val.num, .string ⟨Y.val.str.toArray⟩, .slice A' Y.val.parts.length c', .slice B' Y.val.keys.length d', .bool false, .slice (some ⟨g2, off2, none⟩) (m + 1) e', .int .i64 Y.spot] 28)))
            have HN := Lib.hid (Held.below HN.out (one_al wn (.cells #[.int .i64 Y.kind, .string ⟨Y.text.toArray⟩, .int .i64 Y.val.kind, .int .i64 Y.val.num, .string ⟨Y.val.str.toArray⟩, .slice A' Y.val.parts.length c', .slice B' Y.val.keys.length d', .bool false, .slice (some ⟨g2, off2, none⟩) (m + 1) e', .int .i64 Y.spot] 28)))
            have HT := Lib.hid (HT.out.more (one_al wn (.cells #[.int .i64 Y.kind, .string ⟨Y.text.toArray⟩, .int .i64 Y.val.kind, .int .i64 Y.val.num, .string ⟨Y.val.str.toArray⟩, .slice A' Y.val.parts.length c', .slice B' Y.val.keys.length d', .bool false, .slice (some ⟨g2, off2, none⟩) (m + 1) e', .int .i64 Y.spot] 28)) (by have := HT.out.bel.size; exact this))
            obtain ⟨x0, x1, x2, x3, x4, x5, x6, x7, x8, x9⟩ := HeldN.facts HX.out
            go_wp2_with (first
              | (at_builtin; refine wpRowK_str _ [102, 110, 32] (.tmp 34) (.const (.string ⟨#[102, 110, 32]⟩)) rfl rfl rfl rfl HO.out HT.out (Nat.le_refl _) (by have := Hbd.out; (try simp only [List.length_append, List.length_cons, List.length_nil]); omega) ?_; intro v1 w1 hO hK1 hK; have HO := Lib.hid hO; have HT := Lib.hid hK; have HU := Lib.hid (HU.out.trans hK1); have HX := Lib.hid (Held.kt HX.out (by decide) hK1); have HN := Lib.hid (Held.kt HN.out (by decide) hK1); clear hO hK1 hK x0 x1 x2 x3 x4 x5 x6 x7 x8 x9; obtain ⟨x0, x1, x2, x3, x4, x5, x6, x7, x8, x9⟩ := HeldN.facts HX.out)
              | (at_builtin; refine wpRowK_str _ Y.text (.tmp 36) (.tmp 38) rfl rfl rfl rfl HO.out HT.out (Nat.le_refl _) (by have := Hbd.out; (try simp only [List.length_append, List.length_cons, List.length_nil]); omega) ?_; intro v1 w1 hO hK1 hK; have HO := Lib.hid hO; have HT := Lib.hid hK; have HU := Lib.hid (HU.out.trans hK1); have HX := Lib.hid (Held.kt HX.out (by decide) hK1); have HN := Lib.hid (Held.kt HN.out (by decide) hK1); clear hO hK1 hK x0 x1 x2 x3 x4 x5 x6 x7 x8 x9; obtain ⟨x0, x1, x2, x3, x4, x5, x6, x7, x8, x9⟩ := HeldN.facts HX.out)
              | (at_builtin; refine wpRowK_row _ [40] (by simp) (.tmp 40) (.tmp 41) rfl rfl _ rfl 1 1 rfl rfl rfl HO.out HT.out (Nat.le_refl _) (by have := Hbd.out; (try simp only [List.length_append, List.length_cons, List.length_nil]); omega) ?_; intro v1 w1 hO hK1 hK; have HO := Lib.hid hO; have HT := Lib.hid hK; have HU := Lib.hid (HU.out.trans hK1); have HX := Lib.hid (Held.kt HX.out (by decide) hK1); have HN := Lib.hid (Held.kt HN.out (by decide) hK1); clear hO hK1 hK x0 x1 x2 x3 x4 x5 x6 x7 x8 x9; obtain ⟨x0, x1, x2, x3, x4, x5, x6, x7, x8, x9⟩ := HeldN.facts HX.out)
              | fail)
            go_loopw [5, 8] (fun u j wz => ∃ q : Nat, q ≤ m ∧ j = .int .i64 (q : Int) ∧ RowB w2.heap.size wz u (r ++ [10] ++ [102, 110, 32] ++ Y.text ++ [40] ++ parsT 0 ((Y.kids.take m).take q)) ∧ KeptTo w2.heap.size w2 wz ∧ KeptTo w2.heap.size wr wz ∧ HeldN wn.heap.size (.int .i64 Y.kind) (.string ⟨Y.text.toArray⟩) (.int .i64 Y.val.kind) (.int .i64 Y.val.num) (.string ⟨Y.val.str.toArray⟩) (.slice A' Y.val.parts.length c') (.slice B' Y.val.keys.length d') (.bool false) (.slice (some ⟨g2, off2, none⟩) (m + 1) e') (.int .i64 Y.spot) wz ∧ HeldN W.heap.size (.int .i64 n.kind) (.string ⟨n.text.toArray⟩) (.int .i64 n.val.kind) (.int .i64 n.val.num) (.string ⟨n.val.str.toArray⟩) (.slice A n.val.parts.length c) (.slice B n.val.keys.length d) (.bool n.flag) (.slice (some ⟨g, off, none⟩) n.kids.length e) (.int .i64 n.spot) wz) (fun _ j _ => m - (intOf j).toNat)
            case atStart => exact ⟨0, Nat.zero_le _, rfl, by rw [List.take_zero, parsT, List.append_nil]; exact HO.out, HT.out, HU.out, HX.out, HN.out⟩
            case round =>
              obtain ⟨q, hq, rfl, hO, hT, hU, hX, hN⟩ := hrel
              have HO := Lib.hid hO
              have HT := Lib.hid hT
              have HU := Lib.hid hU
              have HX := Lib.hid hX
              have HN := Lib.hid hN
              clear hO hT hU hX hN x0 x1 x2 x3 x4 x5 x6 x7 x8 x9
              obtain ⟨x0, x1, x2, x3, x4, x5, x6, x7, x8, x9⟩ := HeldN.facts HX.out
              have hq0 : (0 : Int) ≤ (q : Int) := by omega
              by_cases hqm : q < m
              · have hlB : (q : Int) + 1 < (m : Int) + 1 := by omega
                have hlC : (q : Int) < (m : Int) := by omega
                have hst := HSt.out q hqm
                have hln := parsT_len_take (Y.kids.take m) 0 (q + 1)
                obtain ⟨g3, off3, A3, c3, B3, d3, K3, e3, hg, _, hz', z0, z1, z2, z3, z4, z5, z6, z7, z8, z9⟩ := HEl.out _ HU.out q (by have := Hm.out; omega)
                injection hg with hg
                injection hg with hg1 hg2
                subst hg1 hg2
                clear hz' z0 z2 z3 z4 z5 z6 z7 z8 z9
                generalize (Y.kids[q]'(by have := Hm.out; omega)) = Q at *
                rw [hst] at hln
                have HS2 := Lib.hid hst
                clear hst
                have Hb2 := Lib.hid (show (parsT 0 ((Y.kids.take m).take q)).length + Q.text.length ≤ (parsT 0 (Y.kids.take m)).length by simp only [List.length_append] at hln; omega)
                clear hln
                by_cases hq1 : q = 0
                · have hpq : ¬ (0 : Int) < (q : Int) := by omega
                  have Hq1 := Lib.hid hq1
                  clear hq1
                  go_wp2_with (first
                    | (at_builtin; refine wpRowK_str _ Q.text (.tmp 55) (.tmp 61) rfl rfl rfl rfl HO.out HT.out (Nat.le_refl _) (by have h1 := Hbd.out; have h2 := Hb2.out; (try simp only [List.length_append, List.length_cons, List.length_nil]); omega) ?_; intro v1 w1 hO hK1 hK; have HO := Lib.hid hO; have HT := Lib.hid hK; have HU := Lib.hid (HU.out.trans hK1); have HX := Lib.hid (Held.kt HX.out (by decide) hK1); have HN := Lib.hid (Held.kt HN.out (by decide) hK1); clear hO hK1 hK x0 x1 x2 x3 x4 x5 x6 x7 x8 x9; obtain ⟨x0, x1, x2, x3, x4, x5, x6, x7, x8, x9⟩ := HeldN.facts HX.out)
                    | fail)
                  exact ⟨⟨q + 1, by omega, by go_num, by rw [HS2.out, if_pos Hq1.out]; have := HO.out; simpa using this, HT.out, HU.out, HX.out, HN.out⟩, by simp [intOf]; omega⟩
                · have hpq : (0 : Int) < (q : Int) := by omega
                  have Hq1 := Lib.hid hq1
                  clear hq1
                  go_wp2_with (first
                    | (at_builtin; refine wpRowK_str _ [44, 32] (.tmp 53) (.const (.string ⟨#[44, 32]⟩)) rfl rfl rfl rfl HO.out HT.out (Nat.le_refl _) (by have h1 := Hbd.out; have h2 := Hb2.out; (try simp only [List.length_append, List.length_cons, List.length_nil]); omega) ?_; intro v1 w1 hO hK1 hK; have HO := Lib.hid hO; have HT := Lib.hid hK; have HU := Lib.hid (HU.out.trans hK1); have HX := Lib.hid (Held.kt HX.out (by decide) hK1); have HN := Lib.hid (Held.kt HN.out (by decide) hK1); have z1 := kcell hK1 HG2.out z1; clear hO hK1 hK x0 x1 x2 x3 x4 x5 x6 x7 x8 x9; obtain ⟨x0, x1, x2, x3, x4, x5, x6, x7, x8, x9⟩ := HeldN.facts HX.out)
                    | (at_builtin; refine wpRowK_str _ Q.text (.tmp 55) (.tmp 61) rfl rfl rfl rfl HO.out HT.out (Nat.le_refl _) (by have h1 := Hbd.out; have h2 := Hb2.out; (try simp only [List.length_append, List.length_cons, List.length_nil]); omega) ?_; intro v1 w1 hO hK1 hK; have HO := Lib.hid hO; have HT := Lib.hid hK; have HU := Lib.hid (HU.out.trans hK1); have HX := Lib.hid (Held.kt HX.out (by decide) hK1); have HN := Lib.hid (Held.kt HN.out (by decide) hK1); clear hO hK1 hK x0 x1 x2 x3 x4 x5 x6 x7 x8 x9; obtain ⟨x0, x1, x2, x3, x4, x5, x6, x7, x8, x9⟩ := HeldN.facts HX.out)
                    | fail)
                  exact ⟨⟨q + 1, by omega, by go_num, by rw [HS2.out, if_neg Hq1.out]; have := HO.out; simpa using this, HT.out, HU.out, HX.out, HN.out⟩, by simp [intOf]; omega⟩
              · have hlB : ¬ (q : Int) + 1 < (m : Int) + 1 := by omega
                have hlC : ¬ (q : Int) < (m : Int) := by omega
                have hqe : q = m := by omega
                rw [hqe, List.take_take, Nat.min_self] at HO
                clear hqe
                go_wp2_with (first
                  | (at_builtin; refine wpRowK_str _ [41, 32] (.tmp 63) (.const (.string ⟨#[41, 32]⟩)) rfl rfl rfl rfl HO.out HT.out (Nat.le_refl _) (by have := Hbd.out; (try simp only [List.length_append, List.length_cons, List.length_nil]); omega) ?_; intro v1 w1 hO hK1 hK; have HO := Lib.hid hO; have HT := Lib.hid hK; have HU := Lib.hid (HU.out.trans hK1); have HX := Lib.hid (Held.kt HX.out (by decide) hK1); have HN := Lib.hid (Held.kt HN.out (by decide) hK1); clear hO hK1 hK x0 x1 x2 x3 x4 x5 x6 x7 x8 x9; obtain ⟨x0, x1, x2, x3, x4, x5, x6, x7, x8, x9⟩ := HeldN.facts HX.out; obtain ⟨g3, off3, A3, c3, B3, d3, K3, e3, hg, _, hz', z0, z1, z2, z3, z4, z5, z6, z7, z8, z9⟩ := HEm.out _ HU.out; injection hg with hg; injection hg with hg1 hg2; subst hg1 hg2; have HZ := Lib.hid hz'.rd; clear hz')
                  | fail)
                refine (HBlk.out _ _ _ rfl HZ.out).mono ?_
                rintro e9 w9 ⟨rfl, hb⟩
                have HO := Lib.hid (HO.out.below hb)
                have HU := Lib.hid (HU.out.more hb HT.out.bel.size)
                have HT := Lib.hid (HT.out.more hb HT.out.bel.size)
                have HX := Lib.hid (Held.below HX.out hb)
                have HN := Lib.hid (Held.below HN.out hb)
                clear hb x0 x1 x2 x3 x4 x5 x6 x7 x8 x9 z0 z1 z2 z3 z4 z5 z6 z7 z8 z9
                obtain ⟨x0, x1, x2, x3, x4, x5, x6, x7, x8, x9⟩ := HeldN.facts HX.out
                go_wp2_with (first
                  | (at_builtin; refine wpRowK_str _ (blockT 0 Z) (.tmp 65) (.tmp 74) rfl rfl rfl rfl HO.out HT.out (Nat.le_refl _) (by have := Hbd.out; (try simp only [List.length_append, List.length_cons, List.length_nil]); omega) ?_; intro v1 w1 hO hK1 hK; have HO := Lib.hid hO; have HT := Lib.hid hK; have HU := Lib.hid (HU.out.trans hK1); have HX := Lib.hid (Held.kt HX.out (by decide) hK1); have HN := Lib.hid (Held.kt HN.out (by decide) hK1); clear hO hK1 hK x0 x1 x2 x3 x4 x5 x6 x7 x8 x9; obtain ⟨x0, x1, x2, x3, x4, x5, x6, x7, x8, x9⟩ := HeldN.facts HX.out)
                  | (at_builtin; refine wpRowK_row _ [10] (by simp) (.tmp 76) (.tmp 77) rfl rfl _ rfl 1 1 rfl rfl rfl HO.out HT.out (Nat.le_refl _) (by have := Hbd.out; (try simp only [List.length_append, List.length_cons, List.length_nil]); omega) ?_; intro v1 w1 hO hK1 hK; have HO := Lib.hid hO; have HT := Lib.hid hK; have HU := Lib.hid (HU.out.trans hK1); have HX := Lib.hid (Held.kt HX.out (by decide) hK1); have HN := Lib.hid (Held.kt HN.out (by decide) hK1); clear hO hK1 hK x0 x1 x2 x3 x4 x5 x6 x7 x8 x9; obtain ⟨x0, x1, x2, x3, x4, x5, x6, x7, x8, x9⟩ := HeldN.facts HX.out)
                  | fail)
                exact ⟨⟨k + 1, by omega, by go_num, by rw [HS.out]; have := HO.out; simpa [Hk0.out, Hfl.out] using this, HT.out⟩, by simp [intOf]; omega⟩
          | true =>
            rw [hfl] at k7
            have Hfl := Lib.hid hfl
            clear hfl
            have hpos : (0 : Int) < (k : Int) := by omega
            have Hk0 := Lib.hid hk0
            clear hk0
            go_upto_region 10 with (at_builtin; refine wpRowK_row _ [10] (by simp) (.tmp 22) (.tmp 23) rfl rfl _ rfl 1 1 rfl rfl rfl HO.out HT.out (Nat.le_refl _) (by have := Hbd.out; (try simp only [List.length_append, List.length_cons, List.length_nil]); omega) ?_; intro v0 wn hO hK1 hK; have HO := Lib.hid hO; have HT := Lib.hid hK; have HN := Lib.hid (Held.kt HN.out (by decide) hK1); have HU := Lib.hid hK1; clear hO hK; have k0 := kcell hK1 HG.out k0; have k1 := kcell hK1 HG.out k1; have k2 := kcell hK1 HG.out k2; have k3 := kcell hK1 HG.out k3; have k4 := kcell hK1 HG.out k4; have k5 := kcell hK1 HG.out k5; have k6 := kcell hK1 HG.out k6; have k7 := kcell hK1 HG.out k7; have k8 := kcell hK1 HG.out k8; have k9 := kcell hK1 HG.out k9; clear n0 n1 n2 n3 n4 n5 n6 n7 n8 n9 hK1; obtain ⟨n0, n1, n2, n3, n4, n5, n6, n7, n8, n9⟩ := HeldN.facts HN.out)
            have HX := Lib.hid (show HeldN wn.heap.size _ _ _ _ _ _ _ _ _ _ (wn.alloc (.cells #[.int .i64 Y.kind, .string ⟨Y.text.toArray⟩, .int .i64 Y.val.kind, .int .i64 Y.val.num, .string ⟨Y.val.str.toArray⟩, .slice A' Y.val.parts.length c', .slice B' Y.val.keys.length d', .bool true, .slice (some ⟨g2, off2, none⟩) (m + 1) e', .int .i64 Y.spot] 28)) from Held.at rfl)
            have HU := Lib.hid (HU.out.more (one_al wn (.cells #[.int .i64 Y.kind, .string ⟨Y.text.toArray⟩, .int .i64 Y.val.kind, .int .i64 Y.val.num, .string ⟨Y.val.str.toArray⟩, .slice A' Y.val.parts.length c', .slice B' Y.val.keys.length d', .bool true, .slice (some ⟨g2, off2, none⟩) (m + 1) e', .int .i64 Y.spot] 28)) (by have := HT.out.bel.size; exact this))
            have HO := Lib.hid (HO.out.below (one_al wn (.cells #[.int .i64 Y.kind, .string ⟨Y.text.toArray⟩, .int .i64 Y.val.kind, .int .i64 Y.val.num, .string ⟨Y.val.str.toArray⟩, .slice A' Y.val.parts.length c', .slice B' Y.val.keys.length d', .bool true, .slice (some ⟨g2, off2, none⟩) (m + 1) e', .int .i64 Y.spot] 28)))
            have HN := Lib.hid (Held.below HN.out (one_al wn (.cells #[.int .i64 Y.kind, .string ⟨Y.text.toArray⟩, .int .i64 Y.val.kind, .int .i64 Y.val.num, .string ⟨Y.val.str.toArray⟩, .slice A' Y.val.parts.length c', .slice B' Y.val.keys.length d', .bool true, .slice (some ⟨g2, off2, none⟩) (m + 1) e', .int .i64 Y.spot] 28)))
            have HT := Lib.hid (HT.out.more (one_al wn (.cells #[.int .i64 Y.kind, .string ⟨Y.text.toArray⟩, .int .i64 Y.val.kind, .int .i64 Y.val.num, .string ⟨Y.val.str.toArray⟩, .slice A' Y.val.parts.length c', .slice B' Y.val.keys.length d', .bool true, .slice (some ⟨g2, off2, none⟩) (m + 1) e', .int .i64 Y.spot] 28)) (by have := HT.out.bel.size; exact this))
            obtain ⟨x0, x1, x2, x3, x4, x5, x6, x7, x8, x9⟩ := HeldN.facts HX.out
            go_wp2_with (first
              | (at_builtin; refine wpRowK_str _ [101, 120, 112, 111, 114, 116, 32] (.tmp 32) (.const (.string ⟨#[101, 120, 112, 111, 114, 116, 32]⟩)) rfl rfl rfl rfl HO.out HT.out (Nat.le_refl _) (by have := Hbd.out; (try simp only [List.length_append, List.length_cons, List.length_nil]); omega) ?_; intro v1 w1 hO hK1 hK; have HO := Lib.hid hO; have HT := Lib.hid hK; have HU := Lib.hid (HU.out.trans hK1); have HX := Lib.hid (Held.kt HX.out (by decide) hK1); have HN := Lib.hid (Held.kt HN.out (by decide) hK1); clear hO hK1 hK x0 x1 x2 x3 x4 x5 x6 x7 x8 x9; obtain ⟨x0, x1, x2, x3, x4, x5, x6, x7, x8, x9⟩ := HeldN.facts HX.out)
              | (at_builtin; refine wpRowK_str _ [102, 110, 32] (.tmp 34) (.const (.string ⟨#[102, 110, 32]⟩)) rfl rfl rfl rfl HO.out HT.out (Nat.le_refl _) (by have := Hbd.out; (try simp only [List.length_append, List.length_cons, List.length_nil]); omega) ?_; intro v1 w1 hO hK1 hK; have HO := Lib.hid hO; have HT := Lib.hid hK; have HU := Lib.hid (HU.out.trans hK1); have HX := Lib.hid (Held.kt HX.out (by decide) hK1); have HN := Lib.hid (Held.kt HN.out (by decide) hK1); clear hO hK1 hK x0 x1 x2 x3 x4 x5 x6 x7 x8 x9; obtain ⟨x0, x1, x2, x3, x4, x5, x6, x7, x8, x9⟩ := HeldN.facts HX.out)
              | (at_builtin; refine wpRowK_str _ Y.text (.tmp 36) (.tmp 38) rfl rfl rfl rfl HO.out HT.out (Nat.le_refl _) (by have := Hbd.out; (try simp only [List.length_append, List.length_cons, List.length_nil]); omega) ?_; intro v1 w1 hO hK1 hK; have HO := Lib.hid hO; have HT := Lib.hid hK; have HU := Lib.hid (HU.out.trans hK1); have HX := Lib.hid (Held.kt HX.out (by decide) hK1); have HN := Lib.hid (Held.kt HN.out (by decide) hK1); clear hO hK1 hK x0 x1 x2 x3 x4 x5 x6 x7 x8 x9; obtain ⟨x0, x1, x2, x3, x4, x5, x6, x7, x8, x9⟩ := HeldN.facts HX.out)
              | (at_builtin; refine wpRowK_row _ [40] (by simp) (.tmp 40) (.tmp 41) rfl rfl _ rfl 1 1 rfl rfl rfl HO.out HT.out (Nat.le_refl _) (by have := Hbd.out; (try simp only [List.length_append, List.length_cons, List.length_nil]); omega) ?_; intro v1 w1 hO hK1 hK; have HO := Lib.hid hO; have HT := Lib.hid hK; have HU := Lib.hid (HU.out.trans hK1); have HX := Lib.hid (Held.kt HX.out (by decide) hK1); have HN := Lib.hid (Held.kt HN.out (by decide) hK1); clear hO hK1 hK x0 x1 x2 x3 x4 x5 x6 x7 x8 x9; obtain ⟨x0, x1, x2, x3, x4, x5, x6, x7, x8, x9⟩ := HeldN.facts HX.out)
              | fail)
            go_loopw [5, 8] (fun u j wz => ∃ q : Nat, q ≤ m ∧ j = .int .i64 (q : Int) ∧ RowB w2.heap.size wz u (r ++ [10] ++ [101, 120, 112, 111, 114, 116, 32] ++ [102, 110, 32] ++ Y.text ++ [40] ++ parsT 0 ((Y.kids.take m).take q)) ∧ KeptTo w2.heap.size w2 wz ∧ KeptTo w2.heap.size wr wz ∧ HeldN wn.heap.size (.int .i64 Y.kind) (.string ⟨Y.text.toArray⟩) (.int .i64 Y.val.kind) (.int .i64 Y.val.num) (.string ⟨Y.val.str.toArray⟩) (.slice A' Y.val.parts.length c') (.slice B' Y.val.keys.length d') (.bool true) (.slice (some ⟨g2, off2, none⟩) (m + 1) e') (.int .i64 Y.spot) wz ∧ HeldN W.heap.size (.int .i64 n.kind) (.string ⟨n.text.toArray⟩) (.int .i64 n.val.kind) (.int .i64 n.val.num) (.string ⟨n.val.str.toArray⟩) (.slice A n.val.parts.length c) (.slice B n.val.keys.length d) (.bool n.flag) (.slice (some ⟨g, off, none⟩) n.kids.length e) (.int .i64 n.spot) wz) (fun _ j _ => m - (intOf j).toNat)
            case atStart => exact ⟨0, Nat.zero_le _, rfl, by rw [List.take_zero, parsT, List.append_nil]; exact HO.out, HT.out, HU.out, HX.out, HN.out⟩
            case round =>
              obtain ⟨q, hq, rfl, hO, hT, hU, hX, hN⟩ := hrel
              have HO := Lib.hid hO
              have HT := Lib.hid hT
              have HU := Lib.hid hU
              have HX := Lib.hid hX
              have HN := Lib.hid hN
              clear hO hT hU hX hN x0 x1 x2 x3 x4 x5 x6 x7 x8 x9
              obtain ⟨x0, x1, x2, x3, x4, x5, x6, x7, x8, x9⟩ := HeldN.facts HX.out
              have hq0 : (0 : Int) ≤ (q : Int) := by omega
              by_cases hqm : q < m
              · have hlB : (q : Int) + 1 < (m : Int) + 1 := by omega
                have hlC : (q : Int) < (m : Int) := by omega
                have hst := HSt.out q hqm
                have hln := parsT_len_take (Y.kids.take m) 0 (q + 1)
                obtain ⟨g3, off3, A3, c3, B3, d3, K3, e3, hg, _, hz', z0, z1, z2, z3, z4, z5, z6, z7, z8, z9⟩ := HEl.out _ HU.out q (by have := Hm.out; omega)
                injection hg with hg
                injection hg with hg1 hg2
                subst hg1 hg2
                clear hz' z0 z2 z3 z4 z5 z6 z7 z8 z9
                generalize (Y.kids[q]'(by have := Hm.out; omega)) = Q at *
                rw [hst] at hln
                have HS2 := Lib.hid hst
                clear hst
                have Hb2 := Lib.hid (show (parsT 0 ((Y.kids.take m).take q)).length + Q.text.length ≤ (parsT 0 (Y.kids.take m)).length by simp only [List.length_append] at hln; omega)
                clear hln
                by_cases hq1 : q = 0
                · have hpq : ¬ (0 : Int) < (q : Int) := by omega
                  have Hq1 := Lib.hid hq1
                  clear hq1
                  go_wp2_with (first
                    | (at_builtin; refine wpRowK_str _ Q.text (.tmp 55) (.tmp 61) rfl rfl rfl rfl HO.out HT.out (Nat.le_refl _) (by have h1 := Hbd.out; have h2 := Hb2.out; (try simp only [List.length_append, List.length_cons, List.length_nil]); omega) ?_; intro v1 w1 hO hK1 hK; have HO := Lib.hid hO; have HT := Lib.hid hK; have HU := Lib.hid (HU.out.trans hK1); have HX := Lib.hid (Held.kt HX.out (by decide) hK1); have HN := Lib.hid (Held.kt HN.out (by decide) hK1); clear hO hK1 hK x0 x1 x2 x3 x4 x5 x6 x7 x8 x9; obtain ⟨x0, x1, x2, x3, x4, x5, x6, x7, x8, x9⟩ := HeldN.facts HX.out)
                    | fail)
                  exact ⟨⟨q + 1, by omega, by go_num, by rw [HS2.out, if_pos Hq1.out]; have := HO.out; simpa using this, HT.out, HU.out, HX.out, HN.out⟩, by simp [intOf]; omega⟩
                · have hpq : (0 : Int) < (q : Int) := by omega
                  have Hq1 := Lib.hid hq1
                  clear hq1
                  go_wp2_with (first
                    | (at_builtin; refine wpRowK_str _ [44, 32] (.tmp 53) (.const (.string ⟨#[44, 32]⟩)) rfl rfl rfl rfl HO.out HT.out (Nat.le_refl _) (by have h1 := Hbd.out; have h2 := Hb2.out; (try simp only [List.length_append, List.length_cons, List.length_nil]); omega) ?_; intro v1 w1 hO hK1 hK; have HO := Lib.hid hO; have HT := Lib.hid hK; have HU := Lib.hid (HU.out.trans hK1); have HX := Lib.hid (Held.kt HX.out (by decide) hK1); have HN := Lib.hid (Held.kt HN.out (by decide) hK1); have z1 := kcell hK1 HG2.out z1; clear hO hK1 hK x0 x1 x2 x3 x4 x5 x6 x7 x8 x9; obtain ⟨x0, x1, x2, x3, x4, x5, x6, x7, x8, x9⟩ := HeldN.facts HX.out)
                    | (at_builtin; refine wpRowK_str _ Q.text (.tmp 55) (.tmp 61) rfl rfl rfl rfl HO.out HT.out (Nat.le_refl _) (by have h1 := Hbd.out; have h2 := Hb2.out; (try simp only [List.length_append, List.length_cons, List.length_nil]); omega) ?_; intro v1 w1 hO hK1 hK; have HO := Lib.hid hO; have HT := Lib.hid hK; have HU := Lib.hid (HU.out.trans hK1); have HX := Lib.hid (Held.kt HX.out (by decide) hK1); have HN := Lib.hid (Held.kt HN.out (by decide) hK1); clear hO hK1 hK x0 x1 x2 x3 x4 x5 x6 x7 x8 x9; obtain ⟨x0, x1, x2, x3, x4, x5, x6, x7, x8, x9⟩ := HeldN.facts HX.out)
                    | fail)
                  exact ⟨⟨q + 1, by omega, by go_num, by rw [HS2.out, if_neg Hq1.out]; have := HO.out; simpa using this, HT.out, HU.out, HX.out, HN.out⟩, by simp [intOf]; omega⟩
              · have hlB : ¬ (q : Int) + 1 < (m : Int) + 1 := by omega
                have hlC : ¬ (q : Int) < (m : Int) := by omega
                have hqe : q = m := by omega
                rw [hqe, List.take_take, Nat.min_self] at HO
                clear hqe
                go_wp2_with (first
                  | (at_builtin; refine wpRowK_str _ [41, 32] (.tmp 63) (.const (.string ⟨#[41, 32]⟩)) rfl rfl rfl rfl HO.out HT.out (Nat.le_refl _) (by have := Hbd.out; (try simp only [List.length_append, List.length_cons, List.length_nil]); omega) ?_; intro v1 w1 hO hK1 hK; have HO := Lib.hid hO; have HT := Lib.hid hK; have HU := Lib.hid (HU.out.trans hK1); have HX := Lib.hid (Held.kt HX.out (by decide) hK1); have HN := Lib.hid (Held.kt HN.out (by decide) hK1); clear hO hK1 hK x0 x1 x2 x3 x4 x5 x6 x7 x8 x9; obtain ⟨x0, x1, x2, x3, x4, x5, x6, x7, x8, x9⟩ := HeldN.facts HX.out; obtain ⟨g3, off3, A3, c3, B3, d3, K3, e3, hg, _, hz', z0, z1, z2, z3, z4, z5, z6, z7, z8, z9⟩ := HEm.out _ HU.out; injection hg with hg; injection hg with hg1 hg2; subst hg1 hg2; have HZ := Lib.hid hz'.rd; clear hz')
                  | fail)
                refine (HBlk.out _ _ _ rfl HZ.out).mono ?_
                rintro e9 w9 ⟨rfl, hb⟩
                have HO := Lib.hid (HO.out.below hb)
                have HU := Lib.hid (HU.out.more hb HT.out.bel.size)
                have HT := Lib.hid (HT.out.more hb HT.out.bel.size)
                have HX := Lib.hid (Held.below HX.out hb)
                have HN := Lib.hid (Held.below HN.out hb)
                clear hb x0 x1 x2 x3 x4 x5 x6 x7 x8 x9 z0 z1 z2 z3 z4 z5 z6 z7 z8 z9
                obtain ⟨x0, x1, x2, x3, x4, x5, x6, x7, x8, x9⟩ := HeldN.facts HX.out
                go_wp2_with (first
                  | (at_builtin; refine wpRowK_str _ (blockT 0 Z) (.tmp 65) (.tmp 74) rfl rfl rfl rfl HO.out HT.out (Nat.le_refl _) (by have := Hbd.out; (try simp only [List.length_append, List.length_cons, List.length_nil]); omega) ?_; intro v1 w1 hO hK1 hK; have HO := Lib.hid hO; have HT := Lib.hid hK; have HU := Lib.hid (HU.out.trans hK1); have HX := Lib.hid (Held.kt HX.out (by decide) hK1); have HN := Lib.hid (Held.kt HN.out (by decide) hK1); clear hO hK1 hK x0 x1 x2 x3 x4 x5 x6 x7 x8 x9; obtain ⟨x0, x1, x2, x3, x4, x5, x6, x7, x8, x9⟩ := HeldN.facts HX.out)
                  | (at_builtin; refine wpRowK_row _ [10] (by simp) (.tmp 76) (.tmp 77) rfl rfl _ rfl 1 1 rfl rfl rfl HO.out HT.out (Nat.le_refl _) (by have := Hbd.out; (try simp only [List.length_append, List.length_cons, List.length_nil]); omega) ?_; intro v1 w1 hO hK1 hK; have HO := Lib.hid hO; have HT := Lib.hid hK; have HU := Lib.hid (HU.out.trans hK1); have HX := Lib.hid (Held.kt HX.out (by decide) hK1); have HN := Lib.hid (Held.kt HN.out (by decide) hK1); clear hO hK1 hK x0 x1 x2 x3 x4 x5 x6 x7 x8 x9; obtain ⟨x0, x1, x2, x3, x4, x5, x6, x7, x8, x9⟩ := HeldN.facts HX.out)
                  | fail)
                exact ⟨⟨k + 1, by omega, by go_num, by rw [HS.out]; have := HO.out; simpa [Hk0.out, Hfl.out] using this, HT.out⟩, by simp [intOf]; omega⟩
      · have hlA : ¬ (k : Int) < (n.kids.length : Int) := by omega
        have hkk : n.kids.take k = n.kids := List.take_of_length_le (by omega)
        rw [hkk] at HO
        clear hkk
        have ht := HO.out.toStr
        go_wp2_with fail
        refine bodyPost_ret (results_tmp2 rfl _ _ _) rfl ?_
        exact ⟨by rw [hp.out]; rfl, bthen HB2.out HT.out.bel⟩
end Go.Proofs.YthlfeiiolafonaaGreatDoor
