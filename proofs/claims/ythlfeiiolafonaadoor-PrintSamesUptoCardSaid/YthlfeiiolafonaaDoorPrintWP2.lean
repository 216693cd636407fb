/- Contracts of print.Expr and print.Program. Printed by gen_wp2.py. -/
import Derived.Test.YthlfeiiolafonaaDoorPrintWP
set_option linter.unusedVariables false
set_option linter.unusedSimpArgs false
namespace Go.Proofs.YthlfeiiolafonaaDoor
open Go.RowKit Go.IntWalk

theorem RdN.lows {ok : Nat → Prop} {w : World} {v : Value} {n : N} (h : RdN ok w v n) : RdN (fun k => k < w.heap.size) w v n := h.lt.imp fun k hk => hk.2
theorem PowAt.up {b b' : Nat} {W : World} (h : PowAt b W) (hb : b ≤ b') : PowAt b' W := ⟨h.1, fun g hg => Nat.lt_of_lt_of_le (h.2 g hg) hb⟩
set_option maxRecDepth 20000 in
set_option maxHeartbeats 2000000 in
theorem print_Expr (n : N) (v : Value) (ok : Nat → Prop) (W : World) (hv : RdN ok W v n) (hP : PowAt W.heap.size W) :
    Calls Tryd.prog 10 #[v] W fun e1 w' => e1 = .returned (.tuple #[.string ⟨(exprS n).1.toArray⟩, .int .i64 (exprS n).2]) ∧ Below W.heap.size W w' := by
  obtain ⟨A, c, B, d, K, e, rfl, hn⟩ := hv.form
  have HV := Lib.hid hv
  have HVl := Lib.hid hv.lows
  have HPw := Lib.hid hP
  have HBn := Lib.hid hv.bounds
  clear hn hv hP
  cases h1 : exprK n.kind with
  | false =>
    have hp := Lib.hid (show exprS n = ([], 180) by simp [exprS, rightE, h1])
    have H1 := Lib.hid h1
    clear h1
    go_enter Tryd.func10, Tryd.ntmps10
    go_wp2_with fail
    refine (print_expression n.kind _).mono ?_
    rintro e1 w1 ⟨rfl, rfl⟩
    rw [H1.out]
    go_wp2_with fail
    refine bodyPost_ret (results_tmp2 rfl _ _ _) rfl ?_
    exact ⟨by rw [hp.out]; rfl, one_al _ _⟩
  | true =>
    have HF := Lib.hid (fun W hv => print_fits n (valN n A c B d K e) ok W hv)
    have HG := Lib.hid (fun W hv => print_right (SizeOf.sizeOf n) n (valN n A c B d K e) ok W 0 hv (Nat.le_refl _) (by decide))
    have H1 := Lib.hid h1
    clear h1
    go_enter Tryd.func10, Tryd.ntmps10
    go_wp2_with fail
    refine (print_expression n.kind _).mono ?_
    rintro e1 w1 ⟨rfl, rfl⟩
    rw [H1.out]
    go_wp2_with fail
    refine (HF.out _ (HV.out.below (one_al _ _))).mono ?_
    rintro e1 w1 ⟨rfl, hb⟩
    have HB := Lib.hid (bthen (one_al _ _) hb)
    have HBx := Lib.hid hb
    obtain ⟨b0, b1, b2, b3, b4, b5, b6, b7, b8, b9⟩ := box10 hb
    clear hb
    cases hf : decide (nsize n ≤ 20000) with
    | false =>
      have hp := Lib.hid (show exprS n = ([], 180) by simp [exprS, rightE, fitsN, hf])
      clear hf
      go_wp2_with fail
      refine bodyPost_ret (results_tmp2 rfl _ _ _) rfl ?_
      exact ⟨by rw [hp.out]; rfl, HB.out⟩
    | true =>
      have HFd := Lib.hid hf
      clear hf
      go_wp2_with fail
      refine (HG.out _ (HV.out.below HB.out)).mono ?_
      rintro e2 w2 ⟨rfl, hb⟩
      have HB2 := Lib.hid (bthen HB.out hb)
      have HBy := Lib.hid (bthen HBx.out hb)
      clear hb b0 b1 b2 b3 b4 b5 b6 b7 b8 b9
      obtain ⟨b0, b1, b2, b3, b4, b5, b6, b7, b8, b9⟩ := box10 HBy.out
      cases hr : rightN 0 n with
      | false =>
        have hp := Lib.hid (show exprS n = ([], 180) by simp [exprS, rightE, hr])
        clear hr
        go_wp2_with fail
        refine bodyPost_ret (results_tmp2 rfl _ _ _) rfl ?_
        exact ⟨by rw [hp.out]; rfl, HB2.out⟩
      | true =>
        have hp := Lib.hid (show exprS n = (exprT n, 0) by simp [exprS, rightE, hr, fitsN, H1.out, HFd.out])
        have HW := Lib.hid (fun (W1 : World) (b : Nat) (hv1 : RdN (fun k => k < b) W1 (valN n A c B d K e) n) (hB1 : BldSt b [] W1) (hP1 : PowAt b W1) => w_expr (SizeOf.sizeOf n + 1) n (Nat.lt_succ_self _) (valN n A c B d K e) W1 b [] 0 hv1 ⟨0, hr⟩ (.inl H1.out) hB1 hP1 (by have := expr_room HBn.out (of_decide_eq_true HFd.out); simp; omega))
        clear hr
        have p0 := fun X Y => bcell (two_al w2 X Y) b0
        have p1 := fun X Y => bcell (two_al w2 X Y) b1
        have p2 := fun X Y => bcell (two_al w2 X Y) b2
        have p3 := fun X Y => bcell (two_al w2 X Y) b3
        have p4 := fun X Y => bcell (two_al w2 X Y) b4
        have p5 := fun X Y => bcell (two_al w2 X Y) b5
        have p6 := fun X Y => bcell (two_al w2 X Y) b6
        have p7 := fun X Y => bcell (two_al w2 X Y) b7
        have p8 := fun X Y => bcell (two_al w2 X Y) b8
        have p9 := fun X Y => bcell (two_al w2 X Y) b9
        have HWb := Lib.hid (show HeldW (w2.heap.size + 1) w2.heap.size 0 ((w2.alloc (.cells #[.pointer none, .slice none 0 0] 43)).alloc (.cells #[.pointer (some ⟨w2.heap.size, 0, none⟩), .int .i64 0] 45)) from Held.at (by simp))
        have HBs := Lib.hid (show BldSt w2.heap.size [] ((w2.alloc (.cells #[.pointer none, .slice none 0 0] 43)).alloc (.cells #[.pointer (some ⟨w2.heap.size, 0, none⟩), .int .i64 0] 45)) from (bld_new w2).below (one_al _ _))
        obtain ⟨q0, q1⟩ := HeldW.facts HWb.out
        clear b0 b1 b2 b3 b4 b5 b6 b7 b8 b9
        go_wp2_with fail
        refine (HW.out _ w2.heap.size ((HVl.out.imp fun k hk => Nat.lt_of_lt_of_le hk HB2.out.size).below (bthen HB2.out (two_al _ _ _))) HBs.out ((HPw.out.lo (bthen HB2.out (two_al _ _ _))).up HB2.out.size)).mono ?_
        rintro e3 w3 ⟨rfl, hT⟩
        have HT := Lib.hid hT
        have HWc := Lib.hid (HeldW.to HWb.out (Nat.lt_succ_self _) hT)
        clear hT q0 q1 p0 p1 p2 p3 p4 p5 p6 p7 p8 p9
        obtain ⟨q0, q1⟩ := HeldW.facts HWc.out
        go_wp2_with fail
        refine (bld_Str w2.heap.size _ _ HT.out.st).mono ?_
        rintro e4 w4 ⟨rfl, hT⟩
        have HT2 := Lib.hid (HT.out.trans hT)
        clear hT q0 q1
        go_wp2_with fail
        refine bodyPost_ret (results_tmp2 rfl _ _ _) rfl ?_
        exact ⟨by rw [hp.out]; rfl, bthen HB2.out ((two_al _ _ _).trans HT2.out.bel)⟩
theorem fnT_eq (n : N) : fnT n = (if n.flag = true then [101, 120, 112, 111, 114, 116, 32] else []) ++ ([102, 110, 32] ++ n.text ++ [40]) ++ parsT 0 n.kids.dropLast ++ [41, 32] ++ blkT 0 (n.kids.length - 1) n.kids ++ [10] := by
  cases n
  rw [fnT]
  rfl
theorem fn_shape {n : N} (hk : n.kind = 2) {o : Nat} (hr : rightN o n = true) : ∃ m, ∃ hm : m < n.kids.length, n.kids.length = m + 1 ∧ (n.kids[m]'hm).kind = 4 := by
  have hs := (right_said hr).2
  rw [hk] at hs
  simp only [shapeK] at hs
  rcases List.eq_nil_or_concat n.kids with h | ⟨l', z, h⟩
  · rw [h] at hs
    simp at hs
  · rw [List.concat_eq_append] at h
    refine ⟨l'.length, by rw [h]; simp, by rw [h]; simp, ?_⟩
    rw [h] at hs
    simp at hs
    simp [h, hs.1]
set_option maxRecDepth 20000 in
set_option maxHeartbeats 8000000 in
theorem print_Program (n : N) (v : Value) (ok : Nat → Prop) (W : World) (hv : RdN ok W v n) (hP : PowAt W.heap.size W) :
    Calls Tryd.prog 11 #[v] W fun e1 w' => e1 = .returned (.tuple #[.string ⟨(progS n).1.toArray⟩, .int .i64 (progS n).2]) ∧ Below W.heap.size W w' := by
  obtain ⟨A, c, B, d, K, e, rfl, hn⟩ := hv.form
  have hlen := hn.len
  have HV := Lib.hid hv
  have HVl := Lib.hid hv.lows
  have HPw := Lib.hid hP
  have HBn := Lib.hid hv.bounds
  have HR := Lib.hid (fun W hv => print_Right n (valN n A c B d K e) ok W hv)
  clear hn hv hP
  go_enter Tryd.func11, Tryd.ntmps11
  go_wp2_with fail
  refine (HR.out _ (HV.out.below (one_al _ _))).mono ?_
  rintro e1 w2 ⟨rfl, hb⟩
  have HB2 := Lib.hid (bthen (one_al _ _) hb)
  obtain ⟨b0, b1, b2, b3, b4, b5, b6, b7, b8, b9⟩ := box10 hb
  clear hb HR
  cases hr : rightP n with
  | false =>
    have hp := Lib.hid (show progS n = ([], 180) by simp [progS, hr])
    clear hr
    go_wp2_with fail
    refine bodyPost_ret (results_tmp2 rfl _ _ _) rfl ?_
    exact ⟨by rw [hp.out]; rfl, HB2.out⟩
  | true =>
    have hp := Lib.hid (show progS n = (fnsT 0 n.kids, 0) by simp [progS, hr])
    have hr' := hr
    unfold rightP at hr'
    simp only [Bool.and_eq_true] at hr'
    obtain ⟨hk1, hfit, hrn⟩ := hr'
    have hroom := prog_room HBn.out (of_decide_eq_true hfit)
    have hkr := right_kids hrn
    have hk2 : ∀ y ∈ n.kids, y.kind = 2 := by
      have hs := (right_said hrn).2
      rw [of_decide_eq_true hk1] at hs
      simp only [shapeK] at hs
      intro y hy
      have h2 : (n.kids.map N.kind).all (· == 2) = true := by simpa using hs
      rw [List.all_map, List.all_eq_true] at h2
      simpa using h2 y hy
    have Hrm := Lib.hid hroom
    have Hkr := Lib.hid hkr
    have Hk2 := Lib.hid hk2
    have HKl := Lib.hid (fun (W1 : World) (hb : Below w2.heap.size ((w2.alloc (.cells #[.pointer none, .slice none 0 0] 43)).alloc (.cells #[.pointer (some ⟨w2.heap.size, 0, none⟩), .int .i64 0] 45)) W1) => (((HVl.out.imp fun k hk => Nat.lt_of_lt_of_le hk HB2.out.size).below (bthen HB2.out (two_al _ _ _))).lo hb))
    clear hr hk1 hfit hrn hroom hkr hk2
    have p8 := fun X Y => bcell (two_al w2 X Y) b8
    have HWb := Lib.hid (show HeldW (w2.heap.size + 1) w2.heap.size 0 ((w2.alloc (.cells #[.pointer none, .slice none 0 0] 43)).alloc (.cells #[.pointer (some ⟨w2.heap.size, 0, none⟩), .int .i64 0] 45)) from Held.at (by simp))
    have HBs := Lib.hid (show BldSt w2.heap.size [] ((w2.alloc (.cells #[.pointer none, .slice none 0 0] 43)).alloc (.cells #[.pointer (some ⟨w2.heap.size, 0, none⟩), .int .i64 0] 45)) from (bld_new w2).below (one_al _ _))
    have HPb := Lib.hid (show PowAt w2.heap.size ((w2.alloc (.cells #[.pointer none, .slice none 0 0] 43)).alloc (.cells #[.pointer (some ⟨w2.heap.size, 0, none⟩), .int .i64 0] 45)) from (HPw.out.lo (bthen HB2.out (two_al _ _ _))).up HB2.out.size)
    have HBend := Lib.hid (bthen HB2.out (two_al w2 (.cells #[.pointer none, .slice none 0 0] 43) (.cells #[.pointer (some ⟨w2.heap.size, 0, none⟩), .int .i64 0] 45)))
    have Hwb := Lib.hid HB2.out.size
    clear b0 b1 b2 b3 b4 b5 b6 b7 b8 b9
    go_wp2_with fail
    clear p8
    generalize (w2.alloc (.cells #[.pointer none, .slice none 0 0] 43)).alloc (.cells #[.pointer (some ⟨w2.heap.size, 0, none⟩), .int .i64 0] 45) = wA at *
    generalize w2.heap.size = b at *
    go_loopw [17] (fun j wr => ∃ k, k ≤ n.kids.length ∧ j = .int .i64 (k : Int) ∧ BldTo b (fnsT 0 (n.kids.take k)) wA wr ∧ HeldW (b + 1) b 0 wr) (fun j _ => n.kids.length - (intOf j).toNat)
    case atStart => exact ⟨0, Nat.zero_le _, rfl, BldTo.of HBs.out (Below.refl _ _), HWb.out⟩
    case round =>
      obtain ⟨k, hk, rfl, hT, hW⟩ := hrel
      have HT0 := Lib.hid hT
      have HW0 := Lib.hid hW
      clear hT hW
      by_cases hlt : k < n.kids.length
      · have hlA : (k : Int) < (n.kids.length : Int) := by omega
        have h00 : (0 : Int) ≤ (k : Int) := by omega
        have hst := fnsT_take n.kids 0 k hlt
        have hln := fnsT_len_take n.kids 0 (k + 1)
        rw [Nat.zero_add] at hst
        have hmem := List.getElem_mem hlt
        obtain ⟨o, hro⟩ := Hkr.out _ hmem
        have hky := Hk2.out _ hmem
        obtain ⟨A0, c0, B0, d0, K0, e0, hve, hn0⟩ := (HKl.out _ HT0.out.bel).form
        injection hve with hve
        simp only [Array.mk.injEq, List.cons.injEq, and_true, true_and, Value.slice.injEq] at hve
        obtain ⟨⟨rfl, rfl⟩, ⟨rfl, rfl⟩, rfl, rfl⟩ := hve
        obtain ⟨g, off, A', c', B', d', K', e', rfl, _, hk', k0, k1, k2, k3, k4, k5, k6, k7, k8, k9⟩ := hn0.kids.elem k hlt
        generalize n.kids[k] = Y at *
        rw [fnT_eq] at hst
        obtain ⟨m, hm, hlm, hzk⟩ := fn_shape hky hro
        have hkrY := right_kids hro
        have hdl : Y.kids.dropLast = Y.kids.take m := by rw [List.dropLast_eq_take, hlm]; rfl
        rw [hdl, hlm, show m + 1 - 1 = m by omega, blkT_at hm] at hst
        generalize fnsT 0 (n.kids.take k) = r at *
        rw [hst] at hln
        have HS := Lib.hid hst
        have Hln := Lib.hid hln
        have hYl := hk'.len
        have hYc := hk'.cap
        have hYm := hk'.most
        have htl := hk'.text
        have hm0 : (0 : Int) ≤ (m : Int) := by omega
        have hm1 : (m : Int) ≤ 16777215 := by omega
        have hm2 : (m : Int) < (e' : Int) := by omega
        have hm3 : (e' : Int) ≤ 9223372036854775807 := by omega
        have hkn := hk'.kids
        have HYk := Lib.hid hkn
        have Htake := Lib.hid (show (Y.kids.take m).length = m by rw [List.length_take]; omega)
        have HRow := Lib.hid (fun (W1 : World) (s1 : List UInt8) (hb : Below b wr W1) (hB1 : BldSt b s1 W1) (hr1 : s1.length + (parsT 0 (Y.kids.take m)).length ≤ 70368744177664) => w_rowp (Y.kids.take m) K' e' W1 b s1 0 (((hkn.take m).reslice.lo hb)) (by rw [List.length_take]; omega) hB1 hr1)
        rw [Htake.out] at HRow
        have HBlk := Lib.hid (fun (v : Value) (W1 : World) (s1 : List UInt8) (z : Int) (hz : z = ((0 : Nat) : Int)) (hv1 : RdN (fun k => k < b) W1 v (Y.kids[m]'hm)) (hb : Below b wA W1) (hB1 : BldSt b s1 W1) (hr1 : s1.length + (blockT 0 (Y.kids[m]'hm)).length ≤ 70368744177664) => hz ▸ w_block (Y.kids[m]'hm) (w_statement _) v W1 b s1 0 hv1 (hkrY _ (List.getElem_mem hm)) hzk hB1 (HPb.out.lo hb) hr1)
        have HEl := Lib.hid (fun (W1 : World) (hb : Below b wr W1) => (hkn.lo hb).elem m hm)
        have hcat : ¬ 9223372036854775807 < 3 + Y.text.length := by omega
        have hcat2 : ¬ 9223372036854775807 < 3 + Y.text.length + 1 := by omega
        have Hbd := Lib.hid (show r.length + Y.text.length + (parsT 0 (Y.kids.take m)).length + (blockT 0 (Y.kids[m]'hm)).length ≤ 2690000000000 by have h := Hln.out; have h2 := Hrm.out; simp only [List.length_append, List.length_cons, List.length_nil] at h; omega)
        rw [hlm] at k8
        generalize Y.kids[m]'hm = Z at *
        generalize parsT 0 (Y.kids.take m) = pt at *
        obtain ⟨g2, off2, _, _, _, _, _, _, rfl, _⟩ := HEl.out _ (Below.refl _ _)
        clear hst hln hmem hk' hkn hn0 hro hky hkrY hzk hdl hlm hYl hYc hYm htl
        by_cases hk0 : k = 0
        · cases hfl : Y.flag with
          | false =>
            rw [hfl] at k7
            have Hfl := Lib.hid hfl
            clear hfl
            have hpos : ¬ (0 : Int) < (k : Int) := by omega
            have Hk0 := Lib.hid hk0
            clear hk0
            have HTa := Lib.hid (HT0.out.al (.cells #[.int .i64 Y.kind, .string ⟨Y.text.toArray⟩, .int .i64 Y.val.kind, .int .i64 Y.val.num, .string ⟨Y.val.str.toArray⟩, .slice A' Y.val.parts.length c', .slice B' Y.val.keys.length d', .bool false, .slice (some ⟨g2, off2, none⟩) (m + 1) e', .int .i64 Y.spot] 28))
            have HWa := Lib.hid (Held.below HW0.out (one_al wr (.cells #[.int .i64 Y.kind, .string ⟨Y.text.toArray⟩, .int .i64 Y.val.kind, .int .i64 Y.val.num, .string ⟨Y.val.str.toArray⟩, .slice A' Y.val.parts.length c', .slice B' Y.val.keys.length d', .bool false, .slice (some ⟨g2, off2, none⟩) (m + 1) e', .int .i64 Y.spot] 28)))
            have HXa := Lib.hid (show HeldN wr.heap.size _ _ _ _ _ _ _ _ _ _ (wr.alloc (.cells #[.int .i64 Y.kind, .string ⟨Y.text.toArray⟩, .int .i64 Y.val.kind, .int .i64 Y.val.num, .string ⟨Y.val.str.toArray⟩, .slice A' Y.val.parts.length c', .slice B' Y.val.keys.length d', .bool false, .slice (some ⟨g2, off2, none⟩) (m + 1) e', .int .i64 Y.spot] 28)) from Held.at rfl)
            have Hbn := Lib.hid (show b < wr.heap.size from HT0.out.st.lt)
            have Hbw := Lib.hid (Nat.lt_succ_self b)
            have HBa := Lib.hid (show Below b wr (wr.alloc (.cells #[.int .i64 Y.kind, .string ⟨Y.text.toArray⟩, .int .i64 Y.val.kind, .int .i64 Y.val.num, .string ⟨Y.val.str.toArray⟩, .slice A' Y.val.parts.length c', .slice B' Y.val.keys.length d', .bool false, .slice (some ⟨g2, off2, none⟩) (m + 1) e', .int .i64 Y.spot] 28)) from (one_al _ _).mono (Nat.le_of_lt Hbn.out))
            obtain ⟨q0, q1⟩ := HeldW.al HW0.out
            obtain ⟨x0, x1, x2, x3, x4, x5, x6, x7, x8, x9⟩ := HeldN.facts HXa.out
            go_wp2_with fail
            rw [show (⟨#[102, 110, 32]⟩ ++ ⟨Y.text.toArray⟩ ++ ⟨#[40]⟩ : ByteArray) = ⟨([102, 110, 32] ++ Y.text ++ [40]).toArray⟩ from ba_app3 [102, 110, 32] Y.text [40]]
            refine (bld_String b (r) ([102, 110, 32] ++ Y.text ++ [40]) _ HTa.out.st (by have := Hbd.out; (try simp only [List.length_append, List.length_cons, List.length_nil]); omega)).mono ?_
            rintro e1 w1w ⟨rfl, hT⟩
            have HT1 := Lib.hid (HTa.out.trans hT)
            have HW1 := Lib.hid (HeldW.to HWa.out Hbw.out hT)
            have HX1 := Lib.hid (HeldN.to HXa.out Hbn.out hT)
            have HB1 := Lib.hid (HBa.out.trans hT.bel)
            clear hT q0 q1 x0 x1 x2 x3 x4 x5 x6 x7 x8 x9 k0 k1 k2 k3 k4 k5 k6 k7 k8 k9
            obtain ⟨q0, q1⟩ := HeldW.facts HW1.out
            obtain ⟨x0, x1, x2, x3, x4, x5, x6, x7, x8, x9⟩ := HeldN.facts HX1.out
            go_upto_region 13 with fail
            go_region_with (first
              | (go_at_call 24; refine (HRow.out _ (r ++ ([102, 110, 32] ++ Y.text ++ [40])) HB1.out.drew (HT1.out.st.below (drew_b _)) (by have := Hbd.out; (try simp only [List.length_append, List.length_cons, List.length_nil]); omega)).mono ?_; rintro e2 w2w ⟨rfl, hT⟩; have hT' := BldTo.trans (BldTo.of HT1.out.st (drew_b _)) hT; have HT2 := Lib.hid (HT1.out.trans hT'); have HW2 := Lib.hid (HeldW.to HW1.out Hbw.out hT'); have HX2 := Lib.hid (HeldN.to HX1.out Hbn.out hT'); have HB2 := Lib.hid (HB1.out.trans hT'.bel); clear hT hT')
              | fail)
            all_goals clear q0 q1 x0 x1 x2 x3 x4 x5 x6 x7 x8 x9
            all_goals obtain ⟨q0, q1⟩ := HeldW.facts HW2.out
            all_goals obtain ⟨x0, x1, x2, x3, x4, x5, x6, x7, x8, x9⟩ := HeldN.facts HX2.out
            all_goals go_wp2_with fail
            all_goals refine (bld_String b (r ++ ([102, 110, 32] ++ Y.text ++ [40]) ++ pt) [41, 32] _ HT2.out.st (by have := Hbd.out; (try simp only [List.length_append, List.length_cons, List.length_nil]); omega)).mono ?_
            all_goals rintro e3 w3w ⟨rfl, hT⟩
            all_goals have HT3 := Lib.hid (HT2.out.trans hT)
            all_goals have HW3 := Lib.hid (HeldW.to HW2.out Hbw.out hT)
            all_goals have HX3 := Lib.hid (HeldN.to HX2.out Hbn.out hT)
            all_goals have HB3 := Lib.hid (HB2.out.trans hT.bel)
            all_goals clear hT q0 q1 x0 x1 x2 x3 x4 x5 x6 x7 x8 x9
            all_goals obtain ⟨q0, q1⟩ := HeldW.facts HW3.out
            all_goals obtain ⟨x0, x1, x2, x3, x4, x5, x6, x7, x8, x9⟩ := HeldN.facts HX3.out
            all_goals obtain ⟨g3, off3, A3, c3, B3, d3, K3, e3, hg, _, hz', z0, z1, z2, z3, z4, z5, z6, z7, z8, z9⟩ := HEl.out _ HB3.out
            all_goals injection hg with hg
            all_goals injection hg with hg1 hg2
            all_goals subst hg1 hg2
            all_goals have HZ := Lib.hid hz'.rd
            all_goals clear hz'
            all_goals go_upto_region 15 with fail
            all_goals go_region_with (first
              | (go_at_call 26; refine (HBlk.out _ _ (r ++ ([102, 110, 32] ++ Y.text ++ [40]) ++ pt ++ [41, 32]) _ rfl (HZ.out.below (drew_b _)) (HT3.out.bel.drew) (HT3.out.st.below (drew_b _)) (by have := Hbd.out; (try simp only [List.length_append, List.length_cons, List.length_nil]); omega)).mono ?_; rintro e4 w4w ⟨rfl, hT⟩; have hT' := BldTo.trans (BldTo.of HT3.out.st (drew_b _)) hT; have HT4 := Lib.hid (HT3.out.trans hT'); have HW4 := Lib.hid (HeldW.to HW3.out Hbw.out hT'); clear hT hT')
              | fail)
            all_goals clear q0 q1 x0 x1 x2 x3 x4 x5 x6 x7 x8 x9 z0 z1 z2 z3 z4 z5 z6 z7 z8 z9
            all_goals obtain ⟨q0, q1⟩ := HeldW.facts HW4.out
            all_goals go_wp2_with fail
            all_goals refine (bld_String b (r ++ ([102, 110, 32] ++ Y.text ++ [40]) ++ pt ++ [41, 32] ++ blockT 0 Z) [10] _ HT4.out.st (by have := Hbd.out; (try simp only [List.length_append, List.length_cons, List.length_nil]); omega)).mono ?_
            all_goals rintro e5 w5w ⟨rfl, hT⟩
            all_goals have HT5 := Lib.hid (HT4.out.trans hT)
            all_goals have HW5 := Lib.hid (HeldW.to HW4.out Hbw.out hT)
            all_goals clear hT q0 q1
            all_goals go_wp2_with fail
            all_goals exact ⟨⟨k + 1, by omega, by go_num, by rw [HS.out]; have := HT5.out; simpa [Hk0.out, Hfl.out] using this, HW5.out⟩, by simp [intOf]; omega⟩
          | true =>
            rw [hfl] at k7
            have Hfl := Lib.hid hfl
            clear hfl
            have hpos : ¬ (0 : Int) < (k : Int) := by omega
            have Hk0 := Lib.hid hk0
            clear hk0
            have HTa := Lib.hid (HT0.out.al (.cells #[.int .i64 Y.kind, .string ⟨Y.text.toArray⟩, .int .i64 Y.val.kind, .int .i64 Y.val.num, .string ⟨Y.val.str.toArray⟩, .slice A' Y.val.parts.length c', .slice B' Y.val.keys.length d', .bool true, .slice (some ⟨g2, off2, none⟩) (m + 1) e', .int .i64 Y.spot] 28))
            have HWa := Lib.hid (Held.below HW0.out (one_al wr (.cells #[.int .i64 Y.kind, .string ⟨Y.text.toArray⟩, .int .i64 Y.val.kind, .int .i64 Y.val.num, .string ⟨Y.val.str.toArray⟩, .slice A' Y.val.parts.length c', .slice B' Y.val.keys.length d', .bool true, .slice (some ⟨g2, off2, none⟩) (m + 1) e', .int .i64 Y.spot] 28)))
            have HXa := Lib.hid (show HeldN wr.heap.size _ _ _ _ _ _ _ _ _ _ (wr.alloc (.cells #[.int .i64 Y.kind, .string ⟨Y.text.toArray⟩, .int .i64 Y.val.kind, .int .i64 Y.val.num, .string ⟨Y.val.str.toArray⟩, .slice A' Y.val.parts.length c', .slice B' Y.val.keys.length d', .bool true, .slice (some ⟨g2, off2, none⟩) (m + 1) e', .int .i64 Y.spot] 28)) from Held.at rfl)
            have Hbn := Lib.hid (show b < wr.heap.size from HT0.out.st.lt)
            have Hbw := Lib.hid (Nat.lt_succ_self b)
            have HBa := Lib.hid (show Below b wr (wr.alloc (.cells #[.int .i64 Y.kind, .string ⟨Y.text.toArray⟩, .int .i64 Y.val.kind, .int .i64 Y.val.num, .string ⟨Y.val.str.toArray⟩, .slice A' Y.val.parts.length c', .slice B' Y.val.keys.length d', .bool true, .slice (some ⟨g2, off2, none⟩) (m + 1) e', .int .i64 Y.spot] 28)) from (one_al _ _).mono (Nat.le_of_lt Hbn.out))
            obtain ⟨q0, q1⟩ := HeldW.al HW0.out
            obtain ⟨x0, x1, x2, x3, x4, x5, x6, x7, x8, x9⟩ := HeldN.facts HXa.out
            go_wp2_with fail
            refine (bld_String b (r) [101, 120, 112, 111, 114, 116, 32] _ HTa.out.st (by have := Hbd.out; (try simp only [List.length_append, List.length_cons, List.length_nil]); omega)).mono ?_
            rintro e1 w1w ⟨rfl, hT⟩
            have HT1 := Lib.hid (HTa.out.trans hT)
            have HW1 := Lib.hid (HeldW.to HWa.out Hbw.out hT)
            have HX1 := Lib.hid (HeldN.to HXa.out Hbn.out hT)
            have HB1 := Lib.hid (HBa.out.trans hT.bel)
            clear hT q0 q1 x0 x1 x2 x3 x4 x5 x6 x7 x8 x9 k0 k1 k2 k3 k4 k5 k6 k7 k8 k9
            obtain ⟨q0, q1⟩ := HeldW.facts HW1.out
            obtain ⟨x0, x1, x2, x3, x4, x5, x6, x7, x8, x9⟩ := HeldN.facts HX1.out
            go_wp2_with fail
            rw [show (⟨#[102, 110, 32]⟩ ++ ⟨Y.text.toArray⟩ ++ ⟨#[40]⟩ : ByteArray) = ⟨([102, 110, 32] ++ Y.text ++ [40]).toArray⟩ from ba_app3 [102, 110, 32] Y.text [40]]
            refine (bld_String b (r ++ [101, 120, 112, 111, 114, 116, 32]) ([102, 110, 32] ++ Y.text ++ [40]) _ HT1.out.st (by have := Hbd.out; (try simp only [List.length_append, List.length_cons, List.length_nil]); omega)).mono ?_
            rintro e2 w2w ⟨rfl, hT⟩
            have HT2 := Lib.hid (HT1.out.trans hT)
            have HW2 := Lib.hid (HeldW.to HW1.out Hbw.out hT)
            have HX2 := Lib.hid (HeldN.to HX1.out Hbn.out hT)
            have HB2 := Lib.hid (HB1.out.trans hT.bel)
            clear hT q0 q1 x0 x1 x2 x3 x4 x5 x6 x7 x8 x9
            obtain ⟨q0, q1⟩ := HeldW.facts HW2.out
            obtain ⟨x0, x1, x2, x3, x4, x5, x6, x7, x8, x9⟩ := HeldN.facts HX2.out
            go_upto_region 13 with fail
            go_region_with (first
              | (go_at_call 24; refine (HRow.out _ (r ++ [101, 120, 112, 111, 114, 116, 32] ++ ([102, 110, 32] ++ Y.text ++ [40])) HB2.out.drew (HT2.out.st.below (drew_b _)) (by have := Hbd.out; (try simp only [List.length_append, List.length_cons, List.length_nil]); omega)).mono ?_; rintro e3 w3w ⟨rfl, hT⟩; have hT' := BldTo.trans (BldTo.of HT2.out.st (drew_b _)) hT; have HT3 := Lib.hid (HT2.out.trans hT'); have HW3 := Lib.hid (HeldW.to HW2.out Hbw.out hT'); have HX3 := Lib.hid (HeldN.to HX2.out Hbn.out hT'); have HB3 := Lib.hid (HB2.out.trans hT'.bel); clear hT hT')
              | fail)
            all_goals clear q0 q1 x0 x1 x2 x3 x4 x5 x6 x7 x8 x9
            all_goals obtain ⟨q0, q1⟩ := HeldW.facts HW3.out
            all_goals obtain ⟨x0, x1, x2, x3, x4, x5, x6, x7, x8, x9⟩ := HeldN.facts HX3.out
            all_goals go_wp2_with fail
            all_goals refine (bld_String b (r ++ [101, 120, 112, 111, 114, 116, 32] ++ ([102, 110, 32] ++ Y.text ++ [40]) ++ pt) [41, 32] _ HT3.out.st (by have := Hbd.out; (try simp only [List.length_append, List.length_cons, List.length_nil]); omega)).mono ?_
            all_goals rintro e4 w4w ⟨rfl, hT⟩
            all_goals have HT4 := Lib.hid (HT3.out.trans hT)
            all_goals have HW4 := Lib.hid (HeldW.to HW3.out Hbw.out hT)
            all_goals have HX4 := Lib.hid (HeldN.to HX3.out Hbn.out hT)
            all_goals have HB4 := Lib.hid (HB3.out.trans hT.bel)
            all_goals clear hT q0 q1 x0 x1 x2 x3 x4 x5 x6 x7 x8 x9
            all_goals obtain ⟨q0, q1⟩ := HeldW.facts HW4.out
            all_goals obtain ⟨x0, x1, x2, x3, x4, x5, x6, x7, x8, x9⟩ := HeldN.facts HX4.out
            all_goals obtain ⟨g3, off3, A3, c3, B3, d3, K3, e3, hg, _, hz', z0, z1, z2, z3, z4, z5, z6, z7, z8, z9⟩ := HEl.out _ HB4.out
            all_goals injection hg with hg
            all_goals injection hg with hg1 hg2
            all_goals subst hg1 hg2
            all_goals have HZ := Lib.hid hz'.rd
            all_goals clear hz'
            all_goals go_upto_region 15 with fail
            all_goals go_region_with (first
              | (go_at_call 26; refine (HBlk.out _ _ (r ++ [101, 120, 112, 111, 114, 116, 32] ++ ([102, 110, 32] ++ Y.text ++ [40]) ++ pt ++ [41, 32]) _ rfl (HZ.out.below (drew_b _)) (HT4.out.bel.drew) (HT4.out.st.below (drew_b _)) (by have := Hbd.out; (try simp only [List.length_append, List.length_cons, List.length_nil]); omega)).mono ?_; rintro e5 w5w ⟨rfl, hT⟩; have hT' := BldTo.trans (BldTo.of HT4.out.st (drew_b _)) hT; have HT5 := Lib.hid (HT4.out.trans hT'); have HW5 := Lib.hid (HeldW.to HW4.out Hbw.out hT'); clear hT hT')
              | fail)
            all_goals clear q0 q1 x0 x1 x2 x3 x4 x5 x6 x7 x8 x9 z0 z1 z2 z3 z4 z5 z6 z7 z8 z9
            all_goals obtain ⟨q0, q1⟩ := HeldW.facts HW5.out
            all_goals go_wp2_with fail
            all_goals refine (bld_String b (r ++ [101, 120, 112, 111, 114, 116, 32] ++ ([102, 110, 32] ++ Y.text ++ [40]) ++ pt ++ [41, 32] ++ blockT 0 Z) [10] _ HT5.out.st (by have := Hbd.out; (try simp only [List.length_append, List.length_cons, List.length_nil]); omega)).mono ?_
            all_goals rintro e6 w6w ⟨rfl, hT⟩
            all_goals have HT6 := Lib.hid (HT5.out.trans hT)
            all_goals have HW6 := Lib.hid (HeldW.to HW5.out Hbw.out hT)
            all_goals clear hT q0 q1
            all_goals go_wp2_with fail
            all_goals exact ⟨⟨k + 1, by omega, by go_num, by rw [HS.out]; have := HT6.out; simpa [Hk0.out, Hfl.out] using this, HW6.out⟩, by simp [intOf]; omega⟩
        · cases hfl : Y.flag with
          | false =>
            rw [hfl] at k7
            have Hfl := Lib.hid hfl
            clear hfl
            have hpos : (0 : Int) < (k : Int) := by omega
            have Hk0 := Lib.hid hk0
            clear hk0
            have HTa := Lib.hid (HT0.out.al (.cells #[.int .i64 Y.kind, .string ⟨Y.text.toArray⟩, .int .i64 Y.val.kind, .int .i64 Y.val.num, .string ⟨Y.val.str.toArray⟩, .slice A' Y.val.parts.length c', .slice B' Y.val.keys.length d', .bool false, .slice (some ⟨g2, off2, none⟩) (m + 1) e', .int .i64 Y.spot] 28))
            have HWa := Lib.hid (Held.below HW0.out (one_al wr (.cells #[.int .i64 Y.kind, .string ⟨Y.text.toArray⟩, .int .i64 Y.val.kind, .int .i64 Y.val.num, .string ⟨Y.val.str.toArray⟩, .slice A' Y.val.parts.length c', .slice B' Y.val.keys.length d', .bool false, .slice (some ⟨g2, off2, none⟩) (m + 1) e', .int .i64 Y.spot] 28)))
            have HXa := Lib.hid (show HeldN wr.heap.size _ _ _ _ _ _ _ _ _ _ (wr.alloc (.cells #[.int .i64 Y.kind, .string ⟨Y.text.toArray⟩, .int .i64 Y.val.kind, .int .i64 Y.val.num, .string ⟨Y.val.str.toArray⟩, .slice A' Y.val.parts.length c', .slice B' Y.val.keys.length d', .bool false, .slice (some ⟨g2, off2, none⟩) (m + 1) e', .int .i64 Y.spot] 28)) from Held.at rfl)
            have Hbn := Lib.hid (show b < wr.heap.size from HT0.out.st.lt)
            have Hbw := Lib.hid (Nat.lt_succ_self b)
            have HBa := Lib.hid (show Below b wr (wr.alloc (.cells #[.int .i64 Y.kind, .string ⟨Y.text.toArray⟩, .int .i64 Y.val.kind, .int .i64 Y.val.num, .string ⟨Y.val.str.toArray⟩, .slice A' Y.val.parts.length c', .slice B' Y.val.keys.length d', .bool false, .slice (some ⟨g2, off2, none⟩) (m + 1) e', .int .i64 Y.spot] 28)) from (one_al _ _).mono (Nat.le_of_lt Hbn.out))
            obtain ⟨q0, q1⟩ := HeldW.al HW0.out
            obtain ⟨x0, x1, x2, x3, x4, x5, x6, x7, x8, x9⟩ := HeldN.facts HXa.out
            go_wp2_with fail
            refine (bld_String b (r) [10] _ HTa.out.st (by have := Hbd.out; (try simp only [List.length_append, List.length_cons, List.length_nil]); omega)).mono ?_
            rintro e1 w1w ⟨rfl, hT⟩
            have HT1 := Lib.hid (HTa.out.trans hT)
            have HW1 := Lib.hid (HeldW.to HWa.out Hbw.out hT)
            have HX1 := Lib.hid (HeldN.to HXa.out Hbn.out hT)
            have HB1 := Lib.hid (HBa.out.trans hT.bel)
            clear hT q0 q1 x0 x1 x2 x3 x4 x5 x6 x7 x8 x9 k0 k1 k2 k3 k4 k5 k6 k7 k8 k9
            obtain ⟨q0, q1⟩ := HeldW.facts HW1.out
            obtain ⟨x0, x1, x2, x3, x4, x5, x6, x7, x8, x9⟩ := HeldN.facts HX1.out
            go_wp2_with fail
            rw [show (⟨#[102, 110, 32]⟩ ++ ⟨Y.text.toArray⟩ ++ ⟨#[40]⟩ : ByteArray) = ⟨([102, 110, 32] ++ Y.text ++ [40]).toArray⟩ from ba_app3 [102, 110, 32] Y.text [40]]
            refine (bld_String b (r ++ [10]) ([102, 110, 32] ++ Y.text ++ [40]) _ HT1.out.st (by have := Hbd.out; (try simp only [List.length_append, List.length_cons, List.length_nil]); omega)).mono ?_
            rintro e2 w2w ⟨rfl, hT⟩
            have HT2 := Lib.hid (HT1.out.trans hT)
            have HW2 := Lib.hid (HeldW.to HW1.out Hbw.out hT)
            have HX2 := Lib.hid (HeldN.to HX1.out Hbn.out hT)
            have HB2 := Lib.hid (HB1.out.trans hT.bel)
            clear hT q0 q1 x0 x1 x2 x3 x4 x5 x6 x7 x8 x9
            obtain ⟨q0, q1⟩ := HeldW.facts HW2.out
            obtain ⟨x0, x1, x2, x3, x4, x5, x6, x7, x8, x9⟩ := HeldN.facts HX2.out
            go_upto_region 13 with fail
            go_region_with (first
              | (go_at_call 24; refine (HRow.out _ (r ++ [10] ++ ([102, 110, 32] ++ Y.text ++ [40])) HB2.out.drew (HT2.out.st.below (drew_b _)) (by have := Hbd.out; (try simp only [List.length_append, List.length_cons, List.length_nil]); omega)).mono ?_; rintro e3 w3w ⟨rfl, hT⟩; have hT' := BldTo.trans (BldTo.of HT2.out.st (drew_b _)) hT; have HT3 := Lib.hid (HT2.out.trans hT'); have HW3 := Lib.hid (HeldW.to HW2.out Hbw.out hT'); have HX3 := Lib.hid (HeldN.to HX2.out Hbn.out hT'); have HB3 := Lib.hid (HB2.out.trans hT'.bel); clear hT hT')
              | fail)
            all_goals clear q0 q1 x0 x1 x2 x3 x4 x5 x6 x7 x8 x9
            all_goals obtain ⟨q0, q1⟩ := HeldW.facts HW3.out
            all_goals obtain ⟨x0, x1, x2, x3, x4, x5, x6, x7, x8, x9⟩ := HeldN.facts HX3.out
            all_goals go_wp2_with fail
            all_goals refine (bld_String b (r ++ [10] ++ ([102, 110, 32] ++ Y.text ++ [40]) ++ pt) [41, 32] _ HT3.out.st (by have := Hbd.out; (try simp only [List.length_append, List.length_cons, List.length_nil]); omega)).mono ?_
            all_goals rintro e4 w4w ⟨rfl, hT⟩
            all_goals have HT4 := Lib.hid (HT3.out.trans hT)
            all_goals have HW4 := Lib.hid (HeldW.to HW3.out Hbw.out hT)
            all_goals have HX4 := Lib.hid (HeldN.to HX3.out Hbn.out hT)
            all_goals have HB4 := Lib.hid (HB3.out.trans hT.bel)
            all_goals clear hT q0 q1 x0 x1 x2 x3 x4 x5 x6 x7 x8 x9
            all_goals obtain ⟨q0, q1⟩ := HeldW.facts HW4.out
            all_goals obtain ⟨x0, x1, x2, x3, x4, x5, x6, x7, x8, x9⟩ := HeldN.facts HX4.out
            all_goals obtain ⟨g3, off3, A3, c3, B3, d3, K3, e3, hg, _, hz', z0, z1, z2, z3, z4, z5, z6, z7, z8, z9⟩ := HEl.out _ HB4.out
            all_goals injection hg with hg
            all_goals injection hg with hg1 hg2
            all_goals subst hg1 hg2
            all_goals have HZ := Lib.hid hz'.rd
            all_goals clear hz'
            all_goals go_upto_region 15 with fail
            all_goals go_region_with (first
              | (go_at_call 26; refine (HBlk.out _ _ (r ++ [10] ++ ([102, 110, 32] ++ Y.text ++ [40]) ++ pt ++ [41, 32]) _ rfl (HZ.out.below (drew_b _)) (HT4.out.bel.drew) (HT4.out.st.below (drew_b _)) (by have := Hbd.out; (try simp only [List.length_append, List.length_cons, List.length_nil]); omega)).mono ?_; rintro e5 w5w ⟨rfl, hT⟩; have hT' := BldTo.trans (BldTo.of HT4.out.st (drew_b _)) hT; have HT5 := Lib.hid (HT4.out.trans hT'); have HW5 := Lib.hid (HeldW.to HW4.out Hbw.out hT'); clear hT hT')
              | fail)
            all_goals clear q0 q1 x0 x1 x2 x3 x4 x5 x6 x7 x8 x9 z0 z1 z2 z3 z4 z5 z6 z7 z8 z9
            all_goals obtain ⟨q0, q1⟩ := HeldW.facts HW5.out
            all_goals go_wp2_with fail
            all_goals refine (bld_String b (r ++ [10] ++ ([102, 110, 32] ++ Y.text ++ [40]) ++ pt ++ [41, 32] ++ blockT 0 Z) [10] _ HT5.out.st (by have := Hbd.out; (try simp only [List.length_append, List.length_cons, List.length_nil]); omega)).mono ?_
            all_goals rintro e6 w6w ⟨rfl, hT⟩
            all_goals have HT6 := Lib.hid (HT5.out.trans hT)
            all_goals have HW6 := Lib.hid (HeldW.to HW5.out Hbw.out hT)
            all_goals clear hT q0 q1
            all_goals go_wp2_with fail
            all_goals exact ⟨⟨k + 1, by omega, by go_num, by rw [HS.out]; have := HT6.out; simpa [Hk0.out, Hfl.out] using this, HW6.out⟩, by simp [intOf]; omega⟩
          | true =>
            rw [hfl] at k7
            have Hfl := Lib.hid hfl
            clear hfl
            have hpos : (0 : Int) < (k : Int) := by omega
            have Hk0 := Lib.hid hk0
            clear hk0
            have HTa := Lib.hid (HT0.out.al (.cells #[.int .i64 Y.kind, .string ⟨Y.text.toArray⟩, .int .i64 Y.val.kind, .int .i64 Y.val.num, .string ⟨Y.val.str.toArray⟩, .slice A' Y.val.parts.length c', .slice B' Y.val.keys.length d', .bool true, .slice (some ⟨g2, off2, none⟩) (m + 1) e', .int .i64 Y.spot] 28))
            have HWa := Lib.hid (Held.below HW0.out (one_al wr (.cells #[.int .i64 Y.kind, .string ⟨Y.text.toArray⟩, .int .i64 Y.val.kind, .int .i64 Y.val.num, .string ⟨Y.val.str.toArray⟩, .slice A' Y.val.parts.length c', .slice B' Y.val.keys.length d', .bool true, .slice (some ⟨g2, off2, none⟩) (m + 1) e', .int .i64 Y.spot] 28)))
            have HXa := Lib.hid (show HeldN wr.heap.size _ _ _ _ _ _ _ _ _ _ (wr.alloc (.cells #[.int .i64 Y.kind, .string ⟨Y.text.toArray⟩, .int .i64 Y.val.kind, .int .i64 Y.val.num, .string ⟨Y.val.str.toArray⟩, .slice A' Y.val.parts.length c', .slice B' Y.val.keys.length d', .bool true, .slice (some ⟨g2, off2, none⟩) (m + 1) e', .int .i64 Y.spot] 28)) from Held.at rfl)
            have Hbn := Lib.hid (show b < wr.heap.size from HT0.out.st.lt)
            have Hbw := Lib.hid (Nat.lt_succ_self b)
            have HBa := Lib.hid (show Below b wr (wr.alloc (.cells #[.int .i64 Y.kind, .string ⟨Y.text.toArray⟩, .int .i64 Y.val.kind, .int .i64 Y.val.num, .string ⟨Y.val.str.toArray⟩, .slice A' Y.val.parts.length c', .slice B' Y.val.keys.length d', .bool true, .slice (some ⟨g2, off2, none⟩) (m + 1) e', .int .i64 Y.spot] 28)) from (one_al _ _).mono (Nat.le_of_lt Hbn.out))
            obtain ⟨q0, q1⟩ := HeldW.al HW0.out
            obtain ⟨x0, x1, x2, x3, x4, x5, x6, x7, x8, x9⟩ := HeldN.facts HXa.out
            go_wp2_with fail
            refine (bld_String b (r) [10] _ HTa.out.st (by have := Hbd.out; (try simp only [List.length_append, List.length_cons, List.length_nil]); omega)).mono ?_
            rintro e1 w1w ⟨rfl, hT⟩
            have HT1 := Lib.hid (HTa.out.trans hT)
            have HW1 := Lib.hid (HeldW.to HWa.out Hbw.out hT)
            have HX1 := Lib.hid (HeldN.to HXa.out Hbn.out hT)
            have HB1 := Lib.hid (HBa.out.trans hT.bel)
            clear hT q0 q1 x0 x1 x2 x3 x4 x5 x6 x7 x8 x9 k0 k1 k2 k3 k4 k5 k6 k7 k8 k9
            obtain ⟨q0, q1⟩ := HeldW.facts HW1.out
            obtain ⟨x0, x1, x2, x3, x4, x5, x6, x7, x8, x9⟩ := HeldN.facts HX1.out
            go_wp2_with fail
            refine (bld_String b (r ++ [10]) [101, 120, 112, 111, 114, 116, 32] _ HT1.out.st (by have := Hbd.out; (try simp only [List.length_append, List.length_cons, List.length_nil]); omega)).mono ?_
            rintro e2 w2w ⟨rfl, hT⟩
            have HT2 := Lib.hid (HT1.out.trans hT)
            have HW2 := Lib.hid (HeldW.to HW1.out Hbw.out hT)
            have HX2 := Lib.hid (HeldN.to HX1.out Hbn.out hT)
            have HB2 := Lib.hid (HB1.out.trans hT.bel)
            clear hT q0 q1 x0 x1 x2 x3 x4 x5 x6 x7 x8 x9
            obtain ⟨q0, q1⟩ := HeldW.facts HW2.out
            obtain ⟨x0, x1, x2, x3, x4, x5, x6, x7, x8, x9⟩ := HeldN.facts HX2.out
            go_wp2_with fail
            rw [show (⟨#[102, 110, 32]⟩ ++ ⟨Y.text.toArray⟩ ++ ⟨#[40]⟩ : ByteArray) = ⟨([102, 110, 32] ++ Y.text ++ [40]).toArray⟩ from ba_app3 [102, 110, 32] Y.text [40]]
            refine (bld_String b (r ++ [10] ++ [101, 120, 112, 111, 114, 116, 32]) ([102, 110, 32] ++ Y.text ++ [40]) _ HT2.out.st (by have := Hbd.out; (try simp only [List.length_append, List.length_cons, List.length_nil]); omega)).mono ?_
            rintro e3 w3w ⟨rfl, hT⟩
            have HT3 := Lib.hid (HT2.out.trans hT)
            have HW3 := Lib.hid (HeldW.to HW2.out Hbw.out hT)
            have HX3 := Lib.hid (HeldN.to HX2.out Hbn.out hT)
            have HB3 := Lib.hid (HB2.out.trans hT.bel)
            clear hT q0 q1 x0 x1 x2 x3 x4 x5 x6 x7 x8 x9
            obtain ⟨q0, q1⟩ := HeldW.facts HW3.out
            obtain ⟨x0, x1, x2, x3, x4, x5, x6, x7, x8, x9⟩ := HeldN.facts HX3.out
            go_upto_region 13 with fail
            go_region_with (first
              | (go_at_call 24; refine (HRow.out _ (r ++ [10] ++ [101, 120, 112, 111, 114, 116, 32] ++ ([102, 110, 32] ++ Y.text ++ [40])) HB3.out.drew (HT3.out.st.below (drew_b _)) (by have := Hbd.out; (try simp only [List.length_append, List.length_cons, List.length_nil]); omega)).mono ?_; rintro e4 w4w ⟨rfl, hT⟩; have hT' := BldTo.trans (BldTo.of HT3.out.st (drew_b _)) hT; have HT4 := Lib.hid (HT3.out.trans hT'); have HW4 := Lib.hid (HeldW.to HW3.out Hbw.out hT'); have HX4 := Lib.hid (HeldN.to HX3.out Hbn.out hT'); have HB4 := Lib.hid (HB3.out.trans hT'.bel); clear hT hT')
              | fail)
            all_goals clear q0 q1 x0 x1 x2 x3 x4 x5 x6 x7 x8 x9
            all_goals obtain ⟨q0, q1⟩ := HeldW.facts HW4.out
            all_goals obtain ⟨x0, x1, x2, x3, x4, x5, x6, x7, x8, x9⟩ := HeldN.facts HX4.out
            all_goals go_wp2_with fail
            all_goals refine (bld_String b (r ++ [10] ++ [101, 120, 112, 111, 114, 116, 32] ++ ([102, 110, 32] ++ Y.text ++ [40]) ++ pt) [41, 32] _ HT4.out.st (by have := Hbd.out; (try simp only [List.length_append, List.length_cons, List.length_nil]); omega)).mono ?_
            all_goals rintro e5 w5w ⟨rfl, hT⟩
            all_goals have HT5 := Lib.hid (HT4.out.trans hT)
            all_goals have HW5 := Lib.hid (HeldW.to HW4.out Hbw.out hT)
            all_goals have HX5 := Lib.hid (HeldN.to HX4.out Hbn.out hT)
            all_goals have HB5 := Lib.hid (HB4.out.trans hT.bel)
            all_goals clear hT q0 q1 x0 x1 x2 x3 x4 x5 x6 x7 x8 x9
            all_goals obtain ⟨q0, q1⟩ := HeldW.facts HW5.out
            all_goals obtain ⟨x0, x1, x2, x3, x4, x5, x6, x7, x8, x9⟩ := HeldN.facts HX5.out
            all_goals obtain ⟨g3, off3, A3, c3, B3, d3, K3, e3, hg, _, hz', z0, z1, z2, z3, z4, z5, z6, z7, z8, z9⟩ := HEl.out _ HB5.out
            all_goals injection hg with hg
            all_goals injection hg with hg1 hg2
            all_goals subst hg1 hg2
            all_goals have HZ := Lib.hid hz'.rd
            all_goals clear hz'
            all_goals go_upto_region 15 with fail
            all_goals go_region_with (first
              | (go_at_call 26; refine (HBlk.out _ _ (r ++ [10] ++ [101, 120, 112, 111, 114, 116, 32] ++ ([102, 110, 32] ++ Y.text ++ [40]) ++ pt ++ [41, 32]) _ rfl (HZ.out.below (drew_b _)) (HT5.out.bel.drew) (HT5.out.st.below (drew_b _)) (by have := Hbd.out; (try simp only [List.length_append, List.length_cons, List.length_nil]); omega)).mono ?_; rintro e6 w6w ⟨rfl, hT⟩; have hT' := BldTo.trans (BldTo.of HT5.out.st (drew_b _)) hT; have HT6 := Lib.hid (HT5.out.trans hT'); have HW6 := Lib.hid (HeldW.to HW5.out Hbw.out hT'); clear hT hT')
              | fail)
            all_goals clear q0 q1 x0 x1 x2 x3 x4 x5 x6 x7 x8 x9 z0 z1 z2 z3 z4 z5 z6 z7 z8 z9
            all_goals obtain ⟨q0, q1⟩ := HeldW.facts HW6.out
            all_goals go_wp2_with fail
            all_goals refine (bld_String b (r ++ [10] ++ [101, 120, 112, 111, 114, 116, 32] ++ ([102, 110, 32] ++ Y.text ++ [40]) ++ pt ++ [41, 32] ++ blockT 0 Z) [10] _ HT6.out.st (by have := Hbd.out; (try simp only [List.length_append, List.length_cons, List.length_nil]); omega)).mono ?_
            all_goals rintro e7 w7w ⟨rfl, hT⟩
            all_goals have HT7 := Lib.hid (HT6.out.trans hT)
            all_goals have HW7 := Lib.hid (HeldW.to HW6.out Hbw.out hT)
            all_goals clear hT q0 q1
            all_goals go_wp2_with fail
            all_goals exact ⟨⟨k + 1, by omega, by go_num, by rw [HS.out]; have := HT7.out; simpa [Hk0.out, Hfl.out] using this, HW7.out⟩, by simp [intOf]; omega⟩
      · have hlA : ¬ (k : Int) < (n.kids.length : Int) := by omega
        have hkk : n.kids.take k = n.kids := List.take_of_length_le (by omega)
        rw [hkk] at HT0
        clear hkk
        obtain ⟨q0, q1⟩ := HeldW.facts HW0.out
        go_wp2_with fail
        refine (bld_Str b _ _ HT0.out.st).mono ?_
        rintro e4 w4 ⟨rfl, hT⟩
        have HT2 := Lib.hid (HT0.out.trans hT)
        clear hT q0 q1
        go_wp2_with fail
        refine bodyPost_ret (results_tmp2 rfl _ _ _) rfl ?_
        exact ⟨by rw [hp.out]; rfl, HBend.out.trans (HT2.out.bel.mono Hwb.out)⟩
end Go.Proofs.YthlfeiiolafonaaDoor
