/- Contract of prim.slice. Printed by gen_slice.py. -/
import Derived.Test.YtacaknkfddlklaaGreatDoorElemB
set_option linter.unusedVariables false
set_option linter.unusedSimpArgs false
namespace Go.Proofs.YtacaknkfddlklaaGreatDoor
open Go.RowKit Go.IntWalk

/-- a part of a row of values -/
def PlainText (w : World) (s : List UInt8) (t : Int) (e : Ending) (w' : World) : Prop := e = .returned (.tuple #[.agg #[.int .i64 3, .int .i64 0, .string ⟨s.toArray⟩, .slice none 0 0, .slice none 0 0], .int .i64 t]) ∧ Below w.heap.size w w'
theorem ext_mid (l : List UInt8) (i j : Nat) : (⟨l.toArray⟩ : ByteArray).extract i j = ⟨((l.drop i).take (j - i)).toArray⟩ := by
  have h : ((⟨l.toArray⟩ : ByteArray).extract i j).data = ((l.drop i).take (j - i)).toArray := by
    rw [ByteArray.data_extract]
    apply Array.toList_inj.1
    rw [Array.toList_extract, List.extract_eq_take_drop]
  cases hx : (⟨l.toArray⟩ : ByteArray).extract i j with
  | mk d => rw [hx] at h; exact congrArg ByteArray.mk h
theorem RdVs.sub {ok : Nat → Prop} {w : World} {g off n c n' c' : Nat} {l : List V} (h : RdVs ok w (.slice (some ⟨g, off, none⟩) n c) 0 l) (i j : Nat) :
    RdVs ok w (.slice (some ⟨g, off + i * 5, none⟩) n' c') 0 ((l.drop i).take j) := by
  refine RdVs.mk fun k hk => ?_
  have hk' : k < j ∧ i + k < l.length := by simp only [List.length_take, List.length_drop] at hk; omega
  obtain ⟨g1, o1, v, ⟨off1, nn, cc, hv, ho, hg⟩, h2, h3⟩ := h.get (i + k) hk'.2
  injection hv with h4 _ _
  injection h4 with h4
  injection h4 with h5 h6 _
  subst h5 h6
  refine ⟨_, _, v, ⟨off + i * 5, _, _, rfl, rfl, hg⟩, ?_, by simpa using h3⟩
  rw [show off + i * 5 + (0 + k) * 5 = o1 by omega]
  exact h2
theorem sub_rd0 {ok : Nat → Prop} {w : World} (A : Option Addr) (k c : Nat) (hk : k = 0) (hc : c ≤ 9223372036854775807 := by decide) :
    RdV ok w (.agg #[.int .i64 4, .int .i64 0, .string ⟨#[]⟩, .slice A k c, .slice none 0 0]) (.mk 4 0 [] [] []) := by
  subst hk
  exact RdV.close (s := []) (i64ok_small (by decide) (by decide)) (i64ok_small (by decide) (by decide)) (by simp) ⟨A, c, rfl, by simp, hc, by simp⟩ (by unfold RdVs; trivial) (RdK.nil _ _ _ _ (by omega))
theorem sub_rd {ok : Nat → Prop} {w : World} {A : Option Addr} {n c : Nat} {l : List V} (h : RdVs ok w (.slice A n c) 0 l) (i j c' : Nat) (hj : j ≤ l.length) (h1 : j - i ≤ c') (h2 : c' ≤ 9223372036854775807) (hl : l.length ≤ 16777216) :
    RdV ok w (.agg #[.int .i64 4, .int .i64 0, .string ⟨#[]⟩, .slice (Option.map (fun x => x.add (i * 5)) A) (j - i) c', .slice none 0 0]) (.mk 4 0 [] ((l.drop i).take (j - i)) []) := by
  have hlen : ((l.drop i).take (j - i)).length = j - i := by simp only [List.length_take, List.length_drop]; omega
  refine RdV.close (s := []) (i64ok_small (by decide) (by decide)) (i64ok_small (by decide) (by decide)) (by simp) ⟨_, c', by rw [hlen], by omega, h2, by omega⟩ ?_ (RdK.nil _ _ _ _ (by omega))
  by_cases h0 : j - i = 0
  · rw [h0, List.take_zero]; unfold RdVs; trivial
  · obtain ⟨g, off, _, _, _, _, rfl, _⟩ := h.elem 0 (by omega)
    have ha : (⟨g, off, none⟩ : Addr).add (i * 5) = ⟨g, off + i * 5, none⟩ := by unfold Addr.add; split <;> simp_all
    rw [Option.map_some, ha]
    exact h.sub i (j - i)
set_option maxRecDepth 20000 in
set_option maxHeartbeats 2000000 in
theorem prim_slice_t1 (X I J : V) (hk : (decide (X.kind = 4) || decide (X.kind = 3)) = false) (x0 x1 x2 x3 x4 : Value) (A : Option Addr) (c : Nat) (ok : Nat → Prop) (w : World) (hls : RdVs ok w (.slice A 3 c) 0 [X, I, J]) :
    Calls Tryz.prog 74 #[.agg #[x0, x1, x2, x3, x4], .slice A 3 c] w (PlainPost w 0 0 3) := by
  have HK := Lib.hid hk
  clear hk
  obtain ⟨g, off, A1, c1, B1, d1, rfl, hog, hr0, e0, e1, e2, e3, e4⟩ := hls.elem 0 (by simp)
  obtain ⟨g', off', A2, c2, B2, d2, hgg, hog', hr1, f0, f1, f2, f3, f4⟩ := hls.elem 1 (by simp)
  injection hgg with hgg
  injection hgg with hg1 hg2
  subst hg1 hg2
  obtain ⟨g', off', A3, c3, B3, d3, hgg, hog'', hr2, k0, k1, k2, k3, k4⟩ := hls.elem 2 (by simp)
  injection hgg with hgg
  injection hgg with hg1 hg2
  subst hg1 hg2
  simp only [List.getElem_cons_zero, List.getElem_cons_succ, Nat.zero_mul, Nat.one_mul, Nat.add_zero, show 2 * 5 = 10 from rfl] at e0 e1 e2 e3 e4 f0 f1 k0 k1 hr0
  have E0 := fun U V => bcell (two_alloc w U V) e0
  have E1 := fun U V => bcell (two_alloc w U V) e1
  have E2 := fun U V => bcell (two_alloc w U V) e2
  have E3 := fun U V => bcell (two_alloc w U V) e3
  have E4 := fun U V => bcell (two_alloc w U V) e4
  have CE := Lib.hid (And.intro e0 (And.intro e1 (And.intro e2 (And.intro e3 e4))))
  have CI := Lib.hid (And.intro f0 f1)
  have CJ := Lib.hid (And.intro k0 k1)
  have HSz := Lib.hid (fun W hv => prim_size X (valV X A1 c1 B1 d1) ok W hv)
  have HRw := Lib.hid (fun W hv => prim_row X (valV X A1 c1 B1 d1) ok W hv)
  have Hr := Lib.hid hr0
  have HD := Lib.hid (DoSt.made w x0 x1 x2 x3 x4)
  clear hls hog hog' hog'' hr0 hr1 hr2 e0 e1 e2 e3 e4 f0 f1 f2 f3 f4 k0 k1 k2 k3 k4
  go_enter Tryz.func74, Tryz.ntmps74
  go_wp2_with fail
  refine (HSz.out _ (Hr.out.below (two_alloc _ _ _))).mono ?_
  rintro e W1 ⟨rfl, hb⟩
  have HD1 := Lib.hid (HD.out.below hb)
  have HB1 := Lib.hid (bthen (two_alloc _ _ _) hb)
  clear hb E0 E1 E2 E3 E4
  have q1 := bcell HB1.out CI.out.2
  have q2 := bcell HB1.out CJ.out.2
  have q3 := bcell HB1.out.drew CI.out.2
  have q4 := bcell HB1.out.drew CJ.out.2
  go_upto_region 2 with fail
  go_cut [8, 9] (fun a b wx => a = .int .i64 I.num ∧ b = .int .i64 J.num ∧ wx = W1.drew)
  case first =>
    go_region
    all_goals go_wp2_with fail
    all_goals go_meet
    all_goals exact ⟨rfl, rfl, rfl⟩
  case rest =>
    obtain ⟨rfl, rfl, rfl⟩ := hcut
    clear q1 q2 q3 q4
    have E0 := bcell HB1.out.drew CE.out.1
    have E1 := bcell HB1.out.drew CE.out.2.1
    have E2 := bcell HB1.out.drew CE.out.2.2.1
    have E3 := bcell HB1.out.drew CE.out.2.2.2.1
    have E4 := bcell HB1.out.drew CE.out.2.2.2.2
    have E5 := bcell HB1.out CE.out.1
    have E6 := bcell HB1.out CE.out.2.1
    have E7 := bcell HB1.out CE.out.2.2.1
    have E8 := bcell HB1.out CE.out.2.2.2.1
    have E9 := bcell HB1.out CE.out.2.2.2.2
    go_wp2_with fail
    refine (HRw.out _ (Hr.out.below HB1.out.drew)).mono ?_
    rw [HK.out]
    rintro e W2 ⟨rfl, hb⟩
    have HD2 := Lib.hid ((HD1.out.below (Below.refl _ _).drew).below hb)
    have HB2 := Lib.hid (bthen HB1.out.drew hb)
    clear hb E0 E1 E2 E3 E4 E5 E6 E7 E8 E9
    have q0 := bcell HB2.out CI.out.1
    have q1 := bcell HB2.out CJ.out.1
    have X0 := bcell HB2.out CE.out.1
    have X2 := bcell HB2.out CE.out.2.2.1
    have X3 := bcell HB2.out CE.out.2.2.2.1
    go_wp2_with fail
    refine (prim_trapped _ _).mono ?_
    rintro e wn ⟨rfl, rfl⟩
    clear q0 q1 X0 X2 X3
    obtain ⟨h0, h1, h2, h3, h4, r0, r1, r2, r3, r4, hf, hw⟩ := HD2.out.below (one_b _ (cellsV 0 0))
    have hf0 := hf 0
    have hf1 := hf 1
    have hf2 := hf 2
    have hf3 := hf 3
    have hf4 := hf 4
    have Hw := Lib.hid hw
    clear hw hf
    go_wp2_with fail
    refine bodyPost_ret (v := .tuple #[aggV 0 0, .int .i64 3]) ?_ rfl ⟨rfl, five_sets Hw.out (Nat.le_succ _) _ _ _ _ _ _ _ _ _ _⟩
    rw [results_cell_tmp rfl]
    go_simp
set_option maxRecDepth 20000 in
set_option maxHeartbeats 2000000 in
theorem prim_slice_t2 (X I J : V) (hk : (decide (X.kind = 4) || decide (X.kind = 3)) = true) (hi : I.kind ≠ 2) (x0 x1 x2 x3 x4 : Value) (A : Option Addr) (c : Nat) (ok : Nat → Prop) (w : World) (hls : RdVs ok w (.slice A 3 c) 0 [X, I, J]) :
    Calls Tryz.prog 74 #[.agg #[x0, x1, x2, x3, x4], .slice A 3 c] w (PlainPost w 0 0 3) := by
  have HK := Lib.hid hk
  have gi : (I.kind != 2) = true := by simpa using hi
  clear hk hi
  obtain ⟨g, off, A1, c1, B1, d1, rfl, hog, hr0, e0, e1, e2, e3, e4⟩ := hls.elem 0 (by simp)
  obtain ⟨g', off', A2, c2, B2, d2, hgg, hog', hr1, f0, f1, f2, f3, f4⟩ := hls.elem 1 (by simp)
  injection hgg with hgg
  injection hgg with hg1 hg2
  subst hg1 hg2
  obtain ⟨g', off', A3, c3, B3, d3, hgg, hog'', hr2, k0, k1, k2, k3, k4⟩ := hls.elem 2 (by simp)
  injection hgg with hgg
  injection hgg with hg1 hg2
  subst hg1 hg2
  simp only [List.getElem_cons_zero, List.getElem_cons_succ, Nat.zero_mul, Nat.one_mul, Nat.add_zero, show 2 * 5 = 10 from rfl] at e0 e1 e2 e3 e4 f0 f1 k0 k1 hr0
  have E0 := fun U V => bcell (two_alloc w U V) e0
  have E1 := fun U V => bcell (two_alloc w U V) e1
  have E2 := fun U V => bcell (two_alloc w U V) e2
  have E3 := fun U V => bcell (two_alloc w U V) e3
  have E4 := fun U V => bcell (two_alloc w U V) e4
  have CE := Lib.hid (And.intro e0 (And.intro e1 (And.intro e2 (And.intro e3 e4))))
  have CI := Lib.hid (And.intro f0 f1)
  have CJ := Lib.hid (And.intro k0 k1)
  have HSz := Lib.hid (fun W hv => prim_size X (valV X A1 c1 B1 d1) ok W hv)
  have HRw := Lib.hid (fun W hv => prim_row X (valV X A1 c1 B1 d1) ok W hv)
  have Hr := Lib.hid hr0
  have HD := Lib.hid (DoSt.made w x0 x1 x2 x3 x4)
  clear hls hog hog' hog'' hr0 hr1 hr2 e0 e1 e2 e3 e4 f0 f1 f2 f3 f4 k0 k1 k2 k3 k4
  go_enter Tryz.func74, Tryz.ntmps74
  go_wp2_with fail
  refine (HSz.out _ (Hr.out.below (two_alloc _ _ _))).mono ?_
  rintro e W1 ⟨rfl, hb⟩
  have HD1 := Lib.hid (HD.out.below hb)
  have HB1 := Lib.hid (bthen (two_alloc _ _ _) hb)
  clear hb E0 E1 E2 E3 E4
  have q1 := bcell HB1.out CI.out.2
  have q2 := bcell HB1.out CJ.out.2
  have q3 := bcell HB1.out.drew CI.out.2
  have q4 := bcell HB1.out.drew CJ.out.2
  go_upto_region 2 with fail
  go_cut [8, 9] (fun a b wx => a = .int .i64 I.num ∧ b = .int .i64 J.num ∧ wx = W1.drew)
  case first =>
    go_region
    all_goals go_wp2_with fail
    all_goals go_meet
    all_goals exact ⟨rfl, rfl, rfl⟩
  case rest =>
    obtain ⟨rfl, rfl, rfl⟩ := hcut
    clear q1 q2 q3 q4
    have E0 := bcell HB1.out.drew CE.out.1
    have E1 := bcell HB1.out.drew CE.out.2.1
    have E2 := bcell HB1.out.drew CE.out.2.2.1
    have E3 := bcell HB1.out.drew CE.out.2.2.2.1
    have E4 := bcell HB1.out.drew CE.out.2.2.2.2
    have E5 := bcell HB1.out CE.out.1
    have E6 := bcell HB1.out CE.out.2.1
    have E7 := bcell HB1.out CE.out.2.2.1
    have E8 := bcell HB1.out CE.out.2.2.2.1
    have E9 := bcell HB1.out CE.out.2.2.2.2
    go_wp2_with fail
    refine (HRw.out _ (Hr.out.below HB1.out.drew)).mono ?_
    rw [HK.out]
    rintro e W2 ⟨rfl, hb⟩
    have HD2 := Lib.hid ((HD1.out.below (Below.refl _ _).drew).below hb)
    have HB2 := Lib.hid (bthen HB1.out.drew hb)
    clear hb E0 E1 E2 E3 E4 E5 E6 E7 E8 E9
    have q0 := bcell HB2.out CI.out.1
    have q1 := bcell HB2.out CJ.out.1
    have X0 := bcell HB2.out CE.out.1
    have X2 := bcell HB2.out CE.out.2.2.1
    have X3 := bcell HB2.out CE.out.2.2.2.1
    go_wp2_with fail
    refine (prim_trapped _ _).mono ?_
    rintro e wn ⟨rfl, rfl⟩
    clear q0 q1 X0 X2 X3
    obtain ⟨h0, h1, h2, h3, h4, r0, r1, r2, r3, r4, hf, hw⟩ := HD2.out.below (one_b _ (cellsV 0 0))
    have hf0 := hf 0
    have hf1 := hf 1
    have hf2 := hf 2
    have hf3 := hf 3
    have hf4 := hf 4
    have Hw := Lib.hid hw
    clear hw hf
    go_wp2_with fail
    refine bodyPost_ret (v := .tuple #[aggV 0 0, .int .i64 3]) ?_ rfl ⟨rfl, five_sets Hw.out (Nat.le_succ _) _ _ _ _ _ _ _ _ _ _⟩
    rw [results_cell_tmp rfl]
    go_simp
set_option maxRecDepth 20000 in
set_option maxHeartbeats 2000000 in
theorem prim_slice_t3 (X I J : V) (hk : (decide (X.kind = 4) || decide (X.kind = 3)) = true) (hi : I.kind = 2) (hj : J.kind ≠ 2) (x0 x1 x2 x3 x4 : Value) (A : Option Addr) (c : Nat) (ok : Nat → Prop) (w : World) (hls : RdVs ok w (.slice A 3 c) 0 [X, I, J]) :
    Calls Tryz.prog 74 #[.agg #[x0, x1, x2, x3, x4], .slice A 3 c] w (PlainPost w 0 0 3) := by
  have HK := Lib.hid hk
  have gi : (I.kind != 2) = false := by simpa using hi
  have gj : (J.kind != 2) = true := by simpa using hj
  clear hk hi hj
  obtain ⟨g, off, A1, c1, B1, d1, rfl, hog, hr0, e0, e1, e2, e3, e4⟩ := hls.elem 0 (by simp)
  obtain ⟨g', off', A2, c2, B2, d2, hgg, hog', hr1, f0, f1, f2, f3, f4⟩ := hls.elem 1 (by simp)
  injection hgg with hgg
  injection hgg with hg1 hg2
  subst hg1 hg2
  obtain ⟨g', off', A3, c3, B3, d3, hgg, hog'', hr2, k0, k1, k2, k3, k4⟩ := hls.elem 2 (by simp)
  injection hgg with hgg
  injection hgg with hg1 hg2
  subst hg1 hg2
  simp only [List.getElem_cons_zero, List.getElem_cons_succ, Nat.zero_mul, Nat.one_mul, Nat.add_zero, show 2 * 5 = 10 from rfl] at e0 e1 e2 e3 e4 f0 f1 k0 k1 hr0
  have E0 := fun U V => bcell (two_alloc w U V) e0
  have E1 := fun U V => bcell (two_alloc w U V) e1
  have E2 := fun U V => bcell (two_alloc w U V) e2
  have E3 := fun U V => bcell (two_alloc w U V) e3
  have E4 := fun U V => bcell (two_alloc w U V) e4
  have CE := Lib.hid (And.intro e0 (And.intro e1 (And.intro e2 (And.intro e3 e4))))
  have CI := Lib.hid (And.intro f0 f1)
  have CJ := Lib.hid (And.intro k0 k1)
  have HSz := Lib.hid (fun W hv => prim_size X (valV X A1 c1 B1 d1) ok W hv)
  have HRw := Lib.hid (fun W hv => prim_row X (valV X A1 c1 B1 d1) ok W hv)
  have Hr := Lib.hid hr0
  have HD := Lib.hid (DoSt.made w x0 x1 x2 x3 x4)
  clear hls hog hog' hog'' hr0 hr1 hr2 e0 e1 e2 e3 e4 f0 f1 f2 f3 f4 k0 k1 k2 k3 k4
  go_enter Tryz.func74, Tryz.ntmps74
  go_wp2_with fail
  refine (HSz.out _ (Hr.out.below (two_alloc _ _ _))).mono ?_
  rintro e W1 ⟨rfl, hb⟩
  have HD1 := Lib.hid (HD.out.below hb)
  have HB1 := Lib.hid (bthen (two_alloc _ _ _) hb)
  clear hb E0 E1 E2 E3 E4
  have q1 := bcell HB1.out CI.out.2
  have q2 := bcell HB1.out CJ.out.2
  have q3 := bcell HB1.out.drew CI.out.2
  have q4 := bcell HB1.out.drew CJ.out.2
  go_upto_region 2 with fail
  go_cut [8, 9] (fun a b wx => a = .int .i64 I.num ∧ b = .int .i64 J.num ∧ wx = W1.drew)
  case first =>
    go_region
    all_goals go_wp2_with fail
    all_goals go_meet
    all_goals exact ⟨rfl, rfl, rfl⟩
  case rest =>
    obtain ⟨rfl, rfl, rfl⟩ := hcut
    clear q1 q2 q3 q4
    have E0 := bcell HB1.out.drew CE.out.1
    have E1 := bcell HB1.out.drew CE.out.2.1
    have E2 := bcell HB1.out.drew CE.out.2.2.1
    have E3 := bcell HB1.out.drew CE.out.2.2.2.1
    have E4 := bcell HB1.out.drew CE.out.2.2.2.2
    have E5 := bcell HB1.out CE.out.1
    have E6 := bcell HB1.out CE.out.2.1
    have E7 := bcell HB1.out CE.out.2.2.1
    have E8 := bcell HB1.out CE.out.2.2.2.1
    have E9 := bcell HB1.out CE.out.2.2.2.2
    go_wp2_with fail
    refine (HRw.out _ (Hr.out.below HB1.out.drew)).mono ?_
    rw [HK.out]
    rintro e W2 ⟨rfl, hb⟩
    have HD2 := Lib.hid ((HD1.out.below (Below.refl _ _).drew).below hb)
    have HB2 := Lib.hid (bthen HB1.out.drew hb)
    clear hb E0 E1 E2 E3 E4 E5 E6 E7 E8 E9
    have q0 := bcell HB2.out CI.out.1
    have q1 := bcell HB2.out CJ.out.1
    have X0 := bcell HB2.out CE.out.1
    have X2 := bcell HB2.out CE.out.2.2.1
    have X3 := bcell HB2.out CE.out.2.2.2.1
    go_wp2_with fail
    refine (prim_trapped _ _).mono ?_
    rintro e wn ⟨rfl, rfl⟩
    clear q0 q1 X0 X2 X3
    obtain ⟨h0, h1, h2, h3, h4, r0, r1, r2, r3, r4, hf, hw⟩ := HD2.out.below (one_b _ (cellsV 0 0))
    have hf0 := hf 0
    have hf1 := hf 1
    have hf2 := hf 2
    have hf3 := hf 3
    have hf4 := hf 4
    have Hw := Lib.hid hw
    clear hw hf
    go_wp2_with fail
    refine bodyPost_ret (v := .tuple #[aggV 0 0, .int .i64 3]) ?_ rfl ⟨rfl, five_sets Hw.out (Nat.le_succ _) _ _ _ _ _ _ _ _ _ _⟩
    rw [results_cell_tmp rfl]
    go_simp
set_option maxRecDepth 20000 in
set_option maxHeartbeats 2000000 in
theorem prim_slice_r1 (X I J : V) (hk : (decide (X.kind = 4) || decide (X.kind = 3)) = true) (hi : I.kind = 2) (hj : J.kind = 2) (h1 : I.num < 0) (x0 x1 x2 x3 x4 : Value) (A : Option Addr) (c : Nat) (ok : Nat → Prop) (w : World) (hls : RdVs ok w (.slice A 3 c) 0 [X, I, J]) :
    Calls Tryz.prog 74 #[.agg #[x0, x1, x2, x3, x4], .slice A 3 c] w (PlainPost w 0 0 2) := by
  have HK := Lib.hid hk
  have gi : (I.kind != 2) = false := by simpa using hi
  have gj : (J.kind != 2) = false := by simpa using hj
  clear hk hi hj
  obtain ⟨g, off, A1, c1, B1, d1, rfl, hog, hr0, e0, e1, e2, e3, e4⟩ := hls.elem 0 (by simp)
  obtain ⟨g', off', A2, c2, B2, d2, hgg, hog', hr1, f0, f1, f2, f3, f4⟩ := hls.elem 1 (by simp)
  injection hgg with hgg
  injection hgg with hg1 hg2
  subst hg1 hg2
  obtain ⟨g', off', A3, c3, B3, d3, hgg, hog'', hr2, k0, k1, k2, k3, k4⟩ := hls.elem 2 (by simp)
  injection hgg with hgg
  injection hgg with hg1 hg2
  subst hg1 hg2
  simp only [List.getElem_cons_zero, List.getElem_cons_succ, Nat.zero_mul, Nat.one_mul, Nat.add_zero, show 2 * 5 = 10 from rfl] at e0 e1 e2 e3 e4 f0 f1 k0 k1 hr0
  have E0 := fun U V => bcell (two_alloc w U V) e0
  have E1 := fun U V => bcell (two_alloc w U V) e1
  have E2 := fun U V => bcell (two_alloc w U V) e2
  have E3 := fun U V => bcell (two_alloc w U V) e3
  have E4 := fun U V => bcell (two_alloc w U V) e4
  have CE := Lib.hid (And.intro e0 (And.intro e1 (And.intro e2 (And.intro e3 e4))))
  have CI := Lib.hid (And.intro f0 f1)
  have CJ := Lib.hid (And.intro k0 k1)
  have HSz := Lib.hid (fun W hv => prim_size X (valV X A1 c1 B1 d1) ok W hv)
  have HRw := Lib.hid (fun W hv => prim_row X (valV X A1 c1 B1 d1) ok W hv)
  have Hr := Lib.hid hr0
  have HD := Lib.hid (DoSt.made w x0 x1 x2 x3 x4)
  clear hls hog hog' hog'' hr0 hr1 hr2 e0 e1 e2 e3 e4 f0 f1 f2 f3 f4 k0 k1 k2 k3 k4
  go_enter Tryz.func74, Tryz.ntmps74
  go_wp2_with fail
  refine (HSz.out _ (Hr.out.below (two_alloc _ _ _))).mono ?_
  rintro e W1 ⟨rfl, hb⟩
  have HD1 := Lib.hid (HD.out.below hb)
  have HB1 := Lib.hid (bthen (two_alloc _ _ _) hb)
  clear hb E0 E1 E2 E3 E4
  have q1 := bcell HB1.out CI.out.2
  have q2 := bcell HB1.out CJ.out.2
  have q3 := bcell HB1.out.drew CI.out.2
  have q4 := bcell HB1.out.drew CJ.out.2
  go_upto_region 2 with fail
  go_cut [8, 9] (fun a b wx => a = .int .i64 I.num ∧ b = .int .i64 J.num ∧ wx = W1.drew)
  case first =>
    go_region
    all_goals go_wp2_with fail
    all_goals go_meet
    all_goals exact ⟨rfl, rfl, rfl⟩
  case rest =>
    obtain ⟨rfl, rfl, rfl⟩ := hcut
    clear q1 q2 q3 q4
    have E0 := bcell HB1.out.drew CE.out.1
    have E1 := bcell HB1.out.drew CE.out.2.1
    have E2 := bcell HB1.out.drew CE.out.2.2.1
    have E3 := bcell HB1.out.drew CE.out.2.2.2.1
    have E4 := bcell HB1.out.drew CE.out.2.2.2.2
    have E5 := bcell HB1.out CE.out.1
    have E6 := bcell HB1.out CE.out.2.1
    have E7 := bcell HB1.out CE.out.2.2.1
    have E8 := bcell HB1.out CE.out.2.2.2.1
    have E9 := bcell HB1.out CE.out.2.2.2.2
    go_wp2_with fail
    refine (HRw.out _ (Hr.out.below HB1.out.drew)).mono ?_
    rw [HK.out]
    rintro e W2 ⟨rfl, hb⟩
    have HD2 := Lib.hid ((HD1.out.below (Below.refl _ _).drew).below hb)
    have HB2 := Lib.hid (bthen HB1.out.drew hb)
    clear hb E0 E1 E2 E3 E4 E5 E6 E7 E8 E9
    have q0 := bcell HB2.out CI.out.1
    have q1 := bcell HB2.out CJ.out.1
    have X0 := bcell HB2.out CE.out.1
    have X2 := bcell HB2.out CE.out.2.2.1
    have X3 := bcell HB2.out CE.out.2.2.2.1
    go_wp2_with fail
    refine (prim_trapped _ _).mono ?_
    rintro e wn ⟨rfl, rfl⟩
    clear q0 q1 X0 X2 X3
    obtain ⟨h0, h1, h2, h3, h4, r0, r1, r2, r3, r4, hf, hw⟩ := HD2.out.below (one_b _ (cellsV 0 0))
    have hf0 := hf 0
    have hf1 := hf 1
    have hf2 := hf 2
    have hf3 := hf 3
    have hf4 := hf 4
    have Hw := Lib.hid hw
    clear hw hf
    go_wp2_with fail
    refine bodyPost_ret (v := .tuple #[aggV 0 0, .int .i64 2]) ?_ rfl ⟨rfl, five_sets Hw.out (Nat.le_succ _) _ _ _ _ _ _ _ _ _ _⟩
    rw [results_cell_tmp rfl]
    go_simp
set_option maxRecDepth 20000 in
set_option maxHeartbeats 2000000 in
theorem prim_slice_r2 (X I J : V) (hk : (decide (X.kind = 4) || decide (X.kind = 3)) = true) (hi : I.kind = 2) (hj : J.kind = 2) (h1 : ¬ I.num < 0) (h2 : J.num < I.num) (x0 x1 x2 x3 x4 : Value) (A : Option Addr) (c : Nat) (ok : Nat → Prop) (w : World) (hls : RdVs ok w (.slice A 3 c) 0 [X, I, J]) :
    Calls Tryz.prog 74 #[.agg #[x0, x1, x2, x3, x4], .slice A 3 c] w (PlainPost w 0 0 2) := by
  have HK := Lib.hid hk
  have gi : (I.kind != 2) = false := by simpa using hi
  have gj : (J.kind != 2) = false := by simpa using hj
  clear hk hi hj
  obtain ⟨g, off, A1, c1, B1, d1, rfl, hog, hr0, e0, e1, e2, e3, e4⟩ := hls.elem 0 (by simp)
  obtain ⟨g', off', A2, c2, B2, d2, hgg, hog', hr1, f0, f1, f2, f3, f4⟩ := hls.elem 1 (by simp)
  injection hgg with hgg
  injection hgg with hg1 hg2
  subst hg1 hg2
  obtain ⟨g', off', A3, c3, B3, d3, hgg, hog'', hr2, k0, k1, k2, k3, k4⟩ := hls.elem 2 (by simp)
  injection hgg with hgg
  injection hgg with hg1 hg2
  subst hg1 hg2
  simp only [List.getElem_cons_zero, List.getElem_cons_succ, Nat.zero_mul, Nat.one_mul, Nat.add_zero, show 2 * 5 = 10 from rfl] at e0 e1 e2 e3 e4 f0 f1 k0 k1 hr0
  have E0 := fun U V => bcell (two_alloc w U V) e0
  have E1 := fun U V => bcell (two_alloc w U V) e1
  have E2 := fun U V => bcell (two_alloc w U V) e2
  have E3 := fun U V => bcell (two_alloc w U V) e3
  have E4 := fun U V => bcell (two_alloc w U V) e4
  have CE := Lib.hid (And.intro e0 (And.intro e1 (And.intro e2 (And.intro e3 e4))))
  have CI := Lib.hid (And.intro f0 f1)
  have CJ := Lib.hid (And.intro k0 k1)
  have HSz := Lib.hid (fun W hv => prim_size X (valV X A1 c1 B1 d1) ok W hv)
  have HRw := Lib.hid (fun W hv => prim_row X (valV X A1 c1 B1 d1) ok W hv)
  have Hr := Lib.hid hr0
  have HD := Lib.hid (DoSt.made w x0 x1 x2 x3 x4)
  clear hls hog hog' hog'' hr0 hr1 hr2 e0 e1 e2 e3 e4 f0 f1 f2 f3 f4 k0 k1 k2 k3 k4
  go_enter Tryz.func74, Tryz.ntmps74
  go_wp2_with fail
  refine (HSz.out _ (Hr.out.below (two_alloc _ _ _))).mono ?_
  rintro e W1 ⟨rfl, hb⟩
  have HD1 := Lib.hid (HD.out.below hb)
  have HB1 := Lib.hid (bthen (two_alloc _ _ _) hb)
  clear hb E0 E1 E2 E3 E4
  have q1 := bcell HB1.out CI.out.2
  have q2 := bcell HB1.out CJ.out.2
  have q3 := bcell HB1.out.drew CI.out.2
  have q4 := bcell HB1.out.drew CJ.out.2
  go_upto_region 2 with fail
  go_cut [8, 9] (fun a b wx => a = .int .i64 I.num ∧ b = .int .i64 J.num ∧ wx = W1.drew)
  case first =>
    go_region
    all_goals go_wp2_with fail
    all_goals go_meet
    all_goals exact ⟨rfl, rfl, rfl⟩
  case rest =>
    obtain ⟨rfl, rfl, rfl⟩ := hcut
    clear q1 q2 q3 q4
    have E0 := bcell HB1.out.drew CE.out.1
    have E1 := bcell HB1.out.drew CE.out.2.1
    have E2 := bcell HB1.out.drew CE.out.2.2.1
    have E3 := bcell HB1.out.drew CE.out.2.2.2.1
    have E4 := bcell HB1.out.drew CE.out.2.2.2.2
    have E5 := bcell HB1.out CE.out.1
    have E6 := bcell HB1.out CE.out.2.1
    have E7 := bcell HB1.out CE.out.2.2.1
    have E8 := bcell HB1.out CE.out.2.2.2.1
    have E9 := bcell HB1.out CE.out.2.2.2.2
    go_wp2_with fail
    refine (HRw.out _ (Hr.out.below HB1.out.drew)).mono ?_
    rw [HK.out]
    rintro e W2 ⟨rfl, hb⟩
    have HD2 := Lib.hid ((HD1.out.below (Below.refl _ _).drew).below hb)
    have HB2 := Lib.hid (bthen HB1.out.drew hb)
    clear hb E0 E1 E2 E3 E4 E5 E6 E7 E8 E9
    have q0 := bcell HB2.out CI.out.1
    have q1 := bcell HB2.out CJ.out.1
    have X0 := bcell HB2.out CE.out.1
    have X2 := bcell HB2.out CE.out.2.2.1
    have X3 := bcell HB2.out CE.out.2.2.2.1
    go_wp2_with fail
    refine (prim_trapped _ _).mono ?_
    rintro e wn ⟨rfl, rfl⟩
    clear q0 q1 X0 X2 X3
    obtain ⟨h0, h1, h2, h3, h4, r0, r1, r2, r3, r4, hf, hw⟩ := HD2.out.below (one_b _ (cellsV 0 0))
    have hf0 := hf 0
    have hf1 := hf 1
    have hf2 := hf 2
    have hf3 := hf 3
    have hf4 := hf 4
    have Hw := Lib.hid hw
    clear hw hf
    go_wp2_with fail
    refine bodyPost_ret (v := .tuple #[aggV 0 0, .int .i64 2]) ?_ rfl ⟨rfl, five_sets Hw.out (Nat.le_succ _) _ _ _ _ _ _ _ _ _ _⟩
    rw [results_cell_tmp rfl]
    go_simp
set_option maxRecDepth 20000 in
set_option maxHeartbeats 2000000 in
theorem prim_slice_r3 (X I J : V) (hk : (decide (X.kind = 4) || decide (X.kind = 3)) = true) (hi : I.kind = 2) (hj : J.kind = 2) (h1 : ¬ I.num < 0) (h2 : ¬ J.num < I.num) (h3 : longS X < J.num) (x0 x1 x2 x3 x4 : Value) (A : Option Addr) (c : Nat) (ok : Nat → Prop) (w : World) (hls : RdVs ok w (.slice A 3 c) 0 [X, I, J]) :
    Calls Tryz.prog 74 #[.agg #[x0, x1, x2, x3, x4], .slice A 3 c] w (PlainPost w 0 0 2) := by
  have HK := Lib.hid hk
  have gi : (I.kind != 2) = false := by simpa using hi
  have gj : (J.kind != 2) = false := by simpa using hj
  clear hk hi hj
  obtain ⟨g, off, A1, c1, B1, d1, rfl, hog, hr0, e0, e1, e2, e3, e4⟩ := hls.elem 0 (by simp)
  obtain ⟨g', off', A2, c2, B2, d2, hgg, hog', hr1, f0, f1, f2, f3, f4⟩ := hls.elem 1 (by simp)
  injection hgg with hgg
  injection hgg with hg1 hg2
  subst hg1 hg2
  obtain ⟨g', off', A3, c3, B3, d3, hgg, hog'', hr2, k0, k1, k2, k3, k4⟩ := hls.elem 2 (by simp)
  injection hgg with hgg
  injection hgg with hg1 hg2
  subst hg1 hg2
  simp only [List.getElem_cons_zero, List.getElem_cons_succ, Nat.zero_mul, Nat.one_mul, Nat.add_zero, show 2 * 5 = 10 from rfl] at e0 e1 e2 e3 e4 f0 f1 k0 k1 hr0
  have E0 := fun U V => bcell (two_alloc w U V) e0
  have E1 := fun U V => bcell (two_alloc w U V) e1
  have E2 := fun U V => bcell (two_alloc w U V) e2
  have E3 := fun U V => bcell (two_alloc w U V) e3
  have E4 := fun U V => bcell (two_alloc w U V) e4
  have CE := Lib.hid (And.intro e0 (And.intro e1 (And.intro e2 (And.intro e3 e4))))
  have CI := Lib.hid (And.intro f0 f1)
  have CJ := Lib.hid (And.intro k0 k1)
  have HSz := Lib.hid (fun W hv => prim_size X (valV X A1 c1 B1 d1) ok W hv)
  generalize longS X = n at *
  have HRw := Lib.hid (fun W hv => prim_row X (valV X A1 c1 B1 d1) ok W hv)
  have Hr := Lib.hid hr0
  have HD := Lib.hid (DoSt.made w x0 x1 x2 x3 x4)
  clear hls hog hog' hog'' hr0 hr1 hr2 e0 e1 e2 e3 e4 f0 f1 f2 f3 f4 k0 k1 k2 k3 k4
  go_enter Tryz.func74, Tryz.ntmps74
  go_wp2_with fail
  refine (HSz.out _ (Hr.out.below (two_alloc _ _ _))).mono ?_
  rintro e W1 ⟨rfl, hb⟩
  have HD1 := Lib.hid (HD.out.below hb)
  have HB1 := Lib.hid (bthen (two_alloc _ _ _) hb)
  clear hb E0 E1 E2 E3 E4
  have q1 := bcell HB1.out CI.out.2
  have q2 := bcell HB1.out CJ.out.2
  have q3 := bcell HB1.out.drew CI.out.2
  have q4 := bcell HB1.out.drew CJ.out.2
  go_upto_region 2 with fail
  go_cut [8, 9] (fun a b wx => a = .int .i64 I.num ∧ b = .int .i64 J.num ∧ wx = W1.drew)
  case first =>
    go_region
    all_goals go_wp2_with fail
    all_goals go_meet
    all_goals exact ⟨rfl, rfl, rfl⟩
  case rest =>
    obtain ⟨rfl, rfl, rfl⟩ := hcut
    clear q1 q2 q3 q4
    have E0 := bcell HB1.out.drew CE.out.1
    have E1 := bcell HB1.out.drew CE.out.2.1
    have E2 := bcell HB1.out.drew CE.out.2.2.1
    have E3 := bcell HB1.out.drew CE.out.2.2.2.1
    have E4 := bcell HB1.out.drew CE.out.2.2.2.2
    have E5 := bcell HB1.out CE.out.1
    have E6 := bcell HB1.out CE.out.2.1
    have E7 := bcell HB1.out CE.out.2.2.1
    have E8 := bcell HB1.out CE.out.2.2.2.1
    have E9 := bcell HB1.out CE.out.2.2.2.2
    go_wp2_with fail
    refine (HRw.out _ (Hr.out.below HB1.out.drew)).mono ?_
    rw [HK.out]
    rintro e W2 ⟨rfl, hb⟩
    have HD2 := Lib.hid ((HD1.out.below (Below.refl _ _).drew).below hb)
    have HB2 := Lib.hid (bthen HB1.out.drew hb)
    clear hb E0 E1 E2 E3 E4 E5 E6 E7 E8 E9
    have q0 := bcell HB2.out CI.out.1
    have q1 := bcell HB2.out CJ.out.1
    have X0 := bcell HB2.out CE.out.1
    have X2 := bcell HB2.out CE.out.2.2.1
    have X3 := bcell HB2.out CE.out.2.2.2.1
    go_wp2_with fail
    refine (prim_trapped _ _).mono ?_
    rintro e wn ⟨rfl, rfl⟩
    clear q0 q1 X0 X2 X3
    obtain ⟨h0, h1, h2, h3, h4, r0, r1, r2, r3, r4, hf, hw⟩ := HD2.out.below (one_b _ (cellsV 0 0))
    have hf0 := hf 0
    have hf1 := hf 1
    have hf2 := hf 2
    have hf3 := hf 3
    have hf4 := hf 4
    have Hw := Lib.hid hw
    clear hw hf
    go_wp2_with fail
    refine bodyPost_ret (v := .tuple #[aggV 0 0, .int .i64 2]) ?_ rfl ⟨rfl, five_sets Hw.out (Nat.le_succ _) _ _ _ _ _ _ _ _ _ _⟩
    rw [results_cell_tmp rfl]
    go_simp
set_option maxRecDepth 20000 in
set_option maxHeartbeats 2000000 in
theorem prim_slice_str (X I J : V) (hX : X.kind = 3) (hi : I.kind = 2) (hj : J.kind = 2) (h1 : ¬ I.num < 0) (h2 : ¬ J.num < I.num) (h3 : ¬ longS X < J.num) (hl : X.str.length ≤ 16777216) (x0 x1 x2 x3 x4 : Value) (A : Option Addr) (c : Nat) (ok : Nat → Prop) (w : World) (hls : RdVs ok w (.slice A 3 c) 0 [X, I, J]) :
    Calls Tryz.prog 74 #[.agg #[x0, x1, x2, x3, x4], .slice A 3 c] w (PlainText w ((X.str.drop I.num.toNat).take (J.num - I.num).toNat) 0) := by
  have HK := Lib.hid (show (decide (X.kind = 4) || decide (X.kind = 3)) = true by simp [hX])
  have gi : (I.kind != 2) = false := by simpa using hi
  have gj : (J.kind != 2) = false := by simpa using hj
  have g3 : (X.kind == 3) = true := by simpa using hX
  have hlen : longS X = X.str.length := by simp [longS, hX]
  rw [hlen] at h3
  have HLen := Lib.hid hlen
  clear hX hi hj hlen
  obtain ⟨g, off, A1, c1, B1, d1, rfl, hog, hr0, e0, e1, e2, e3, e4⟩ := hls.elem 0 (by simp)
  obtain ⟨g', off', A2, c2, B2, d2, hgg, hog', hr1, f0, f1, f2, f3, f4⟩ := hls.elem 1 (by simp)
  injection hgg with hgg
  injection hgg with hg1 hg2
  subst hg1 hg2
  obtain ⟨g', off', A3, c3, B3, d3, hgg, hog'', hr2, k0, k1, k2, k3, k4⟩ := hls.elem 2 (by simp)
  injection hgg with hgg
  injection hgg with hg1 hg2
  subst hg1 hg2
  simp only [List.getElem_cons_zero, List.getElem_cons_succ, Nat.zero_mul, Nat.one_mul, Nat.add_zero, show 2 * 5 = 10 from rfl] at e0 e1 e2 e3 e4 f0 f1 k0 k1 hr0
  have E0 := fun U V => bcell (two_alloc w U V) e0
  have E1 := fun U V => bcell (two_alloc w U V) e1
  have E2 := fun U V => bcell (two_alloc w U V) e2
  have E3 := fun U V => bcell (two_alloc w U V) e3
  have E4 := fun U V => bcell (two_alloc w U V) e4
  have CE := Lib.hid (And.intro e0 (And.intro e1 (And.intro e2 (And.intro e3 e4))))
  have CI := Lib.hid (And.intro f0 f1)
  have CJ := Lib.hid (And.intro k0 k1)
  have HSz := Lib.hid (fun W hv => prim_size X (valV X A1 c1 B1 d1) ok W hv)
  have HRw := Lib.hid (fun W hv => prim_row X (valV X A1 c1 B1 d1) ok W hv)
  have Hr := Lib.hid hr0
  have HD := Lib.hid (DoSt.made w x0 x1 x2 x3 x4)
  clear hls hog hog' hog'' hr0 hr1 hr2 e0 e1 e2 e3 e4 f0 f1 f2 f3 f4 k0 k1 k2 k3 k4
  go_enter Tryz.func74, Tryz.ntmps74
  go_wp2_with fail
  refine (HSz.out _ (Hr.out.below (two_alloc _ _ _))).mono ?_
  rw [HLen.out]
  rintro e W1 ⟨rfl, hb⟩
  have HD1 := Lib.hid (HD.out.below hb)
  have HB1 := Lib.hid (bthen (two_alloc _ _ _) hb)
  clear hb E0 E1 E2 E3 E4
  have q1 := bcell HB1.out CI.out.2
  have q2 := bcell HB1.out CJ.out.2
  have q3 := bcell HB1.out.drew CI.out.2
  have q4 := bcell HB1.out.drew CJ.out.2
  go_upto_region 2 with fail
  go_cut [8, 9] (fun a b wx => a = .int .i64 I.num ∧ b = .int .i64 J.num ∧ wx = W1.drew)
  case first =>
    go_region
    all_goals go_wp2_with fail
    all_goals go_meet
    all_goals exact ⟨rfl, rfl, rfl⟩
  case rest =>
    obtain ⟨rfl, rfl, rfl⟩ := hcut
    clear q1 q2 q3 q4
    have E0 := bcell HB1.out.drew CE.out.1
    have E1 := bcell HB1.out.drew CE.out.2.1
    have E2 := bcell HB1.out.drew CE.out.2.2.1
    have E3 := bcell HB1.out.drew CE.out.2.2.2.1
    have E4 := bcell HB1.out.drew CE.out.2.2.2.2
    have E5 := bcell HB1.out CE.out.1
    have E6 := bcell HB1.out CE.out.2.1
    have E7 := bcell HB1.out CE.out.2.2.1
    have E8 := bcell HB1.out CE.out.2.2.2.1
    have E9 := bcell HB1.out CE.out.2.2.2.2
    go_wp2_with fail
    refine (HRw.out _ (Hr.out.below HB1.out.drew)).mono ?_
    rw [HK.out]
    rintro e W2 ⟨rfl, hb⟩
    have HD2 := Lib.hid ((HD1.out.below (Below.refl _ _).drew).below hb)
    have HB2 := Lib.hid (bthen HB1.out.drew hb)
    clear hb E0 E1 E2 E3 E4 E5 E6 E7 E8 E9
    have q0 := bcell HB2.out CI.out.1
    have q1 := bcell HB2.out CJ.out.1
    have X0 := bcell HB2.out CE.out.1
    have X2 := bcell HB2.out CE.out.2.2.1
    have X3 := bcell HB2.out CE.out.2.2.2.1
    go_wp2_with fail
    refine (prim_text _ _).mono ?_
    rintro e wn ⟨rfl, rfl⟩
    rw [ext_mid]
    clear q0 q1 X0 X2 X3
    obtain ⟨h0, h1', h2', h3', h4, r0, r1, r2, r3, r4, hf, hw⟩ := HD2.out.below (one_b _ (.cells #[.int .i64 3, .int .i64 0, .string ⟨((X.str.drop I.num.toNat).take (J.num.toNat - I.num.toNat)).toArray⟩, .slice none 0 0, .slice none 0 0] 25))
    have hf0 := hf 0
    have hf1 := hf 1
    have hf2 := hf 2
    have hf3 := hf 3
    have hf4 := hf 4
    have Hw := Lib.hid hw
    clear hw hf
    go_wp2_with fail
    rw [show (J.num - I.num).toNat = J.num.toNat - I.num.toNat by omega]
    refine bodyPost_ret (v := .tuple #[.agg #[.int .i64 3, .int .i64 0, .string ⟨((X.str.drop I.num.toNat).take (J.num.toNat - I.num.toNat)).toArray⟩, .slice none 0 0, .slice none 0 0], .int .i64 0]) ?_ rfl ⟨rfl, five_sets Hw.out (Nat.le_succ _) _ _ _ _ _ _ _ _ _ _⟩
    rw [results_cell_tmp rfl]
    go_simp
set_option maxRecDepth 20000 in
set_option maxHeartbeats 2000000 in
theorem prim_slice_arr (X I J : V) (hX : X.kind = 4) (hi : I.kind = 2) (hj : J.kind = 2) (h1 : ¬ I.num < 0) (h2 : ¬ J.num < I.num) (h3 : ¬ longS X < J.num) (hl : X.parts.length ≤ 16777216) (R : V) (t : Int) (hR : sizedS (.mk 4 0 [] ((X.parts.drop I.num.toNat).take (J.num - I.num).toNat) []) = (R, t)) (x0 x1 x2 x3 x4 : Value) (A : Option Addr) (c : Nat) (ok : Nat → Prop) (w : World) (hls : RdVs ok w (.slice A 3 c) 0 [X, I, J]) :
    Calls Tryz.prog 74 #[.agg #[x0, x1, x2, x3, x4], .slice A 3 c] w (AnsPost w R t) := by
  have HK := Lib.hid (show (decide (X.kind = 4) || decide (X.kind = 3)) = true by simp [hX])
  have gi : (I.kind != 2) = false := by simpa using hi
  have gj : (J.kind != 2) = false := by simpa using hj
  have g3 : (X.kind == 3) = false := by simp [hX]
  have hlen : longS X = X.parts.length := by simp [longS, hX]
  rw [hlen] at h3
  have HLen := Lib.hid hlen
  have HR := Lib.hid hR
  clear hX hi hj hlen hR
  obtain ⟨g, off, A1, c1, B1, d1, rfl, hog, hr0, e0, e1, e2, e3, e4⟩ := hls.elem 0 (by simp)
  obtain ⟨g', off', A2, c2, B2, d2, hgg, hog', hr1, f0, f1, f2, f3, f4⟩ := hls.elem 1 (by simp)
  injection hgg with hgg
  injection hgg with hg1 hg2
  subst hg1 hg2
  obtain ⟨g', off', A3, c3, B3, d3, hgg, hog'', hr2, k0, k1, k2, k3, k4⟩ := hls.elem 2 (by simp)
  injection hgg with hgg
  injection hgg with hg1 hg2
  subst hg1 hg2
  simp only [List.getElem_cons_zero, List.getElem_cons_succ, Nat.zero_mul, Nat.one_mul, Nat.add_zero, show 2 * 5 = 10 from rfl] at e0 e1 e2 e3 e4 f0 f1 k0 k1 hr0
  have E0 := fun U V => bcell (two_alloc w U V) e0
  have E1 := fun U V => bcell (two_alloc w U V) e1
  have E2 := fun U V => bcell (two_alloc w U V) e2
  have E3 := fun U V => bcell (two_alloc w U V) e3
  have E4 := fun U V => bcell (two_alloc w U V) e4
  have CE := Lib.hid (And.intro e0 (And.intro e1 (And.intro e2 (And.intro e3 e4))))
  have CI := Lib.hid (And.intro f0 f1)
  have CJ := Lib.hid (And.intro k0 k1)
  have HSz := Lib.hid (fun W hv => prim_size X (valV X A1 c1 B1 d1) ok W hv)
  have HRw := Lib.hid (fun W hv => prim_row X (valV X A1 c1 B1 d1) ok W hv)
  have Hr := Lib.hid hr0
  have HD := Lib.hid (DoSt.made w x0 x1 x2 x3 x4)
  clear hls hog hog' hog'' hr0 hr1 hr2 e0 e1 e2 e3 e4 f0 f1 f2 f3 f4 k0 k1 k2 k3 k4
  go_enter Tryz.func74, Tryz.ntmps74
  go_wp2_with fail
  refine (HSz.out _ (Hr.out.below (two_alloc _ _ _))).mono ?_
  rw [HLen.out]
  rintro e W1 ⟨rfl, hb⟩
  have HD1 := Lib.hid (HD.out.below hb)
  have HB1 := Lib.hid (bthen (two_alloc _ _ _) hb)
  clear hb E0 E1 E2 E3 E4
  have q1 := bcell HB1.out CI.out.2
  have q2 := bcell HB1.out CJ.out.2
  have q3 := bcell HB1.out.drew CI.out.2
  have q4 := bcell HB1.out.drew CJ.out.2
  go_upto_region 2 with fail
  go_cut [8, 9] (fun a b wx => a = .int .i64 I.num ∧ b = .int .i64 J.num ∧ wx = W1.drew)
  case first =>
    go_region
    all_goals go_wp2_with fail
    all_goals go_meet
    all_goals exact ⟨rfl, rfl, rfl⟩
  case rest =>
    obtain ⟨rfl, rfl, rfl⟩ := hcut
    clear q1 q2 q3 q4
    have E0 := bcell HB1.out.drew CE.out.1
    have E1 := bcell HB1.out.drew CE.out.2.1
    have E2 := bcell HB1.out.drew CE.out.2.2.1
    have E3 := bcell HB1.out.drew CE.out.2.2.2.1
    have E4 := bcell HB1.out.drew CE.out.2.2.2.2
    have E5 := bcell HB1.out CE.out.1
    have E6 := bcell HB1.out CE.out.2.1
    have E7 := bcell HB1.out CE.out.2.2.1
    have E8 := bcell HB1.out CE.out.2.2.2.1
    have E9 := bcell HB1.out CE.out.2.2.2.2
    go_wp2_with fail
    refine (HRw.out _ (Hr.out.below HB1.out.drew)).mono ?_
    rw [HK.out]
    rintro e W2 ⟨rfl, hb⟩
    have HD2 := Lib.hid ((HD1.out.below (Below.refl _ _).drew).below hb)
    have HB2 := Lib.hid (bthen HB1.out.drew hb)
    clear hb E0 E1 E2 E3 E4 E5 E6 E7 E8 E9
    have q0 := bcell HB2.out CI.out.1
    have q1 := bcell HB2.out CJ.out.1
    have X0 := bcell HB2.out CE.out.1
    have X2 := bcell HB2.out CE.out.2.2.1
    have X3 := bcell HB2.out CE.out.2.2.2.1
    obtain ⟨_, _, _, lvX, kvX, hvX, hfX, hlX, _⟩ := Hr.out.open
    injection hvX with hvX
    simp only [Array.mk.injEq, List.cons.injEq, and_true, true_and] at hvX
    obtain ⟨rfl, rfl⟩ := hvX
    have hcc : X.parts.length ≤ c1 ∧ c1 ≤ 9223372036854775807 := by
      obtain ⟨_, cap, he, hb1, hb2, _⟩ := hfX
      injection he with _ _ he
      subst he
      exact ⟨hb1, hb2⟩
    obtain ⟨hc1, hcm⟩ := hcc
    have HlX := Lib.hid hlX
    clear hfX hlX
    have hji : (J.num - I.num).toNat = J.num.toNat - I.num.toNat := by omega
    rw [hji] at HR
    clear hji
    by_cases hci : c1 = I.num.toNat
    · have hz : J.num.toNat - I.num.toNat = 0 := by omega
      rw [hz, List.take_zero] at HR
      have Hz := Lib.hid hz
      clear hz
      go_wp2_with fail
      refine (prim_sized' _ R t HR.out _ (fun _ => True) _ (sub_rd0 A1 (J.num.toNat - I.num.toNat) 0 Hz.out)).mono ?_
      rintro e w5 ⟨v', rfl, hv', hb⟩
      obtain ⟨A5, c5, B5, d5, rfl, _⟩ := hv'.form
      have HV := Lib.hid hv'
      have HS5 := Lib.hid (HD2.out.below hb)
      have Hlt := Lib.hid (lt_of_cell HD2.out.2.2.2.2.2.1)
      clear hv' hb q0 q1 X0 X2 X3
      obtain ⟨h0, h1', h2', h3', h4, r0, r1, r2, r3, r4, hf, hw⟩ := HS5.out
      have hf0 := hf 0
      have hf1 := hf 1
      have hf2 := hf 2
      have hf3 := hf 3
      have hf4 := hf 4
      have Hw := Lib.hid hw
      clear hw hf
      go_wp2_with fail
      refine bodyPost_ret (v := .tuple #[valV R A5 c5 B5 d5, .int .i64 t]) ?_ rfl ⟨_, rfl, ans_sets HV.out Hlt.out (Nat.lt_succ_self _) HB2.out.size _ _ _ _ _ _ _ _ _ _, five_sets Hw.out (Nat.le_succ _) _ _ _ _ _ _ _ _ _ _⟩
      rw [results_cell_tmp rfl]
      go_simp
    · have hc1i : J.num.toNat - I.num.toNat ≤ c1 - I.num.toNat ∧ c1 - I.num.toNat ≤ 9223372036854775807 ∧ J.num.toNat ≤ X.parts.length := by omega
      have Hci := Lib.hid hc1i
      clear hc1i
      go_wp2_with fail
      refine (prim_sized' _ R t HR.out _ ok _ (sub_rd (HlX.out.below HB2.out) I.num.toNat J.num.toNat (c1 - I.num.toNat) Hci.out.2.2 Hci.out.1 Hci.out.2.1 hl)).mono ?_
      rintro e w5 ⟨v', rfl, hv', hb⟩
      obtain ⟨A5, c5, B5, d5, rfl, _⟩ := hv'.form
      have HV := Lib.hid hv'
      have HS5 := Lib.hid (HD2.out.below hb)
      have Hlt := Lib.hid (lt_of_cell HD2.out.2.2.2.2.2.1)
      clear hv' hb q0 q1 X0 X2 X3
      obtain ⟨h0, h1', h2', h3', h4, r0, r1, r2, r3, r4, hf, hw⟩ := HS5.out
      have hf0 := hf 0
      have hf1 := hf 1
      have hf2 := hf 2
      have hf3 := hf 3
      have hf4 := hf 4
      have Hw := Lib.hid hw
      clear hw hf
      go_wp2_with fail
      refine bodyPost_ret (v := .tuple #[valV R A5 c5 B5 d5, .int .i64 t]) ?_ rfl ⟨_, rfl, ans_sets HV.out Hlt.out (Nat.lt_succ_self _) HB2.out.size _ _ _ _ _ _ _ _ _ _, five_sets Hw.out (Nat.le_succ _) _ _ _ _ _ _ _ _ _ _⟩
      rw [results_cell_tmp rfl]
      go_simp
end Go.Proofs.YtacaknkfddlklaaGreatDoor
