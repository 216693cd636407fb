/- The parser's walks: primary. -/
import Derived.Test.YtlnhhffhmeekoaaGreatDoorCParseWalkK
set_option linter.unusedVariables false
set_option linter.unusedSimpArgs false
namespace Go.Proofs.YtlnhhffhmeekoaaGreatDoor
open Go.RowKit Go.IntWalk
section
variable {T : List Tok} {gt cap g k o f : Nat} {w : World}
theorem pPrim_named (f o : Nat) (ts : List Tok) (h1 : (hdT ts).kind = 1) : pPrim (f + 1) o ts = pNamed f o ts := by
  have h2 : ∀ s : List UInt8, isT s ts = false := fun s => by simp [isT, h1]
  rw [pPrim, if_neg (by omega), if_neg (by omega), if_neg (by rw [h2]; simp), if_neg (by rw [h2]; simp), if_neg (by rw [h2]; simp), if_pos h1, pNamed]
theorem litOk (ok : Nat → Prop) (W : World) (v : V) (hv : PlainV v) (p : Nat) (h2 : p ≤ 8192) : OwN ok W (cellsN (litP v p) (.slice none 0 0)) (litP v p) :=
  OwN.leaf ok W _ (by constructor <;> simp [N.kind]) (by constructor <;> simp [N.spot] <;> omega) (by simp [N.text]) hv rfl
set_option maxRecDepth 20000 in
set_option maxHeartbeats 4000000 in
theorem k_prim (hT : TkOk T) (hf : f ≤ 200000) (ih : ∀ j, j ≤ f → KnotE T gt cap g j) (h : PSt T gt cap g k o w) (hne : pPrim (f + 1) o (T.drop k) ≠ .out) :
    Calls Tryz.prog 206 #[pPtr g] w (EndN T gt cap g o w (pPrim (f + 1) o (T.drop k))) := by
  have hat := hT.at h.lt
  have hnk := fun s hs => isT_next (s := s) hT h.lt hs
  have hnx := fun h0 => hT.next h.lt h0
  have hkT := hd_tkAt T k h.lt
  have hnm := pPrim_named f o (T.drop k)
  have hnw := fun (h0 : (tkAt T k).kind ≠ 0) (W : World) (hW : PSt T gt cap g k o W) (hn : pNamed f o (T.drop k) ≠ .out) => k_named hT hf (fun j hj => ih j (by omega)) hW h0 hn
  have hlt0 := h.lt
  generalize hR : pPrim (f + 1) o (T.drop k) = R at *
  have hR2 := hR
  rw [pPrim, hkT, drop_tail] at hR2
  rw [hkT] at hnm
  generalize hXX : tkAt T k = X at *
  obtain ⟨b1, b2, b3⟩ := two_new w #[pPtr g] zNode 52 29
  have HRR := Lib.hid hR2
  have HXX := Lib.hid hXX
  have HNe := Lib.hid hne
  have Hih := Lib.hid ih
  have Hat := Lib.hid hat
  have HNk := Lib.hid hnk
  have HNx := Lib.hid hnx
  have HNm := Lib.hid hnm
  have HNw := Lib.hid hnw
  have hlg := h.box.lt
  have hlt := h.ltt
  have HB1 := Lib.hid b1
  have HB2 := Lib.hid b2
  have HB3 := Lib.hid b3
  have H := Lib.hid (h.below b3)
  have c0 := b1.cell 0 rfl
  clear h hR hR2 hne ih hat hXX b1 b2 b3 hnk hnx hnm hnw
  go_enter Tryz.func206, Tryz.ntmps206
  go_wp2_with fail
  refine (p_peek H.out).mono ?_
  rintro e w1 ⟨rfl, hb⟩
  rw [HXX.out]
  have HP1 := Lib.hid (H.out.below hb)
  have HF1 := Lib.hid (show Fr (fun b => g = b) w w1 from Fr.of_below (bthen HB3.out hb))
  have HC1 := Lib.hid (HB1.out.below hb)
  have HC2 := Lib.hid (HB2.out.below hb)
  have hz1 : w.heap.size + 1 < w1.heap.size := HC2.out.lt
  clear hb HB1 HB2 HB3 c0 H
  cases h3 : ((X.kind : Int) == 3) with
  | true =>
    have hk1 := HNx.out (by simp at h3; omega)
    have HQ := Lib.hid (show R = .ok (litP (V.mk 2 (X.n : Int) [] [] []) X.pos) (T.drop (k + 1)) by rw [← HRR.out, if_pos (by simp at h3; omega)])
    have hal := two_new w1 #[.int .i64 (X.kind : Int), .string ⟨X.text.toArray⟩, .int .i64 (X.n : Int), .int .i64 (X.pos : Int)] #[.int .i64 13, .string ⟨#[]⟩, .int .i64 2, .int .i64 (X.n : Int), .string ⟨#[]⟩, .slice none 0 0, .slice none 0 0, .bool false, .slice none 0 0, .int .i64 (X.pos : Int)] 41 29
    have HP2 := Lib.hid (HP1.out.below hal.2.2)
    have HF2 := Lib.hid (HF1.out.below hal.2.2)
    have HE2 := Lib.hid (HC2.out.below hal.2.2)
    have HN2 := Lib.hid hal.2.1
    have hz2 : w1.heap.size + 2 = ((w1.alloc (.cells #[.int .i64 (X.kind : Int), .string ⟨X.text.toArray⟩, .int .i64 (X.n : Int), .int .i64 (X.pos : Int)] 41)).alloc (.cells #[.int .i64 13, .string ⟨#[]⟩, .int .i64 2, .int .i64 (X.n : Int), .string ⟨#[]⟩, .slice none 0 0, .slice none 0 0, .bool false, .slice none 0 0, .int .i64 (X.pos : Int)] 29)).heap.size := by simp
    have d0 : ∀ A B, ((w1.alloc A).alloc B).cell? ⟨w.heap.size, 0, none⟩ = some (pPtr g) := fun A B => (HC1.out.below (bthen (p_al w1 A) (p_al _ B))).cell 0 rfl
    clear hal
    go_wp2_with fail
    generalize ((w1.alloc (.cells #[.int .i64 (X.kind : Int), .string ⟨X.text.toArray⟩, .int .i64 (X.n : Int), .int .i64 (X.pos : Int)] 41)).alloc (.cells #[.int .i64 13, .string ⟨#[]⟩, .int .i64 2, .int .i64 (X.n : Int), .string ⟨#[]⟩, .slice none 0 0, .slice none 0 0, .bool false, .slice none 0 0, .int .i64 (X.pos : Int)] 29)) = w2 at *
    clear d0
    refine (p_next HP2.out hk1).mono ?_
    rintro e w3 ⟨rfl, hP, hF⟩
    have HP3 := Lib.hid hP
    have HF3 := Lib.hid (HF2.out.trans hF)
    have HE3 := Lib.hid (HE2.out.fr hF (by omega))
    have HN3 := Lib.hid (HN2.out.fr hF (by omega))
    have HO3 := Lib.hid (litOk (fun b => w.heap.size + 2 ≤ b) w3 (V.mk 2 (X.n : Int) [] [] []) ⟨by constructor <;> simp [V.kind], by constructor <;> simp [V.num] <;> (have := Hat.out; omega), by (have := Hat.out; simp [V.str]; try omega), rfl, rfl⟩ X.pos (by have := Hat.out; omega))
    clear hP hF HP2 HF2 HE2 HN2
    have HE := Lib.hid (EndN.ret hlg hlt HQ.out HP3.out HF3.out HO3.out (show w.heap.size ≤ w.heap.size + 1 by omega) (by omega))
    obtain ⟨r0, r1, r2, r3, r4, r5, r6, r7, r8, r9⟩ := ten_cells HE3.out
    obtain ⟨m0, m1, m2, m3, m4, m5, m6, m7, m8, m9⟩ := ten_melt HE3.out
    obtain ⟨t0, t1, t2, t3, t4, t5, t6, t7, t8, t9⟩ := ten_cells HN3.out
    clear HP3 HF3 HE3 HN3 HO3
    go_wp2_with fail
    refine bodyPost_ret (v := valO (litP (V.mk 2 (X.n : Int) [] [] []) X.pos) (.slice none 0 0)) (by simp [results, Tryz.results206, go_sem, r0, r1, r2, r3, r4, r5, r6, r7, r8, r9, N.kind, N.text, N.val, N.flag, N.kids, N.spot, V.zero, V.kind, V.num, V.str]) rfl ?_
    exact HE.out
  | false =>
  cases h4 : ((X.kind : Int) == 4) with
  | true =>
    have hk1 := HNx.out (by simp at h4; omega)
    have HQ := Lib.hid (show R = .ok (litP (V.mk 3 0 X.text [] []) X.pos) (T.drop (k + 1)) by rw [← HRR.out, if_neg (by simp at h3; omega), if_pos (by simp at h4; omega)])
    have hal := two_new w1 #[.int .i64 (X.kind : Int), .string ⟨X.text.toArray⟩, .int .i64 (X.n : Int), .int .i64 (X.pos : Int)] #[.int .i64 13, .string ⟨#[]⟩, .int .i64 3, .int .i64 0, .string ⟨X.text.toArray⟩, .slice none 0 0, .slice none 0 0, .bool false, .slice none 0 0, .int .i64 (X.pos : Int)] 41 29
    have HP2 := Lib.hid (HP1.out.below hal.2.2)
    have HF2 := Lib.hid (HF1.out.below hal.2.2)
    have HE2 := Lib.hid (HC2.out.below hal.2.2)
    have HN2 := Lib.hid hal.2.1
    have hz2 : w1.heap.size + 2 = ((w1.alloc (.cells #[.int .i64 (X.kind : Int), .string ⟨X.text.toArray⟩, .int .i64 (X.n : Int), .int .i64 (X.pos : Int)] 41)).alloc (.cells #[.int .i64 13, .string ⟨#[]⟩, .int .i64 3, .int .i64 0, .string ⟨X.text.toArray⟩, .slice none 0 0, .slice none 0 0, .bool false, .slice none 0 0, .int .i64 (X.pos : Int)] 29)).heap.size := by simp
    have d0 : ∀ A B, ((w1.alloc A).alloc B).cell? ⟨w.heap.size, 0, none⟩ = some (pPtr g) := fun A B => (HC1.out.below (bthen (p_al w1 A) (p_al _ B))).cell 0 rfl
    clear hal
    go_wp2_with fail
    generalize ((w1.alloc (.cells #[.int .i64 (X.kind : Int), .string ⟨X.text.toArray⟩, .int .i64 (X.n : Int), .int .i64 (X.pos : Int)] 41)).alloc (.cells #[.int .i64 13, .string ⟨#[]⟩, .int .i64 3, .int .i64 0, .string ⟨X.text.toArray⟩, .slice none 0 0, .slice none 0 0, .bool false, .slice none 0 0, .int .i64 (X.pos : Int)] 29)) = w2 at *
    clear d0
    refine (p_next HP2.out hk1).mono ?_
    rintro e w3 ⟨rfl, hP, hF⟩
    have HP3 := Lib.hid hP
    have HF3 := Lib.hid (HF2.out.trans hF)
    have HE3 := Lib.hid (HE2.out.fr hF (by omega))
    have HN3 := Lib.hid (HN2.out.fr hF (by omega))
    have HO3 := Lib.hid (litOk (fun b => w.heap.size + 2 ≤ b) w3 (V.mk 3 0 X.text [] []) ⟨by constructor <;> simp [V.kind], by constructor <;> simp [V.num] <;> (have := Hat.out; omega), by (have := Hat.out; simp [V.str]; try omega), rfl, rfl⟩ X.pos (by have := Hat.out; omega))
    clear hP hF HP2 HF2 HE2 HN2
    have HE := Lib.hid (EndN.ret hlg hlt HQ.out HP3.out HF3.out HO3.out (show w.heap.size ≤ w.heap.size + 1 by omega) (by omega))
    obtain ⟨r0, r1, r2, r3, r4, r5, r6, r7, r8, r9⟩ := ten_cells HE3.out
    obtain ⟨m0, m1, m2, m3, m4, m5, m6, m7, m8, m9⟩ := ten_melt HE3.out
    obtain ⟨t0, t1, t2, t3, t4, t5, t6, t7, t8, t9⟩ := ten_cells HN3.out
    clear HP3 HF3 HE3 HN3 HO3
    go_wp2_with fail
    refine bodyPost_ret (v := valO (litP (V.mk 3 0 X.text [] []) X.pos) (.slice none 0 0)) (by simp [results, Tryz.results206, go_sem, r0, r1, r2, r3, r4, r5, r6, r7, r8, r9, N.kind, N.text, N.val, N.flag, N.kids, N.spot, V.zero, V.kind, V.num, V.str]) rfl ?_
    exact HE.out
  | false =>
  have hal := two_new w1 #[.int .i64 (X.kind : Int), .string ⟨X.text.toArray⟩, .int .i64 (X.n : Int), .int .i64 (X.pos : Int)] #[.int .i64 13, .string ⟨#[]⟩, .int .i64 0, .int .i64 0, .string ⟨#[]⟩, .slice none 0 0, .slice none 0 0, .bool false, .slice none 0 0, .int .i64 (X.pos : Int)] 41 29
  have HP2 := Lib.hid (HP1.out.below hal.2.2)
  have HF2 := Lib.hid (HF1.out.below hal.2.2)
  have HD2 := Lib.hid (HC1.out.below hal.2.2)
  have HE2 := Lib.hid (HC2.out.below hal.2.2)
  have HN2 := Lib.hid hal.2.1
  have HT2 := Lib.hid hal.1
  have hz2 : w1.heap.size + 2 = ((w1.alloc (.cells #[.int .i64 (X.kind : Int), .string ⟨X.text.toArray⟩, .int .i64 (X.n : Int), .int .i64 (X.pos : Int)] 41)).alloc (.cells #[.int .i64 13, .string ⟨#[]⟩, .int .i64 0, .int .i64 0, .string ⟨#[]⟩, .slice none 0 0, .slice none 0 0, .bool false, .slice none 0 0, .int .i64 (X.pos : Int)] 29)).heap.size := by simp
  have d0 : ∀ A B, ((w1.alloc A).alloc B).cell? ⟨w.heap.size, 0, none⟩ = some (pPtr g) := fun A B => (HC1.out.below (bthen (p_al w1 A) (p_al _ B))).cell 0 rfl
  have HR2 := Lib.hid (HRR.out)
  rw [if_neg (show ¬ X.kind = 3 by simp at h3; omega), if_neg (show ¬ X.kind = 4 by simp at h4; omega)] at HR2
  clear hal HP1 HF1 HC1 HC2 HRR
  go_wp2_with fail
  generalize ((w1.alloc (.cells #[.int .i64 (X.kind : Int), .string ⟨X.text.toArray⟩, .int .i64 (X.n : Int), .int .i64 (X.pos : Int)] 41)).alloc (.cells #[.int .i64 13, .string ⟨#[]⟩, .int .i64 0, .int .i64 0, .string ⟨#[]⟩, .slice none 0 0, .slice none 0 0, .bool false, .slice none 0 0, .int .i64 (X.pos : Int)] 29)) = w2 at *
  clear d0 h3 h4
  cases ht : isT [116, 114, 117, 101] (T.drop k) with
  | true =>
    have HR3 := Lib.hid (HR2.out)
    rw [if_pos ht] at HR3
    have hk1 := HNk.out _ ht
    refine (p_is_at HP2.out [116, 114, 117, 101] true ht).mono ?_
    rintro e w3 ⟨rfl, hb⟩
    have HP3 := Lib.hid (HP2.out.below hb)
    have HF3 := Lib.hid (HF2.out.below hb)
    have HD3 := Lib.hid (HD2.out.below hb)
    have HE3 := Lib.hid (HE2.out.below hb)
    have HN3 := Lib.hid (HN2.out.below hb)
    have HT3 := Lib.hid (HT2.out.below hb)
    have hz3 := hb.size
    have q3 := HD3.out.cell 0 rfl
    have x3 := HT3.out.cell 0 rfl
    clear hb HP2 HF2 HD2 HE2 HN2 HT2
    have HQ := Lib.hid (show R = .ok (litP (V.mk 1 1 [] [] []) X.pos) (T.drop (k + 1)) from HR3.out.symm)
    have hset : Fr (fun b => w1.heap.size + 1 = b) w3 (((((w3.setCell ⟨w1.heap.size + 1, 2, none⟩ (.int .i64 1)).setCell ⟨w1.heap.size + 1, 3, none⟩ (.int .i64 1)).setCell ⟨w1.heap.size + 1, 4, none⟩ (.string ⟨#[]⟩)).setCell ⟨w1.heap.size + 1, 5, none⟩ (.slice none 0 0)).setCell ⟨w1.heap.size + 1, 6, none⟩ (.slice none 0 0)) := ((((((Fr.refl _ w3).set1 _ 2 rfl _).set1 _ 3 rfl _).set1 _ 4 rfl _).set1 _ 5 rfl _).set1 _ 6 rfl _)
    have HPS := Lib.hid (HP3.out.fr hset (by omega) (by omega))
    have HFS := Lib.hid (HF3.out.past hset (fun b _ h => by omega))
    have HDS := Lib.hid (HD3.out.fr hset (by omega))
    have HES := Lib.hid (HE3.out.fr hset (by omega))
    have hbx := (((((HN3.out.set 2 (.int .i64 1)).set 3 (.int .i64 1)).set 4 (.string ⟨#[]⟩)).set 5 (.slice none 0 0)).set 6 (.slice none 0 0))
    simp only [List.setIfInBounds_toArray, List.set_cons_zero, List.set_cons_succ] at hbx
    have HNS := Lib.hid hbx
    have hneq : ¬ w.heap.size = w1.heap.size + 1 := by omega
    have hzS : w3.heap.size = (((((w3.setCell ⟨w1.heap.size + 1, 2, none⟩ (.int .i64 1)).setCell ⟨w1.heap.size + 1, 3, none⟩ (.int .i64 1)).setCell ⟨w1.heap.size + 1, 4, none⟩ (.string ⟨#[]⟩)).setCell ⟨w1.heap.size + 1, 5, none⟩ (.slice none 0 0)).setCell ⟨w1.heap.size + 1, 6, none⟩ (.slice none 0 0)).heap.size := by simp [World.setCell]
    have hlN := HN3.out.lt
    clear hset hbx
    obtain ⟨t0, t1, t2, t3, t4, t5, t6, t7, t8, t9⟩ := ten_cells HN3.out
    obtain ⟨m0, m1, m2, m3, m4, m5, m6, m7, m8, m9⟩ := ten_melt HN3.out
    go_wp2_with fail
    generalize (((((w3.setCell ⟨w1.heap.size + 1, 2, none⟩ (.int .i64 1)).setCell ⟨w1.heap.size + 1, 3, none⟩ (.int .i64 1)).setCell ⟨w1.heap.size + 1, 4, none⟩ (.string ⟨#[]⟩)).setCell ⟨w1.heap.size + 1, 5, none⟩ (.slice none 0 0)).setCell ⟨w1.heap.size + 1, 6, none⟩ (.slice none 0 0)) = wS at *
    clear t0 t1 t2 t3 t4 t5 t6 t7 t8 t9 m0 m1 m2 m3 m4 m5 m6 m7 m8 m9 q3 x3
    refine (p_next HPS.out hk1).mono ?_
    rintro e wN ⟨rfl, hP, hF⟩
    have HPN := Lib.hid hP
    have HFN := Lib.hid (HFS.out.trans hF)
    have HEN := Lib.hid (HES.out.fr hF (by omega))
    have HNN := Lib.hid (HNS.out.fr hF (by omega))
    have HON := Lib.hid (litOk (fun b => w.heap.size + 2 ≤ b) wN (V.mk 1 1 [] [] []) ⟨by constructor <;> simp [V.kind], by constructor <;> simp [V.num] <;> (have := Hat.out; omega), by (have := Hat.out; simp [V.str]; try omega), rfl, rfl⟩ X.pos (by have := Hat.out; omega))
    clear hP hF
    have HE := Lib.hid (EndN.ret hlg hlt HQ.out HPN.out HFN.out HON.out (show w.heap.size ≤ w.heap.size + 1 by omega) (by omega))
    obtain ⟨r0, r1, r2, r3, r4, r5, r6, r7, r8, r9⟩ := ten_cells HEN.out
    obtain ⟨m0, m1, m2, m3, m4, m5, m6, m7, m8, m9⟩ := ten_melt HEN.out
    obtain ⟨t0, t1, t2, t3, t4, t5, t6, t7, t8, t9⟩ := ten_cells HNN.out
    go_wp2_with fail
    refine bodyPost_ret (v := valO (litP (V.mk 1 1 [] [] []) X.pos) (.slice none 0 0)) (by simp [results, Tryz.results206, go_sem, r0, r1, r2, r3, r4, r5, r6, r7, r8, r9, N.kind, N.text, N.val, N.flag, N.kids, N.spot, V.zero, V.kind, V.num, V.str]) rfl ?_
    exact HE.out
  | false =>
  have HR3 := Lib.hid (HR2.out)
  rw [if_neg (show ¬ isT [116, 114, 117, 101] (T.drop k) = true by rw [ht]; simp)] at HR3
  refine (p_is_at HP2.out [116, 114, 117, 101] false ht).mono ?_
  rintro e w3 ⟨rfl, hb⟩
  have HP3 := Lib.hid (HP2.out.below hb)
  have HF3 := Lib.hid (HF2.out.below hb)
  have HD3 := Lib.hid (HD2.out.below hb)
  have HE3 := Lib.hid (HE2.out.below hb)
  have HN3 := Lib.hid (HN2.out.below hb)
  have HT3 := Lib.hid (HT2.out.below hb)
  have hz3 := hb.size
  have q3 := HD3.out.cell 0 rfl
  have x3 := HT3.out.cell 0 rfl
  clear hb HP2 HF2 HD2 HE2 HN2 HT2
  go_wp2_with fail
  clear q3 x3
  cases hfl : isT [102, 97, 108, 115, 101] (T.drop k) with
  | true =>
    have HR4 := Lib.hid (HR3.out)
    rw [if_pos hfl] at HR4
    have hk1 := HNk.out _ hfl
    refine (p_is_at HP3.out [102, 97, 108, 115, 101] true hfl).mono ?_
    rintro e w4 ⟨rfl, hb⟩
    have HP4 := Lib.hid (HP3.out.below hb)
    have HF4 := Lib.hid (HF3.out.below hb)
    have HD4 := Lib.hid (HD3.out.below hb)
    have HE4 := Lib.hid (HE3.out.below hb)
    have HN4 := Lib.hid (HN3.out.below hb)
    have HT4 := Lib.hid (HT3.out.below hb)
    have hz4 := hb.size
    have q4 := HD4.out.cell 0 rfl
    have x4 := HT4.out.cell 0 rfl
    clear hb HP3 HF3 HD3 HE3 HN3 HT3
    have HQ := Lib.hid (show R = .ok (litP (V.mk 1 0 [] [] []) X.pos) (T.drop (k + 1)) from HR4.out.symm)
    have hset : Fr (fun b => w1.heap.size + 1 = b) w4 (((((w4.setCell ⟨w1.heap.size + 1, 2, none⟩ (.int .i64 1)).setCell ⟨w1.heap.size + 1, 3, none⟩ (.int .i64 0)).setCell ⟨w1.heap.size + 1, 4, none⟩ (.string ⟨#[]⟩)).setCell ⟨w1.heap.size + 1, 5, none⟩ (.slice none 0 0)).setCell ⟨w1.heap.size + 1, 6, none⟩ (.slice none 0 0)) := ((((((Fr.refl _ w4).set1 _ 2 rfl _).set1 _ 3 rfl _).set1 _ 4 rfl _).set1 _ 5 rfl _).set1 _ 6 rfl _)
    have HPS := Lib.hid (HP4.out.fr hset (by omega) (by omega))
    have HFS := Lib.hid (HF4.out.past hset (fun b _ h => by omega))
    have HDS := Lib.hid (HD4.out.fr hset (by omega))
    have HES := Lib.hid (HE4.out.fr hset (by omega))
    have hbx := (((((HN4.out.set 2 (.int .i64 1)).set 3 (.int .i64 0)).set 4 (.string ⟨#[]⟩)).set 5 (.slice none 0 0)).set 6 (.slice none 0 0))
    simp only [List.setIfInBounds_toArray, List.set_cons_zero, List.set_cons_succ] at hbx
    have HNS := Lib.hid hbx
    have hneq : ¬ w.heap.size = w1.heap.size + 1 := by omega
    have hzS : w4.heap.size = (((((w4.setCell ⟨w1.heap.size + 1, 2, none⟩ (.int .i64 1)).setCell ⟨w1.heap.size + 1, 3, none⟩ (.int .i64 0)).setCell ⟨w1.heap.size + 1, 4, none⟩ (.string ⟨#[]⟩)).setCell ⟨w1.heap.size + 1, 5, none⟩ (.slice none 0 0)).setCell ⟨w1.heap.size + 1, 6, none⟩ (.slice none 0 0)).heap.size := by simp [World.setCell]
    have hlN := HN4.out.lt
    clear hset hbx
    obtain ⟨t0, t1, t2, t3, t4, t5, t6, t7, t8, t9⟩ := ten_cells HN4.out
    obtain ⟨m0, m1, m2, m3, m4, m5, m6, m7, m8, m9⟩ := ten_melt HN4.out
    go_wp2_with fail
    generalize (((((w4.setCell ⟨w1.heap.size + 1, 2, none⟩ (.int .i64 1)).setCell ⟨w1.heap.size + 1, 3, none⟩ (.int .i64 0)).setCell ⟨w1.heap.size + 1, 4, none⟩ (.string ⟨#[]⟩)).setCell ⟨w1.heap.size + 1, 5, none⟩ (.slice none 0 0)).setCell ⟨w1.heap.size + 1, 6, none⟩ (.slice none 0 0)) = wS at *
    clear t0 t1 t2 t3 t4 t5 t6 t7 t8 t9 m0 m1 m2 m3 m4 m5 m6 m7 m8 m9 q4 x4
    refine (p_next HPS.out hk1).mono ?_
    rintro e wN ⟨rfl, hP, hF⟩
    have HPN := Lib.hid hP
    have HFN := Lib.hid (HFS.out.trans hF)
    have HEN := Lib.hid (HES.out.fr hF (by omega))
    have HNN := Lib.hid (HNS.out.fr hF (by omega))
    have HON := Lib.hid (litOk (fun b => w.heap.size + 2 ≤ b) wN (V.mk 1 0 [] [] []) ⟨by constructor <;> simp [V.kind], by constructor <;> simp [V.num] <;> (have := Hat.out; omega), by (have := Hat.out; simp [V.str]; try omega), rfl, rfl⟩ X.pos (by have := Hat.out; omega))
    clear hP hF
    have HE := Lib.hid (EndN.ret hlg hlt HQ.out HPN.out HFN.out HON.out (show w.heap.size ≤ w.heap.size + 1 by omega) (by omega))
    obtain ⟨r0, r1, r2, r3, r4, r5, r6, r7, r8, r9⟩ := ten_cells HEN.out
    obtain ⟨m0, m1, m2, m3, m4, m5, m6, m7, m8, m9⟩ := ten_melt HEN.out
    obtain ⟨t0, t1, t2, t3, t4, t5, t6, t7, t8, t9⟩ := ten_cells HNN.out
    go_wp2_with fail
    refine bodyPost_ret (v := valO (litP (V.mk 1 0 [] [] []) X.pos) (.slice none 0 0)) (by simp [results, Tryz.results206, go_sem, r0, r1, r2, r3, r4, r5, r6, r7, r8, r9, N.kind, N.text, N.val, N.flag, N.kids, N.spot, V.zero, V.kind, V.num, V.str]) rfl ?_
    exact HE.out
  | false =>
  have HR4 := Lib.hid (HR3.out)
  rw [if_neg (show ¬ isT [102, 97, 108, 115, 101] (T.drop k) = true by rw [hfl]; simp)] at HR4
  refine (p_is_at HP3.out [102, 97, 108, 115, 101] false hfl).mono ?_
  rintro e w4 ⟨rfl, hb⟩
  have HP4 := Lib.hid (HP3.out.below hb)
  have HF4 := Lib.hid (HF3.out.below hb)
  have HD4 := Lib.hid (HD3.out.below hb)
  have HE4 := Lib.hid (HE3.out.below hb)
  have HN4 := Lib.hid (HN3.out.below hb)
  have HT4 := Lib.hid (HT3.out.below hb)
  have hz4 := hb.size
  have q4 := HD4.out.cell 0 rfl
  have x4 := HT4.out.cell 0 rfl
  clear hb HP3 HF3 HD3 HE3 HN3 HT3
  go_wp2_with fail
  clear q4 x4
  cases hu : isT [117, 110, 105, 116] (T.drop k) with
  | true =>
    have HR5 := Lib.hid (HR4.out)
    rw [if_pos hu] at HR5
    have hk1 := HNk.out _ hu
    refine (p_is_at HP4.out [117, 110, 105, 116] true hu).mono ?_
    rintro e w5 ⟨rfl, hb⟩
    have HP5 := Lib.hid (HP4.out.below hb)
    have HF5 := Lib.hid (HF4.out.below hb)
    have HD5 := Lib.hid (HD4.out.below hb)
    have HE5 := Lib.hid (HE4.out.below hb)
    have HN5 := Lib.hid (HN4.out.below hb)
    have HT5 := Lib.hid (HT4.out.below hb)
    have hz5 := hb.size
    have q5 := HD5.out.cell 0 rfl
    have x5 := HT5.out.cell 0 rfl
    clear hb HP4 HF4 HD4 HE4 HN4 HT4
    have HQ := Lib.hid (show R = .ok (litP V.zero X.pos) (T.drop (k + 1)) from HR5.out.symm)
    go_wp2_with fail
    refine (p_next HP5.out hk1).mono ?_
    rintro e wN ⟨rfl, hP, hF⟩
    have HPN := Lib.hid hP
    have HFN := Lib.hid (HF5.out.trans hF)
    have HEN := Lib.hid (HE5.out.fr hF (by omega))
    have HNN := Lib.hid (HN5.out.fr hF (by omega))
    have HON := Lib.hid (litOk (fun b => w.heap.size + 2 ≤ b) wN V.zero ⟨by constructor <;> simp [V.kind, V.zero], by constructor <;> simp [V.num, V.zero], by simp [V.str, V.zero], rfl, rfl⟩ X.pos (by have := Hat.out; omega))
    clear hP hF
    have HE := Lib.hid (EndN.ret hlg hlt HQ.out HPN.out HFN.out HON.out (show w.heap.size ≤ w.heap.size + 1 by omega) (by omega))
    obtain ⟨r0, r1, r2, r3, r4, r5, r6, r7, r8, r9⟩ := ten_cells HEN.out
    obtain ⟨m0, m1, m2, m3, m4, m5, m6, m7, m8, m9⟩ := ten_melt HEN.out
    obtain ⟨t0, t1, t2, t3, t4, t5, t6, t7, t8, t9⟩ := ten_cells HNN.out
    go_wp2_with fail
    refine bodyPost_ret (v := valO (litP V.zero X.pos) (.slice none 0 0)) (by simp [results, Tryz.results206, go_sem, r0, r1, r2, r3, r4, r5, r6, r7, r8, r9, N.kind, N.text, N.val, N.flag, N.kids, N.spot, V.zero, V.kind, V.num, V.str]) rfl ?_
    exact HE.out
  | false =>
  have HR5 := Lib.hid (HR4.out)
  rw [if_neg (show ¬ isT [117, 110, 105, 116] (T.drop k) = true by rw [hu]; simp)] at HR5
  refine (p_is_at HP4.out [117, 110, 105, 116] false hu).mono ?_
  rintro e w5 ⟨rfl, hb⟩
  have HP5 := Lib.hid (HP4.out.below hb)
  have HF5 := Lib.hid (HF4.out.below hb)
  have HD5 := Lib.hid (HD4.out.below hb)
  have HE5 := Lib.hid (HE4.out.below hb)
  have HN5 := Lib.hid (HN4.out.below hb)
  have HT5 := Lib.hid (HT4.out.below hb)
  have hz5 := hb.size
  have q5 := HD5.out.cell 0 rfl
  have x5 := HT5.out.cell 0 rfl
  clear hb HP4 HF4 HD4 HE4 HN4 HT4
  cases h1 : ((X.kind : Int) == 1) with
  | true =>
    have hX1 : X.kind = 1 := by simp at h1; omega
    have HQ := Lib.hid (HNm.out hX1)
    have hI := HNw.out (by omega) w5 HP5.out (by rw [← HQ.out]; exact HNe.out)
    rw [← HQ.out] at hI
    have HI := Lib.hid hI
    clear hI
    go_wp2_with fail
    refine HI.out.mono ?_
    rintro e w6 (⟨c, p, hr, rfl, hF⟩ | ⟨n, lv, k', hr, rfl, hP, hF, hO⟩)
    · have HR := Lib.hid hr
      have HF := Lib.hid (HF5.out.trans hF)
      clear hr hF
      go_wp2_with fail
      exact ⟨rfl, .inl ⟨c, p, HR.out, rfl, HF.out⟩⟩
    · obtain ⟨A, ca, rfl⟩ := hO.lvs
      have HX := Lib.hid (HE5.out.fr hF (fun e => by omega))
      have HE := Lib.hid (EndN.ret hlg hlt hr hP (HF5.out.trans hF) hO (show w.heap.size ≤ w.heap.size + 1 by omega) HE5.out.lt)
      clear hr hP hF hO
      obtain ⟨r0, r1, r2, r3, r4, r5, r6, r7, r8, r9⟩ := ten_cells HX.out
      obtain ⟨m0, m1, m2, m3, m4, m5, m6, m7, m8, m9⟩ := ten_melt HX.out
      go_wp2_with fail
      refine bodyPost_ret (v := valO n (.slice A n.kids.length ca)) (by simp [results, Tryz.results206, go_sem, r0, r1, r2, r3, r4, r5, r6, r7, r8, r9]) rfl ?_
      exact HE.out
  | false =>
  have HR5 := Lib.hid (HR5.out)
  rw [if_neg (show ¬ X.kind = 1 by simp at h1; omega)] at HR5
  go_wp2_with fail
  clear q5 x5 h1
  cases hg : isT [40] (T.drop k) with
  | true =>
    have HR6 := Lib.hid (HR5.out)
    rw [if_pos hg] at HR6
    have hk1 := HNk.out _ hg
    refine (p_is_at HP5.out [40] true hg).mono ?_
    rintro e w6 ⟨rfl, hb⟩
    have HP6 := Lib.hid (HP5.out.below hb)
    have HF6 := Lib.hid (HF5.out.below hb)
    have HD6 := Lib.hid (HD5.out.below hb)
    have HE6 := Lib.hid (HE5.out.below hb)
    have HN6 := Lib.hid (HN5.out.below hb)
    have HT6 := Lib.hid (HT5.out.below hb)
    have hz6 := hb.size
    have q6 := HD6.out.cell 0 rfl
    have x6 := HT6.out.cell 0 rfl
    clear hb HP5 HF5 HD5 HE5 HN5 HT5
    go_wp2_with fail
    unfold opensT at HR6
    by_cases ho : o = 24
    · subst ho
      have HQ := Lib.hid (show R = .bad 171 X.pos by rw [← HR6.out, if_pos rfl, hkT])
      rw [← HXX.out] at HQ
      refine (p_within_no HP6.out _).mono ?_
      rintro e w9 ⟨rfl, hF⟩
      have HF9 := Lib.hid (HF6.out.trans hF)
      clear hF
      go_wp2_with fail
      exact ⟨rfl, .inl ⟨_, _, HQ.out, rfl, HF9.out⟩⟩
    · have HQ := Lib.hid (show (pBin f 1 (o + 1) (T.drop (k + 1))).bind (fun n r => (mustT [41] r).bind fun _ r => PR.ok n r) = R by rw [← HR6.out, if_neg ho, drop_tail])
      have hin : (pBin f 1 (o + 1) (T.drop (k + 1))).bind (fun n r => (mustT [41] r).bind fun _ r => PR.ok n r) ≠ .out := fun e => HNe.out (by rw [← HQ.out, e])
      have Hin := Lib.hid hin
      clear hin
      have hlN := HN6.out.lt
      refine (within_node hT HP6.out hk1 (by have := HP6.out.open_; omega) 231 w.heap.size (w1.heap.size + 1) (group_ent _) (by omega) (by omega) (by omega) _ _ _ _ _ _ _ _ _ _ HN6.out HD6.out (by omega) ((pBin f 1 (o + 1) (T.drop (k + 1))).bind fun n r => (mustT [41] r).bind fun _ r => PR.ok n r) ?_).mono ?_
      · intro W1 hP hb1 hb2
        exact k_groupc hT (Hih.out f (Nat.le_refl f)) hP Hin.out _ _ _ _ _ _ _ _ _ _ _ _ hb1 hb2 (by omega) (by omega) (by omega) (by omega)
      · rintro e w9 (⟨c, p, hr, rfl, hF⟩ | ⟨n, lv, k', hr, rfl, hP, hF, hB, hO⟩)
        · have HF9 := Lib.hid (HF6.out.past hF (fun b hb h => h.elim (fun h => h) (fun h => by omega)))
          have HQ3 := Lib.hid (show R = .bad c p by rw [← HQ.out, hr])
          clear hF hr
          go_wp2_with fail
          exact ⟨rfl, .inl ⟨_, _, HQ3.out, rfl, HF9.out⟩⟩
        · obtain ⟨A, ca, rfl⟩ := hO.lvs
          have HQ3 := Lib.hid (show R = .ok n (T.drop k') by rw [← HQ.out, hr])
          have HX9 := Lib.hid (HE6.out.fr hF (fun h => h.elim (fun e => by omega) (fun e => by omega)))
          have HP9 := Lib.hid hP
          have HO9 := Lib.hid hO
          have HB9 := Lib.hid hB
          have HF9 := Lib.hid (HF6.out.past hF (fun b hb h => h.elim (fun h => h) (fun h => by omega)))
          clear hr hP hF hB hO
          have hzS := HE6.out.lt
          have HE := Lib.hid (EndN.ret hlg hlt HQ3.out HP9.out HF9.out HO9.out (show w.heap.size ≤ w.heap.size + 1 by omega) (by omega))
          obtain ⟨r0, r1, r2, r3, r4, r5, r6, r7, r8, r9⟩ := ten_cells HX9.out
          obtain ⟨m0, m1, m2, m3, m4, m5, m6, m7, m8, m9⟩ := ten_melt HX9.out
          obtain ⟨t0, t1, t2, t3, t4, t5, t6, t7, t8, t9⟩ := ten_cells HB9.out
          go_wp2_with fail
          refine bodyPost_ret (v := valO n (.slice A n.kids.length ca)) (by simp [results, Tryz.results206, go_sem, r0, r1, r2, r3, r4, r5, r6, r7, r8, r9, N.kind, N.text, N.val, N.flag, N.kids, N.spot, V.zero, V.kind, V.num, V.str]) rfl ?_
          exact HE.out
  | false =>
  have HR6 := Lib.hid (HR5.out)
  rw [if_neg (show ¬ isT [40] (T.drop k) = true by rw [hg]; simp)] at HR6
  refine (p_is_at HP5.out [40] false hg).mono ?_
  rintro e w6 ⟨rfl, hb⟩
  have HP6 := Lib.hid (HP5.out.below hb)
  have HF6 := Lib.hid (HF5.out.below hb)
  have HD6 := Lib.hid (HD5.out.below hb)
  have HE6 := Lib.hid (HE5.out.below hb)
  have HN6 := Lib.hid (HN5.out.below hb)
  have HT6 := Lib.hid (HT5.out.below hb)
  have hz6 := hb.size
  have q6 := HD6.out.cell 0 rfl
  have x6 := HT6.out.cell 0 rfl
  clear hb HP5 HF5 HD5 HE5 HN5 HT5
  go_wp2_with fail
  clear q6 x6
  cases hl : isT [91] (T.drop k) with
  | true =>
    have HR7 := Lib.hid (HR6.out)
    rw [if_pos hl] at HR7
    have hk1 := HNk.out _ hl
    refine (p_is_at HP6.out [91] true hl).mono ?_
    rintro e w7 ⟨rfl, hb⟩
    have HP7 := Lib.hid (HP6.out.below hb)
    have HF7 := Lib.hid (HF6.out.below hb)
    have HD7 := Lib.hid (HD6.out.below hb)
    have HE7 := Lib.hid (HE6.out.below hb)
    have HN7 := Lib.hid (HN6.out.below hb)
    have HT7 := Lib.hid (HT6.out.below hb)
    have hz7 := hb.size
    have q7 := HD7.out.cell 0 rfl
    have x7 := HT7.out.cell 0 rfl
    clear hb HP6 HF6 HD6 HE6 HN6 HT6
    have hset : Fr (fun b => w1.heap.size + 1 = b) w7 (w7.setCell ⟨w1.heap.size + 1, 0, none⟩ (.int .i64 18)) := ((Fr.refl _ w7).set1 _ 0 rfl _)
    have HPS := Lib.hid (HP7.out.fr hset (by omega) (by omega))
    have HFS := Lib.hid (HF7.out.past hset (fun b _ h => by omega))
    have HDS := Lib.hid (HD7.out.fr hset (by omega))
    have HES := Lib.hid (HE7.out.fr hset (by omega))
    have hbx := (HN7.out.set 0 (.int .i64 18))
    simp only [List.setIfInBounds_toArray, List.set_cons_zero, List.set_cons_succ] at hbx
    have HNS := Lib.hid hbx
    have hneq : ¬ w.heap.size = w1.heap.size + 1 := by omega
    have hzS : w7.heap.size = (w7.setCell ⟨w1.heap.size + 1, 0, none⟩ (.int .i64 18)).heap.size := by simp [World.setCell]
    have hlN := HN7.out.lt
    clear hset hbx
    obtain ⟨t0, t1, t2, t3, t4, t5, t6, t7, t8, t9⟩ := ten_cells HN7.out
    obtain ⟨m0, m1, m2, m3, m4, m5, m6, m7, m8, m9⟩ := ten_melt HN7.out
    go_wp2_with fail
    generalize (w7.setCell ⟨w1.heap.size + 1, 0, none⟩ (.int .i64 18)) = wS at *
    clear t0 t1 t2 t3 t4 t5 t6 t7 t8 t9 m0 m1 m2 m3 m4 m5 m6 m7 m8 m9 q7 x7
    unfold opensT at HR7
    by_cases ho : o = 24
    · subst ho
      have HQ := Lib.hid (show R = .bad 171 X.pos by rw [← HR7.out, if_pos rfl, hkT])
      rw [← HXX.out] at HQ
      refine (p_within_no HPS.out _).mono ?_
      rintro e w9 ⟨rfl, hF⟩
      have HF9 := Lib.hid (HFS.out.trans hF)
      clear hF
      go_wp2_with fail
      exact ⟨rfl, .inl ⟨_, _, HQ.out, rfl, HF9.out⟩⟩
    · cases f with
      | zero => exact absurd (show R = .out by rw [← HR7.out, if_neg ho]; simp only [pRow]; rfl) HNe.out
      | succ f =>
      have HQ := Lib.hid (show (pRow (f + 1) 0 [93] (o + 1) (T.drop (k + 1))).bind (fun l r => .ok (nodeP 18 [] l X.pos) r) = R by rw [← HR7.out, if_neg ho, drop_tail])
      have hin : pRow (f + 1) 0 [93] (o + 1) (T.drop (k + 1)) ≠ .out := fun e => HNe.out (by rw [← HQ.out, e]; rfl)
      have Hin := Lib.hid hin
      clear hin
      have hlS := HNS.out.lt
      refine (within_kids hT HPS.out hk1 (by have := HPS.out.open_; omega) 232 w.heap.size (w1.heap.size + 1) (list_ent _) (by omega) (by omega) (by omega) _ _ _ _ _ _ _ _ _ _ HNS.out HDS.out (by omega) (pRow (f + 1) 0 [93] (o + 1) (T.drop (k + 1))) ?_).mono ?_
      · intro W1 hP hb1 hb2
        exact k_listc hT (by omega) (fun j hj => Hih.out j (by omega)) hP Hin.out _ _ _ _ _ _ _ _ _ _ _ _ hb1 hb2 (by omega) (by omega)
      · rintro e w9 (⟨c, p, hr, rfl, hF⟩ | ⟨l, lv, k', hr, rfl, hP, hF, hB, hK, hl⟩)
        · have HF9 := Lib.hid (HFS.out.past hF (fun b hb h => h.elim (fun h => h) (fun h => by omega)))
          have HQ3 := Lib.hid (show R = .bad c p by rw [← HQ.out, PR.bind_bad hr])
          clear hF hr
          go_wp2_with fail
          exact ⟨rfl, .inl ⟨_, _, HQ3.out, rfl, HF9.out⟩⟩
        · obtain ⟨A, ca, rfl⟩ := hK.lvs
          have HQ3 := Lib.hid (show R = .ok (nodeP 18 [] l X.pos) (T.drop k') by rw [← HQ.out, PR.bind_ok hr])
          have HX9 := Lib.hid (HES.out.fr hF (fun h => h.elim (fun e => by omega) (fun e => by omega)))
          have HO9 := Lib.hid (show OwN (fun b => wS.heap.size + 2 ≤ b) w9 (cellsN (nodeP 18 [] l X.pos) (.slice A l.length ca)) (nodeP 18 [] l X.pos) from
            OwN.of (by constructor <;> simp [N.kind]) (by have := Hat.out; constructor <;> simp [N.spot] <;> omega) (by simp [N.text]) ⟨by constructor <;> simp [V.kind, V.zero, N.val], by constructor <;> simp [V.num, V.zero, N.val], by simp [V.str, V.zero, N.val], rfl, rfl⟩ (by simp only [N.kids]; omega) hK)
          have HP9 := Lib.hid hP
          have HB9 := Lib.hid hB
          have HF9 := Lib.hid (HFS.out.past hF (fun b hb h => h.elim (fun h => h) (fun h => by omega)))
          clear hr hP hF hB hK
          have HE := Lib.hid (EndN.ret hlg hlt HQ3.out HP9.out HF9.out HO9.out (show w.heap.size ≤ w.heap.size + 1 by omega) (by omega))
          obtain ⟨r0, r1, r2, r3, r4, r5, r6, r7, r8, r9⟩ := ten_cells HX9.out
          obtain ⟨m0, m1, m2, m3, m4, m5, m6, m7, m8, m9⟩ := ten_melt HX9.out
          obtain ⟨t0, t1, t2, t3, t4, t5, t6, t7, t8, t9⟩ := ten_cells HB9.out
          go_wp2_with fail
          refine bodyPost_ret (v := valO (nodeP 18 [] l X.pos) (.slice A l.length ca)) (by simp [results, Tryz.results206, go_sem, r0, r1, r2, r3, r4, r5, r6, r7, r8, r9, N.kind, N.text, N.val, N.flag, N.kids, N.spot, V.zero, V.kind, V.num, V.str]) rfl ?_
          exact HE.out
  | false =>
  have HR7 := Lib.hid (HR6.out)
  rw [if_neg (show ¬ isT [91] (T.drop k) = true by rw [hl]; simp)] at HR7
  refine (p_is_at HP6.out [91] false hl).mono ?_
  rintro e w7 ⟨rfl, hb⟩
  have HP7 := Lib.hid (HP6.out.below hb)
  have HF7 := Lib.hid (HF6.out.below hb)
  have HD7 := Lib.hid (HD6.out.below hb)
  have HE7 := Lib.hid (HE6.out.below hb)
  have HN7 := Lib.hid (HN6.out.below hb)
  have HT7 := Lib.hid (HT6.out.below hb)
  have hz7 := hb.size
  have q7 := HD7.out.cell 0 rfl
  have x7 := HT7.out.cell 0 rfl
  clear hb HP6 HF6 HD6 HE6 HN6 HT6
  go_wp2_with fail
  clear q7 x7
  cases hc : isT [123] (T.drop k) with
  | true =>
    have HR8 := Lib.hid (HR7.out)
    rw [if_pos hc] at HR8
    have hk1 := HNk.out _ hc
    refine (p_is_at HP7.out [123] true hc).mono ?_
    rintro e w8 ⟨rfl, hb⟩
    have HP8 := Lib.hid (HP7.out.below hb)
    have HF8 := Lib.hid (HF7.out.below hb)
    have HD8 := Lib.hid (HD7.out.below hb)
    have HE8 := Lib.hid (HE7.out.below hb)
    have HN8 := Lib.hid (HN7.out.below hb)
    have HT8 := Lib.hid (HT7.out.below hb)
    have hz8 := hb.size
    have q8 := HD8.out.cell 0 rfl
    have x8 := HT8.out.cell 0 rfl
    clear hb HP7 HF7 HD7 HE7 HN7 HT7
    have hset : Fr (fun b => w1.heap.size + 1 = b) w8 (w8.setCell ⟨w1.heap.size + 1, 0, none⟩ (.int .i64 19)) := ((Fr.refl _ w8).set1 _ 0 rfl _)
    have HPS := Lib.hid (HP8.out.fr hset (by omega) (by omega))
    have HFS := Lib.hid (HF8.out.past hset (fun b _ h => by omega))
    have HDS := Lib.hid (HD8.out.fr hset (by omega))
    have HES := Lib.hid (HE8.out.fr hset (by omega))
    have hbx := (HN8.out.set 0 (.int .i64 19))
    simp only [List.setIfInBounds_toArray, List.set_cons_zero, List.set_cons_succ] at hbx
    have HNS := Lib.hid hbx
    have hneq : ¬ w.heap.size = w1.heap.size + 1 := by omega
    have hzS : w8.heap.size = (w8.setCell ⟨w1.heap.size + 1, 0, none⟩ (.int .i64 19)).heap.size := by simp [World.setCell]
    have hlN := HN8.out.lt
    clear hset hbx
    obtain ⟨t0, t1, t2, t3, t4, t5, t6, t7, t8, t9⟩ := ten_cells HN8.out
    obtain ⟨m0, m1, m2, m3, m4, m5, m6, m7, m8, m9⟩ := ten_melt HN8.out
    go_wp2_with fail
    generalize (w8.setCell ⟨w1.heap.size + 1, 0, none⟩ (.int .i64 19)) = wS at *
    clear t0 t1 t2 t3 t4 t5 t6 t7 t8 t9 m0 m1 m2 m3 m4 m5 m6 m7 m8 m9 q8 x8
    unfold opensT at HR8
    by_cases ho : o = 24
    · subst ho
      have HQ := Lib.hid (show R = .bad 171 X.pos by rw [← HR8.out, if_pos rfl, hkT])
      rw [← HXX.out] at HQ
      refine (p_within_no HPS.out _).mono ?_
      rintro e w9 ⟨rfl, hF⟩
      have HF9 := Lib.hid (HFS.out.trans hF)
      clear hF
      go_wp2_with fail
      exact ⟨rfl, .inl ⟨_, _, HQ.out, rfl, HF9.out⟩⟩
    · cases f with
      | zero => exact absurd (show R = .out by rw [← HR8.out, if_neg ho]; simp only [pRow]; rfl) HNe.out
      | succ f =>
      have HQ := Lib.hid (show (pRow (f + 1) 1 [125] (o + 1) (T.drop (k + 1))).bind (fun l r => .ok (nodeP 19 [] l X.pos) r) = R by rw [← HR8.out, if_neg ho, drop_tail])
      have hin : pRow (f + 1) 1 [125] (o + 1) (T.drop (k + 1)) ≠ .out := fun e => HNe.out (by rw [← HQ.out, e]; rfl)
      have Hin := Lib.hid hin
      clear hin
      have hlS := HNS.out.lt
      refine (within_kids hT HPS.out hk1 (by have := HPS.out.open_; omega) 233 w.heap.size (w1.heap.size + 1) (fields_ent _) (by omega) (by omega) (by omega) _ _ _ _ _ _ _ _ _ _ HNS.out HDS.out (by omega) (pRow (f + 1) 1 [125] (o + 1) (T.drop (k + 1))) ?_).mono ?_
      · intro W1 hP hb1 hb2
        exact k_fieldsc hT (by omega) (fun j hj => Hih.out j (by omega)) hP Hin.out _ _ _ _ _ _ _ _ _ _ _ _ hb1 hb2 (by omega) (by omega)
      · rintro e w9 (⟨c, p, hr, rfl, hF⟩ | ⟨l, lv, k', hr, rfl, hP, hF, hB, hK, hl⟩)
        · have HF9 := Lib.hid (HFS.out.past hF (fun b hb h => h.elim (fun h => h) (fun h => by omega)))
          have HQ3 := Lib.hid (show R = .bad c p by rw [← HQ.out, PR.bind_bad hr])
          clear hF hr
          go_wp2_with fail
          exact ⟨rfl, .inl ⟨_, _, HQ3.out, rfl, HF9.out⟩⟩
        · obtain ⟨A, ca, rfl⟩ := hK.lvs
          have HQ3 := Lib.hid (show R = .ok (nodeP 19 [] l X.pos) (T.drop k') by rw [← HQ.out, PR.bind_ok hr])
          have HX9 := Lib.hid (HES.out.fr hF (fun h => h.elim (fun e => by omega) (fun e => by omega)))
          have HO9 := Lib.hid (show OwN (fun b => wS.heap.size + 2 ≤ b) w9 (cellsN (nodeP 19 [] l X.pos) (.slice A l.length ca)) (nodeP 19 [] l X.pos) from
            OwN.of (by constructor <;> simp [N.kind]) (by have := Hat.out; constructor <;> simp [N.spot] <;> omega) (by simp [N.text]) ⟨by constructor <;> simp [V.kind, V.zero, N.val], by constructor <;> simp [V.num, V.zero, N.val], by simp [V.str, V.zero, N.val], rfl, rfl⟩ (by simp only [N.kids]; omega) hK)
          have HP9 := Lib.hid hP
          have HB9 := Lib.hid hB
          have HF9 := Lib.hid (HFS.out.past hF (fun b hb h => h.elim (fun h => h) (fun h => by omega)))
          clear hr hP hF hB hK
          have HE := Lib.hid (EndN.ret hlg hlt HQ3.out HP9.out HF9.out HO9.out (show w.heap.size ≤ w.heap.size + 1 by omega) (by omega))
          obtain ⟨r0, r1, r2, r3, r4, r5, r6, r7, r8, r9⟩ := ten_cells HX9.out
          obtain ⟨m0, m1, m2, m3, m4, m5, m6, m7, m8, m9⟩ := ten_melt HX9.out
          obtain ⟨t0, t1, t2, t3, t4, t5, t6, t7, t8, t9⟩ := ten_cells HB9.out
          go_wp2_with fail
          refine bodyPost_ret (v := valO (nodeP 19 [] l X.pos) (.slice A l.length ca)) (by simp [results, Tryz.results206, go_sem, r0, r1, r2, r3, r4, r5, r6, r7, r8, r9, N.kind, N.text, N.val, N.flag, N.kids, N.spot, V.zero, V.kind, V.num, V.str]) rfl ?_
          exact HE.out
  | false =>
  have HR8 := Lib.hid (HR7.out)
  rw [if_neg (show ¬ isT [123] (T.drop k) = true by rw [hc]; simp)] at HR8
  refine (p_is_at HP7.out [123] false hc).mono ?_
  rintro e w8 ⟨rfl, hb⟩
  have HP8 := Lib.hid (HP7.out.below hb)
  have HF8 := Lib.hid (HF7.out.below hb)
  have HD8 := Lib.hid (HD7.out.below hb)
  have HE8 := Lib.hid (HE7.out.below hb)
  have HN8 := Lib.hid (HN7.out.below hb)
  have HT8 := Lib.hid (HT7.out.below hb)
  have hz8 := hb.size
  have q8 := HD8.out.cell 0 rfl
  have x8 := HT8.out.cell 0 rfl
  clear hb HP7 HF7 HD7 HE7 HN7 HT7
  have HQ := Lib.hid (show R = .bad 170 X.pos from HR8.out.symm)
  rw [← HXX.out] at HQ
  go_wp2_with fail
  refine (p_fail HP8.out 170 _ rfl).mono ?_
  rintro e w9 ⟨rfl, hb⟩
  have HF9 := Lib.hid (HF8.out.below hb)
  clear hb
  go_wp2_with fail
  exact ⟨rfl, .inl ⟨_, _, HQ.out, rfl, HF9.out⟩⟩
end
end Go.Proofs.YtlnhhffhmeekoaaGreatDoor
