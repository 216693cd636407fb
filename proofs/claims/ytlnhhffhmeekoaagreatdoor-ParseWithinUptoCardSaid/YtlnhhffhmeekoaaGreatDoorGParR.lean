/- The parser's walks: statement. The parser's walks: the statements' knot tied. -/
import Derived.Test.YtlnhhffhmeekoaaGreatDoorCParseWalkQ
set_option linter.unusedVariables false
set_option linter.unusedSimpArgs false
namespace Go.Proofs.YtlnhhffhmeekoaaGreatDoor
open Go.RowKit Go.IntWalk
section
variable {T : List Tok} {gt cap g k o f : Nat} {w : World}
set_option maxRecDepth 20000 in
set_option maxHeartbeats 4000000 in
theorem k_stmt (hT : TkOk T) (hf : f ≤ 200000) (ih : KnotS T gt cap g f) (h : PSt T gt cap g k o w) (hne : pStmt (f + 1) o (T.drop k) ≠ .out) :
    Calls Tryz.prog 176 #[pPtr g] w (EndN T gt cap g o w (pStmt (f + 1) o (T.drop k))) := by
  have hat := hT.at h.lt
  have hkT := hd_tkAt T k h.lt
  have hnk := fun s hs => isT_next (s := s) hT h.lt hs
  generalize hR : pStmt (f + 1) o (T.drop k) = R at *
  rw [pStmt, drop_tail, hkT] at hR
  generalize hXX : tkAt T k = X at *
  have hlg := h.box.lt
  have hlt := h.ltt
  have HRR := Lib.hid hR
  have HXX := Lib.hid hXX
  have HNe := Lib.hid hne
  have Hih := Lib.hid ih
  have Hat := Lib.hid hat
  have HNk := Lib.hid hnk
  have hal := p_al w (.cells zNode 29)
  have HE0 := Lib.hid (Box.new w zNode 29)
  have HS0 := Lib.hid hal
  have H0 := Lib.hid (h.below hal)
  clear h hR hne ih hat hXX hal hnk
  go_enter Tryz.func176, Tryz.ntmps176
  go_wp2_with fail
  refine (p_peek H0.out).mono ?_
  rintro e w1 ⟨rfl, hb⟩
  rw [HXX.out]
  have hal := two_new w1 #[.int .i64 (X.kind : Int), .string ⟨X.text.toArray⟩, .int .i64 (X.n : Int), .int .i64 (X.pos : Int)] #[.int .i64 12, .string ⟨#[]⟩, .int .i64 0, .int .i64 0, .string ⟨#[]⟩, .slice none 0 0, .slice none 0 0, .bool false, .slice none 0 0, .int .i64 (X.pos : Int)] 41 29
  have hbt := bthen hb hal.2.2
  have HP2 := Lib.hid (H0.out.below hbt)
  have HF2 := Lib.hid (show Fr (fun b => g = b) w _ from Fr.of_below (bthen HS0.out hbt))
  have HE2 := Lib.hid (HE0.out.below hbt)
  have HT2 := Lib.hid hal.1
  have HN2 := Lib.hid hal.2.1
  have hl1 : w.heap.size < w1.heap.size := (HE0.out.below hb).lt
  have hz2 : w1.heap.size + 2 = ((w1.alloc (.cells #[.int .i64 (X.kind : Int), .string ⟨X.text.toArray⟩, .int .i64 (X.n : Int), .int .i64 (X.pos : Int)] 41)).alloc (.cells #[.int .i64 12, .string ⟨#[]⟩, .int .i64 0, .int .i64 0, .string ⟨#[]⟩, .slice none 0 0, .slice none 0 0, .bool false, .slice none 0 0, .int .i64 (X.pos : Int)] 29)).heap.size := by simp
  clear hal hbt hb HE0 HS0 H0
  go_wp2_with fail
  generalize ((w1.alloc (.cells #[.int .i64 (X.kind : Int), .string ⟨X.text.toArray⟩, .int .i64 (X.n : Int), .int .i64 (X.pos : Int)] 41)).alloc (.cells #[.int .i64 12, .string ⟨#[]⟩, .int .i64 0, .int .i64 0, .string ⟨#[]⟩, .slice none 0 0, .slice none 0 0, .bool false, .slice none 0 0, .int .i64 (X.pos : Int)] 29)) = w2 at *
  have HR2 := Lib.hid (HRR.out)
  clear HRR
  cases hlet : isT [108, 101, 116] (T.drop k) with
  | true =>
    have hk1 := HNk.out _ hlet
    have HR3 := Lib.hid (HR2.out)
    rw [if_pos hlet] at HR3
    refine (p_take_yes hT HP2.out [108, 101, 116] hlet).mono ?_
    rintro e w3 ⟨rfl, hP, hF⟩
    have HP3 := Lib.hid hP
    have HF3 := Lib.hid (HF2.out.trans hF)
    have HE3 := Lib.hid (HE2.out.fr hF (by omega))
    have HN3 := Lib.hid (HN2.out.fr hF (by omega))
    have hz3 := hF.size
    have hln := HN3.out.lt
    clear hP hF HP2 HF2 HE2 HN2
    have hset : Fr (fun b => w1.heap.size + 1 = b) w3 (w3.setCell ⟨w1.heap.size + 1, 0, none⟩ (.int .i64 5)) := ((Fr.refl _ w3).set1 _ 0 rfl _)
    have hlN := HN3.out.lt
    have HPa := Lib.hid (HP3.out.fr hset (by omega) (by omega))
    have HFa := Lib.hid (HF3.out.past hset (fun b _ h => by omega))
    have HEa := Lib.hid (HE3.out.fr hset (by omega))
    have hbx := (HN3.out.set 0 (.int .i64 5))
    simp only [List.setIfInBounds_toArray, List.set_cons_zero, List.set_cons_succ] at hbx
    have HNa := Lib.hid hbx
    have hza : w3.heap.size = (w3.setCell ⟨w1.heap.size + 1, 0, none⟩ (.int .i64 5)).heap.size := by simp [World.setCell]
    clear hset hbx
    have x0 := HN3.out.cell 0 rfl
    have l0 := HN3.out.melt 0
    clear HP3 HF3 HE3 HN3
    clear hlN
    go_wp2_with fail
    generalize (w3.setCell ⟨w1.heap.size + 1, 0, none⟩ (.int .i64 5)) = wa at *
    clear x0 l0
    have hatY := hT.at hk1
    cases hnm : (((tkAt T (k + 1)).kind : Int) != 1) with
    | true =>
      have HQ := Lib.hid (show R = .bad 170 (tkAt T (k + 1)).pos by rw [← HR3.out, nameT, hd_tkAt T (k + 1) HPa.out.lt, if_neg (by simp at hnm; omega)]; rfl)
      refine (p_name_no HPa.out hnm).mono ?_
      rintro e wz ⟨rfl, hb⟩
      have HFz := Lib.hid (HFa.out.below hb)
      clear hb
      go_wp2_with fail
      exact ⟨rfl, .inl ⟨_, _, HQ.out, rfl, HFz.out⟩⟩
    | false =>
      have HRb := Lib.hid (HR3.out)
      rw [nameT, hd_tkAt T (k + 1) HPa.out.lt, if_pos (by simp at hnm; omega), drop_tail, PR.bind_ok rfl] at HRb
      refine (p_name_yes hT HPa.out hnm).mono ?_
      have hf1 := tok_f1 (tkAt T (k + 1))
      clear hnm HR3
      generalize tkAt T (k + 1) = Y at *
      have HatY := Lib.hid hatY
      rintro e wb ⟨rfl, hP, hF⟩
      have HPb := Lib.hid hP
      have HFb := Lib.hid (HFa.out.trans hF)
      have HEb := Lib.hid (HEa.out.fr hF (by omega))
      have HNb := Lib.hid (HNa.out.fr hF (by omega))
      have hzb := hF.size
      have hln := HNb.out.lt
      clear hatY hP hF HPa HFa HEa HNa
      have hset : Fr (fun b => w1.heap.size + 1 = b) wb (wb.setCell ⟨w1.heap.size + 1, 1, none⟩ (.string ⟨Y.text.toArray⟩)) := ((Fr.refl _ wb).set1 _ 1 rfl _)
      have hlN := HNb.out.lt
      have HPc := Lib.hid (HPb.out.fr hset (by omega) (by omega))
      have HFc := Lib.hid (HFb.out.past hset (fun b _ h => by omega))
      have HEc := Lib.hid (HEb.out.fr hset (by omega))
      have hbx := (HNb.out.set 1 (.string ⟨Y.text.toArray⟩))
      simp only [List.setIfInBounds_toArray, List.set_cons_zero, List.set_cons_succ] at hbx
      have HNc := Lib.hid hbx
      have hzc : wb.heap.size = (wb.setCell ⟨w1.heap.size + 1, 1, none⟩ (.string ⟨Y.text.toArray⟩)).heap.size := by simp [World.setCell]
      clear hset hbx
      have x1 := HNb.out.cell 1 rfl
      have l1 := HNb.out.melt 1
      clear HPb HFb HEb HNb
      clear hlN
      go_wp2_with fail
      generalize (wb.setCell ⟨w1.heap.size + 1, 1, none⟩ (.string ⟨Y.text.toArray⟩)) = wc at *
      clear x1 l1
      clear hf1
      cases hq : isT [61] (T.drop (k + 1 + 1)) with
      | true =>
        have HRd := Lib.hid (HRb.out)
        rw [if_pos hq, drop_tail] at HRd
        refine (p_take_yes hT HPc.out [61] hq).mono ?_
        rintro e wd ⟨rfl, hP, hF⟩
        have HPd := Lib.hid hP
        have HFd := Lib.hid (HFc.out.trans hF)
        have HEd := Lib.hid (HEc.out.fr hF (by omega))
        have HNd := Lib.hid (HNc.out.fr hF (by omega))
        have hzd := hF.size
        have hln := HNd.out.lt
        clear hP hF HPc HFc HEc HNc
        go_wp2_with fail
        have hin : pBin f 1 o (T.drop (k + 1 + 1 + 1)) ≠ .out := fun e => HNe.out (by rw [← HRd.out, pEnd, e]; rfl)
        have HI := Lib.hid (x_expr hT hf HPd.out hin)
        clear hin
        go_wp2_with fail
        refine HI.out.mono ?_
        rintro e wu (⟨c, p, hr, rfl, hF⟩ | ⟨n, lv, k', hr, rfl, hP, hF, hO⟩)
        · have HQ := Lib.hid (show R = .bad c p by rw [← HRd.out, pEnd, PR.bind_bad hr])
          have HFu := Lib.hid (HFd.out.trans hF)
          clear hr hF
          go_wp2_with fail
          exact ⟨rfl, .inl ⟨c, p, HQ.out, rfl, HFu.out⟩⟩
        · obtain ⟨A, cA, rfl⟩ := hO.lvs
          have HRx := Lib.hid (HRd.out)
          rw [pEnd, PR.bind_ok hr] at HRx
          have hzu := hF.size
          have hal := p_al wu (.cells #[.int .i64 n.kind, .string ⟨n.text.toArray⟩, .int .i64 n.val.kind, .int .i64 n.val.num, .string ⟨n.val.str.toArray⟩, .slice none 0 0, .slice none 0 0, .bool n.flag, .slice A n.kids.length cA, .int .i64 n.spot] 29)
          have hBu := HNd.out.fr hF (by omega)
          have HPv := Lib.hid (hP.below hal)
          have HFv := Lib.hid ((HFd.out.trans hF).below hal)
          have HEv := Lib.hid ((HEd.out.fr hF (by omega)).below hal)
          have HNv := Lib.hid (hBu.below hal)
          have HKv := Lib.hid (KidRow.lit1 (ok := fun b => wd.heap.size ≤ b) hO (fun b _ h => h) (by omega) #[.int .i64 n.kind, .string ⟨n.text.toArray⟩, .int .i64 n.val.kind, .int .i64 n.val.num, .string ⟨n.val.str.toArray⟩, .slice none 0 0, .slice none 0 0, .bool n.flag, .slice A n.kids.length cA, .int .i64 n.spot] rfl)
          have hla := HNd.out.lt
          have hln := hBu.lt
          have x8 : ∀ X, (wu.alloc X).cell? ⟨w1.heap.size + 1, 8, none⟩ = some (.slice none 0 0) := fun X => (hBu.below (p_al wu X)).cell 8 rfl
          have l8 : ∀ X, (wu.alloc X).frozen? ⟨w1.heap.size + 1, 8, none⟩ = false := fun X => (hBu.below (p_al wu X)).melt 8
          have hset : Fr (fun b => w1.heap.size + 1 = b) (wu.alloc (.cells #[.int .i64 n.kind, .string ⟨n.text.toArray⟩, .int .i64 n.val.kind, .int .i64 n.val.num, .string ⟨n.val.str.toArray⟩, .slice none 0 0, .slice none 0 0, .bool n.flag, .slice A n.kids.length cA, .int .i64 n.spot] 29)) ((wu.alloc (.cells #[.int .i64 n.kind, .string ⟨n.text.toArray⟩, .int .i64 n.val.kind, .int .i64 n.val.num, .string ⟨n.val.str.toArray⟩, .slice none 0 0, .slice none 0 0, .bool n.flag, .slice A n.kids.length cA, .int .i64 n.spot] 29)).setCell ⟨w1.heap.size + 1, 8, none⟩ (.slice (some ⟨wu.heap.size, 0, none⟩) 1 1)) := (Fr.refl _ _).set1 _ 8 rfl _
          have HPx := Lib.hid (HPv.out.fr hset (by omega) (by omega))
          have HFx := Lib.hid (HFv.out.past hset (fun b _ h => by omega))
          have HEx := Lib.hid (HEv.out.fr hset (by omega))
          have hbx := HNv.out.set 8 (.slice (some ⟨wu.heap.size, 0, none⟩) 1 1)
          simp only [List.setIfInBounds_toArray, List.set_cons_zero, List.set_cons_succ] at hbx
          have HNx := Lib.hid hbx
          have HKx := Lib.hid (HKv.out.fr hset (fun b _ h1 h2 => by omega))
          clear hr hP hF hO hal hBu hln hset hbx HPv HFv HEv HNv HKv HI HPd HFd HEd HNd
          go_wp2_with fail
          generalize ((wu.alloc (.cells #[.int .i64 n.kind, .string ⟨n.text.toArray⟩, .int .i64 n.val.kind, .int .i64 n.val.num, .string ⟨n.val.str.toArray⟩, .slice none 0 0, .slice none 0 0, .bool n.flag, .slice A n.kids.length cA, .int .i64 n.spot] 29)).setCell ⟨w1.heap.size + 1, 8, none⟩ (.slice (some ⟨wu.heap.size, 0, none⟩) 1 1)) = wx at *
          clear x8 l8
          cases hm : isT [59] (T.drop (k')) with
          | false =>
            have HQ := Lib.hid (show R = .bad 170 (tkAt T (k')).pos by rw [← HRx.out, mustT, if_neg (by rw [hm]; simp), hd_tkAt T (k') HPx.out.lt]; rfl)
            refine (p_must_no HPx.out [59] hm).mono ?_
            rintro e wz ⟨rfl, hb⟩
            have HFz := Lib.hid (HFx.out.below hb)
            clear hb
            go_wp2_with fail
            exact ⟨rfl, .inl ⟨_, _, HQ.out, rfl, HFz.out⟩⟩
          | true =>
            have HQ := Lib.hid (show R = .ok (nodeP 5 Y.text [n] X.pos) (T.drop ((k') + 1)) by rw [← HRx.out, mustT, if_pos hm, drop_tail]; rfl)
            refine (p_must_yes hT HPx.out [59] hm).mono ?_
            rintro e wz ⟨rfl, hP, hF⟩
            have hlS := HNx.out.lt
            have hOz : OwN (fun b => w.heap.size + 1 ≤ b) wz (cellsN (nodeP 5 Y.text [n] X.pos) (.slice (some ⟨wu.heap.size, 0, none⟩) 1 1)) (nodeP 5 Y.text [n] X.pos) := OwN.of (by constructor <;> simp [N.kind]) (by have := Hat.out; constructor <;> simp [N.spot] <;> omega) (by have := HatY.out; simp [N.text]; omega) ⟨by constructor <;> simp [V.kind, V.zero, N.val], by constructor <;> simp [V.num, V.zero, N.val], by simp [V.str, V.zero, N.val], rfl, rfl⟩ (by simp [N.kids]) ((HKx.out.fr hF (fun b _ h1 h2 => by omega)).imp (fun b _ h => by omega))
            have HE := Lib.hid (EndN.ret hlg hlt HQ.out hP (HFx.out.trans hF) hOz (show w.heap.size ≤ w.heap.size by omega) (by omega))
            have HEz := Lib.hid (HEx.out.fr hF (by omega))
            have HNz := Lib.hid (HNx.out.fr hF (by omega))
            clear hP hF hOz
            obtain ⟨r0, r1, r2, r3, r4, r5, r6, r7, r8, r9⟩ := ten_cells HEz.out
            obtain ⟨m0, m1, m2, m3, m4, m5, m6, m7, m8, m9⟩ := ten_melt HEz.out
            obtain ⟨t0, t1, t2, t3, t4, t5, t6, t7, t8, t9⟩ := ten_cells HNz.out
            go_wp2_with fail
            refine bodyPost_ret (v := valO (nodeP 5 Y.text [n] X.pos) (.slice (some ⟨wu.heap.size, 0, none⟩) 1 1)) (by simp [results, Tryz.results176, go_sem, r0, r1, r2, r3, r4, r5, r6, r7, r8, r9, N.kind, N.text, N.val, N.flag, N.kids, N.spot, V.zero, V.kind, V.num, V.str]) rfl ?_
            exact HE.out
      | false =>
        have HRd := Lib.hid (HRb.out)
        rw [if_neg (by rw [hq]; simp), pBare] at HRd
        refine (p_take_no HPc.out [61] hq).mono ?_
        rintro e wd ⟨rfl, hb⟩
        have HPd := Lib.hid (HPc.out.below hb)
        have HFd := Lib.hid (HFc.out.below hb)
        have HEd := Lib.hid (HEc.out.below hb)
        have HNd := Lib.hid (HNc.out.below hb)
        have hzd := hb.size
        clear hb HPc HFc HEc HNc
        go_wp2_with fail
        cases hm : isT [59] (T.drop (k + 1 + 1)) with
        | false =>
          have HQ := Lib.hid (show R = .bad 170 (tkAt T (k + 1 + 1)).pos by rw [← HRd.out, mustT, if_neg (by rw [hm]; simp), hd_tkAt T (k + 1 + 1) HPd.out.lt]; rfl)
          refine (p_must_no HPd.out [59] hm).mono ?_
          rintro e wz ⟨rfl, hb⟩
          have HFz := Lib.hid (HFd.out.below hb)
          clear hb
          go_wp2_with fail
          exact ⟨rfl, .inl ⟨_, _, HQ.out, rfl, HFz.out⟩⟩
        | true =>
          have HQ := Lib.hid (show R = .ok (nodeP 5 Y.text [] X.pos) (T.drop ((k + 1 + 1) + 1)) by rw [← HRd.out, mustT, if_pos hm, drop_tail]; rfl)
          refine (p_must_yes hT HPd.out [59] hm).mono ?_
          rintro e wz ⟨rfl, hP, hF⟩
          have hlS := HNd.out.lt
          have hOz : OwN (fun b => w.heap.size + 1 ≤ b) wz (cellsN (nodeP 5 Y.text [] X.pos) (.slice none 0 0)) (nodeP 5 Y.text [] X.pos) := OwN.leaf _ _ _ (by constructor <;> simp [N.kind]) (by have := Hat.out; constructor <;> simp [N.spot] <;> omega) (by have := HatY.out; simp [N.text]; omega) ⟨by constructor <;> simp [V.kind, V.zero, N.val], by constructor <;> simp [V.num, V.zero, N.val], by simp [V.str, V.zero, N.val], rfl, rfl⟩ rfl
          have HE := Lib.hid (EndN.ret hlg hlt HQ.out hP (HFd.out.trans hF) hOz (show w.heap.size ≤ w.heap.size by omega) (by omega))
          have HEz := Lib.hid (HEd.out.fr hF (by omega))
          have HNz := Lib.hid (HNd.out.fr hF (by omega))
          clear hP hF hOz
          obtain ⟨r0, r1, r2, r3, r4, r5, r6, r7, r8, r9⟩ := ten_cells HEz.out
          obtain ⟨m0, m1, m2, m3, m4, m5, m6, m7, m8, m9⟩ := ten_melt HEz.out
          obtain ⟨t0, t1, t2, t3, t4, t5, t6, t7, t8, t9⟩ := ten_cells HNz.out
          go_wp2_with fail
          refine bodyPost_ret (v := valO (nodeP 5 Y.text [] X.pos) (.slice none 0 0)) (by simp [results, Tryz.results176, go_sem, r0, r1, r2, r3, r4, r5, r6, r7, r8, r9, N.kind, N.text, N.val, N.flag, N.kids, N.spot, V.zero, V.kind, V.num, V.str]) rfl ?_
          exact HE.out
  | false =>
  have HR3 := Lib.hid (HR2.out)
  rw [if_neg (show ¬ isT [108, 101, 116] (T.drop k) = true by rw [hlet]; simp)] at HR3
  refine (p_take_no HP2.out [108, 101, 116] hlet).mono ?_
  rintro e w3 ⟨rfl, hb⟩
  have HP3 := Lib.hid (HP2.out.below hb)
  have HF3 := Lib.hid (HF2.out.below hb)
  have HE3 := Lib.hid (HE2.out.below hb)
  have HT3 := Lib.hid (HT2.out.below hb)
  have HN3 := Lib.hid (HN2.out.below hb)
  have hz3 := hb.size
  clear hb HP2 HF2 HE2 HT2 HN2 HR2 hlet
  go_wp2_with fail
  cases hif : isT [105, 102] (T.drop k) with
  | true =>
    have HR4 := Lib.hid (HR3.out)
    rw [if_pos hif] at HR4
    have hk0 : (tkAt T k).kind ≠ 0 := by have h1 := isT_kind hif; rw [hkT] at h1; rw [HXX.out]; exact h1
    refine (p_is_at HP3.out [105, 102] true hif).mono ?_
    rintro e w4 ⟨rfl, hb⟩
    have HP4 := Lib.hid (HP3.out.below hb)
    have HF4 := Lib.hid (HF3.out.below hb)
    have HE4 := Lib.hid (HE3.out.below hb)
    have hI := Hih.out.choice o k w4 HP4.out hk0 (by rw [HR4.out]; exact HNe.out)
    rw [HR4.out] at hI
    have HI := Lib.hid hI
    clear hI hb
    go_wp2_with fail
    refine HI.out.mono ?_
    rintro e w6 (⟨c, p, hr, rfl, hF⟩ | ⟨n, lv, k', hr, rfl, hP, hF, hO⟩)
    · have HR := Lib.hid hr
      have HF := Lib.hid (HF4.out.trans hF)
      clear hr hF
      go_wp2_with fail
      exact ⟨rfl, .inl ⟨c, p, HR.out, rfl, HF.out⟩⟩
    · obtain ⟨A, ca, rfl⟩ := hO.lvs
      have HX := Lib.hid (HE4.out.fr hF (fun e => by omega))
      have HE := Lib.hid (EndN.ret hlg hlt hr hP (HF4.out.trans hF) hO (show w.heap.size ≤ w.heap.size by omega) HE4.out.lt)
      clear hr hP hF hO
      obtain ⟨r0, r1, r2, r3, r4, r5, r6, r7, r8, r9⟩ := ten_cells HX.out
      obtain ⟨m0, m1, m2, m3, m4, m5, m6, m7, m8, m9⟩ := ten_melt HX.out
      go_wp2_with fail
      refine bodyPost_ret (v := valO n (.slice A n.kids.length ca)) (by simp [results, Tryz.results176, go_sem, r0, r1, r2, r3, r4, r5, r6, r7, r8, r9]) rfl ?_
      exact HE.out
  | false =>
  have HR4 := Lib.hid (HR3.out)
  rw [if_neg (show ¬ isT [105, 102] (T.drop k) = true by rw [hif]; simp)] at HR4
  refine (p_is_at HP3.out [105, 102] false hif).mono ?_
  rintro e w4 ⟨rfl, hb⟩
  have HP4 := Lib.hid (HP3.out.below hb)
  have HF4 := Lib.hid (HF3.out.below hb)
  have HE4 := Lib.hid (HE3.out.below hb)
  have HT4 := Lib.hid (HT3.out.below hb)
  have HN4 := Lib.hid (HN3.out.below hb)
  have hz4 := hb.size
  clear hb HP3 HF3 HE3 HT3 HN3 HR3 hif
  go_wp2_with fail
  cases hwh : isT [119, 104, 105, 108, 101] (T.drop k) with
  | true =>
    have hk1 := HNk.out _ hwh
    have HR5 := Lib.hid (HR4.out)
    rw [if_pos hwh] at HR5
    refine (p_take_yes hT HP4.out [119, 104, 105, 108, 101] hwh).mono ?_
    rintro e w5 ⟨rfl, hP, hF⟩
    have HP5 := Lib.hid hP
    have HF5 := Lib.hid (HF4.out.trans hF)
    have HE5 := Lib.hid (HE4.out.fr hF (by omega))
    have HN5 := Lib.hid (HN4.out.fr hF (by omega))
    have hz5 := hF.size
    have hln := HN5.out.lt
    clear hP hF HP4 HF4 HE4 HN4
    have hset : Fr (fun b => w1.heap.size + 1 = b) w5 (w5.setCell ⟨w1.heap.size + 1, 0, none⟩ (.int .i64 8)) := ((Fr.refl _ w5).set1 _ 0 rfl _)
    have hlN := HN5.out.lt
    have HPa := Lib.hid (HP5.out.fr hset (by omega) (by omega))
    have HFa := Lib.hid (HF5.out.past hset (fun b _ h => by omega))
    have HEa := Lib.hid (HE5.out.fr hset (by omega))
    have hbx := (HN5.out.set 0 (.int .i64 8))
    simp only [List.setIfInBounds_toArray, List.set_cons_zero, List.set_cons_succ] at hbx
    have HNa := Lib.hid hbx
    have hza : w5.heap.size = (w5.setCell ⟨w1.heap.size + 1, 0, none⟩ (.int .i64 8)).heap.size := by simp [World.setCell]
    clear hset hbx
    have x0 := HN5.out.cell 0 rfl
    have l0 := HN5.out.melt 0
    clear HP5 HF5 HE5 HN5
    clear hlN
    go_wp2_with fail
    generalize (w5.setCell ⟨w1.heap.size + 1, 0, none⟩ (.int .i64 8)) = wa at *
    clear x0 l0
    have hin : pCond f o (T.drop (k + 1)) ≠ .out := fun e => HNe.out (by rw [← HR5.out, e]; rfl)
    have HI := Lib.hid (k_cond hT hf HPa.out hin)
    clear hin
    refine HI.out.mono ?_
    rintro e wb (⟨c, p, hr, rfl, hF⟩ | ⟨nc, lv, k3, hr, rfl, hP, hF, hO⟩)
    · have HQ := Lib.hid (show R = .bad c p by rw [← HR5.out, PR.bind_bad hr])
      have HFb := Lib.hid (HFa.out.trans hF)
      clear hr hF
      go_wp2_with fail
      exact ⟨rfl, .inl ⟨c, p, HQ.out, rfl, HFb.out⟩⟩
    · obtain ⟨A, cA, rfl⟩ := hO.lvs
      have HRb := Lib.hid (HR5.out)
      rw [PR.bind_ok hr] at HRb
      have HPb := Lib.hid hP
      have HFb := Lib.hid (HFa.out.trans hF)
      have HEb := Lib.hid (HEa.out.fr hF (by omega))
      have HNb := Lib.hid (HNa.out.fr hF (by omega))
      have hzb := hF.size
      have hla := HNa.out.lt
      have HOb := Lib.hid hO.lt
      clear hr hP hF hO HI
      have hin : pBlock f o (T.drop k3) ≠ .out := fun e => HNe.out (by rw [← HRb.out, e]; rfl)
      have HI := Lib.hid (Hih.out.block o k3 wb HPb.out hin)
      clear hin HPa HFa HEa HNa
      go_wp2_with fail
      refine HI.out.mono ?_
      rintro e wc (⟨c, p, hr, rfl, hF⟩ | ⟨nb, lv, k4, hr, rfl, hP, hF, hO⟩)
      · have HQ := Lib.hid (show R = .bad c p by rw [← HRb.out, PR.bind_bad hr])
        have HFc := Lib.hid (HFb.out.trans hF)
        clear hr hF
        go_wp2_with fail
        exact ⟨rfl, .inl ⟨c, p, HQ.out, rfl, HFc.out⟩⟩
      · obtain ⟨B, cB, rfl⟩ := hO.lvs
        have HQ := Lib.hid (show R = .ok (nodeP 8 [] [nc, nb] X.pos) (T.drop k4) by rw [← HRb.out, PR.bind_ok hr])
        have hzc := hF.size
        have hal := p_al wc (.cells #[.int .i64 nc.kind, .string ⟨nc.text.toArray⟩, .int .i64 nc.val.kind, .int .i64 nc.val.num, .string ⟨nc.val.str.toArray⟩, .slice none 0 0, .slice none 0 0, .bool nc.flag, .slice A nc.kids.length cA, .int .i64 nc.spot, .int .i64 nb.kind, .string ⟨nb.text.toArray⟩, .int .i64 nb.val.kind, .int .i64 nb.val.num, .string ⟨nb.val.str.toArray⟩, .slice none 0 0, .slice none 0 0, .bool nb.flag, .slice B nb.kids.length cB, .int .i64 nb.spot] 29)
        have hBc := HNb.out.fr hF (by omega)
        have HPv := Lib.hid (hP.below hal)
        have HFv := Lib.hid ((HFb.out.trans hF).below hal)
        have HEv := Lib.hid ((HEb.out.fr hF (by omega)).below hal)
        have HNv := Lib.hid (hBc.below hal)
        have HKv := Lib.hid (KidRow.pair (ok := fun b => wa.heap.size ≤ b) (HOb.out.fr hF (fun b _ h1 h2 => by omega)) hO.lt (fun b h1 h2 => by omega) (fun b _ h => by omega) (fun b _ h => by omega) (by omega) #[.int .i64 nc.kind, .string ⟨nc.text.toArray⟩, .int .i64 nc.val.kind, .int .i64 nc.val.num, .string ⟨nc.val.str.toArray⟩, .slice none 0 0, .slice none 0 0, .bool nc.flag, .slice A nc.kids.length cA, .int .i64 nc.spot, .int .i64 nb.kind, .string ⟨nb.text.toArray⟩, .int .i64 nb.val.kind, .int .i64 nb.val.num, .string ⟨nb.val.str.toArray⟩, .slice none 0 0, .slice none 0 0, .bool nb.flag, .slice B nb.kids.length cB, .int .i64 nb.spot] rfl)
        have hln := hBc.lt
        have x8 : ∀ X, (wc.alloc X).cell? ⟨w1.heap.size + 1, 8, none⟩ = some (.slice none 0 0) := fun X => (hBc.below (p_al wc X)).cell 8 rfl
        have l8 : ∀ X, (wc.alloc X).frozen? ⟨w1.heap.size + 1, 8, none⟩ = false := fun X => (hBc.below (p_al wc X)).melt 8
        have hset : Fr (fun b => w1.heap.size + 1 = b) (wc.alloc (.cells #[.int .i64 nc.kind, .string ⟨nc.text.toArray⟩, .int .i64 nc.val.kind, .int .i64 nc.val.num, .string ⟨nc.val.str.toArray⟩, .slice none 0 0, .slice none 0 0, .bool nc.flag, .slice A nc.kids.length cA, .int .i64 nc.spot, .int .i64 nb.kind, .string ⟨nb.text.toArray⟩, .int .i64 nb.val.kind, .int .i64 nb.val.num, .string ⟨nb.val.str.toArray⟩, .slice none 0 0, .slice none 0 0, .bool nb.flag, .slice B nb.kids.length cB, .int .i64 nb.spot] 29)) ((wc.alloc (.cells #[.int .i64 nc.kind, .string ⟨nc.text.toArray⟩, .int .i64 nc.val.kind, .int .i64 nc.val.num, .string ⟨nc.val.str.toArray⟩, .slice none 0 0, .slice none 0 0, .bool nc.flag, .slice A nc.kids.length cA, .int .i64 nc.spot, .int .i64 nb.kind, .string ⟨nb.text.toArray⟩, .int .i64 nb.val.kind, .int .i64 nb.val.num, .string ⟨nb.val.str.toArray⟩, .slice none 0 0, .slice none 0 0, .bool nb.flag, .slice B nb.kids.length cB, .int .i64 nb.spot] 29)).setCell ⟨w1.heap.size + 1, 8, none⟩ (.slice (some ⟨wc.heap.size, 0, none⟩) 2 2)) := (Fr.refl _ _).set1 _ 8 rfl _
        have HPx := Lib.hid (HPv.out.fr hset (by omega) (by omega))
        have HFx := Lib.hid (HFv.out.past hset (fun b _ h => by omega))
        have HEx := Lib.hid (HEv.out.fr hset (by omega))
        have hbx := HNv.out.set 8 (.slice (some ⟨wc.heap.size, 0, none⟩) 2 2)
        simp only [List.setIfInBounds_toArray, List.set_cons_zero, List.set_cons_succ] at hbx
        have HNx := Lib.hid hbx
        have HKx := Lib.hid (HKv.out.fr hset (fun b _ h1 h2 => by omega))
        have hOz : OwN (fun b => w.heap.size + 1 ≤ b) _ (cellsN (nodeP 8 [] [nc, nb] X.pos) (.slice (some ⟨wc.heap.size, 0, none⟩) 2 2)) (nodeP 8 [] [nc, nb] X.pos) := OwN.of (by constructor <;> simp [N.kind]) (by have := Hat.out; constructor <;> simp [N.spot] <;> omega) (by simp [N.text]) ⟨by constructor <;> simp [V.kind, V.zero, N.val], by constructor <;> simp [V.num, V.zero, N.val], by simp [V.str, V.zero, N.val], rfl, rfl⟩ (by simp [N.kids]) (HKx.out.imp (fun b _ h => by omega))
        have HE := Lib.hid (EndN.ret hlg hlt HQ.out HPx.out HFx.out hOz (show w.heap.size ≤ w.heap.size by omega) (by omega))
        clear hr hP hF hO hal hBc hln hset hbx HPv HFv HEv HNv HKv HI HPb HFb HEb HNb hOz
        go_upto_region 14 with fail
        generalize ((wc.alloc (.cells #[.int .i64 nc.kind, .string ⟨nc.text.toArray⟩, .int .i64 nc.val.kind, .int .i64 nc.val.num, .string ⟨nc.val.str.toArray⟩, .slice none 0 0, .slice none 0 0, .bool nc.flag, .slice A nc.kids.length cA, .int .i64 nc.spot, .int .i64 nb.kind, .string ⟨nb.text.toArray⟩, .int .i64 nb.val.kind, .int .i64 nb.val.num, .string ⟨nb.val.str.toArray⟩, .slice none 0 0, .slice none 0 0, .bool nb.flag, .slice B nb.kids.length cB, .int .i64 nb.spot] 29)).setCell ⟨w1.heap.size + 1, 8, none⟩ (.slice (some ⟨wc.heap.size, 0, none⟩) 2 2)) = wx at *
        clear x8 l8
        obtain ⟨r0, r1, r2, r3, r4, r5, r6, r7, r8, r9⟩ := ten_cells HEx.out
        obtain ⟨m0, m1, m2, m3, m4, m5, m6, m7, m8, m9⟩ := ten_melt HEx.out
        obtain ⟨t0, t1, t2, t3, t4, t5, t6, t7, t8, t9⟩ := ten_cells HNx.out
        go_wp2_with fail
        refine bodyPost_ret (v := valO (nodeP 8 [] [nc, nb] X.pos) (.slice (some ⟨wc.heap.size, 0, none⟩) 2 2)) (by simp [results, Tryz.results176, go_sem, r0, r1, r2, r3, r4, r5, r6, r7, r8, r9, N.kind, N.text, N.val, N.flag, N.kids, N.spot, V.zero, V.kind, V.num, V.str]) rfl ?_
        exact HE.out
  | false =>
  have HR5 := Lib.hid (HR4.out)
  rw [if_neg (show ¬ isT [119, 104, 105, 108, 101] (T.drop k) = true by rw [hwh]; simp)] at HR5
  refine (p_take_no HP4.out [119, 104, 105, 108, 101] hwh).mono ?_
  rintro e w5 ⟨rfl, hb⟩
  have HP5 := Lib.hid (HP4.out.below hb)
  have HF5 := Lib.hid (HF4.out.below hb)
  have HE5 := Lib.hid (HE4.out.below hb)
  have HT5 := Lib.hid (HT4.out.below hb)
  have HN5 := Lib.hid (HN4.out.below hb)
  have hz5 := hb.size
  clear hb HP4 HF4 HE4 HT4 HN4 HR4 hwh
  go_wp2_with fail
  cases hre : isT [114, 101, 116, 117, 114, 110] (T.drop k) with
  | true =>
    have hk1 := HNk.out _ hre
    have HR6 := Lib.hid (HR5.out)
    rw [if_pos hre] at HR6
    refine (p_take_yes hT HP5.out [114, 101, 116, 117, 114, 110] hre).mono ?_
    rintro e w6 ⟨rfl, hP, hF⟩
    have HP6 := Lib.hid hP
    have HF6 := Lib.hid (HF5.out.trans hF)
    have HE6 := Lib.hid (HE5.out.fr hF (by omega))
    have HN6 := Lib.hid (HN5.out.fr hF (by omega))
    have hz6 := hF.size
    have hln := HN6.out.lt
    clear hP hF HP5 HF5 HE5 HN5
    have hset : Fr (fun b => w1.heap.size + 1 = b) w6 (w6.setCell ⟨w1.heap.size + 1, 0, none⟩ (.int .i64 9)) := ((Fr.refl _ w6).set1 _ 0 rfl _)
    have hlN := HN6.out.lt
    have HPa := Lib.hid (HP6.out.fr hset (by omega) (by omega))
    have HFa := Lib.hid (HF6.out.past hset (fun b _ h => by omega))
    have HEa := Lib.hid (HE6.out.fr hset (by omega))
    have hbx := (HN6.out.set 0 (.int .i64 9))
    simp only [List.setIfInBounds_toArray, List.set_cons_zero, List.set_cons_succ] at hbx
    have HNa := Lib.hid hbx
    have hza : w6.heap.size = (w6.setCell ⟨w1.heap.size + 1, 0, none⟩ (.int .i64 9)).heap.size := by simp [World.setCell]
    clear hset hbx
    have x0 := HN6.out.cell 0 rfl
    have l0 := HN6.out.melt 0
    clear HP6 HF6 HE6 HN6
    clear hlN
    go_wp2_with fail
    generalize (w6.setCell ⟨w1.heap.size + 1, 0, none⟩ (.int .i64 9)) = wa at *
    clear x0 l0
    cases hq : isT [59] (T.drop (k + 1)) with
    | true =>
      have HRd := Lib.hid (HR6.out)
      rw [if_pos hq, pBare] at HRd
      refine (p_is_at HPa.out [59] true hq).mono ?_
      rintro e wd ⟨rfl, hb⟩
      have HPd := Lib.hid (HPa.out.below hb)
      have HFd := Lib.hid (HFa.out.below hb)
      have HEd := Lib.hid (HEa.out.below hb)
      have HNd := Lib.hid (HNa.out.below hb)
      have hzd := hb.size
      clear hb HPa HFa HEa HNa
      go_wp2_with fail
      cases hm : isT [59] (T.drop (k + 1)) with
      | false =>
        have HQ := Lib.hid (show R = .bad 170 (tkAt T (k + 1)).pos by rw [← HRd.out, mustT, if_neg (by rw [hm]; simp), hd_tkAt T (k + 1) HPd.out.lt]; rfl)
        refine (p_must_no HPd.out [59] hm).mono ?_
        rintro e wz ⟨rfl, hb⟩
        have HFz := Lib.hid (HFd.out.below hb)
        clear hb
        go_wp2_with fail
        exact ⟨rfl, .inl ⟨_, _, HQ.out, rfl, HFz.out⟩⟩
      | true =>
        have HQ := Lib.hid (show R = .ok (nodeP 9 [] [] X.pos) (T.drop ((k + 1) + 1)) by rw [← HRd.out, mustT, if_pos hm, drop_tail]; rfl)
        refine (p_must_yes hT HPd.out [59] hm).mono ?_
        rintro e wz ⟨rfl, hP, hF⟩
        have hlS := HNd.out.lt
        have hOz : OwN (fun b => w.heap.size + 1 ≤ b) wz (cellsN (nodeP 9 [] [] X.pos) (.slice none 0 0)) (nodeP 9 [] [] X.pos) := OwN.leaf _ _ _ (by constructor <;> simp [N.kind]) (by have := Hat.out; constructor <;> simp [N.spot] <;> omega) (by simp [N.text]) ⟨by constructor <;> simp [V.kind, V.zero, N.val], by constructor <;> simp [V.num, V.zero, N.val], by simp [V.str, V.zero, N.val], rfl, rfl⟩ rfl
        have HE := Lib.hid (EndN.ret hlg hlt HQ.out hP (HFd.out.trans hF) hOz (show w.heap.size ≤ w.heap.size by omega) (by omega))
        have HEz := Lib.hid (HEd.out.fr hF (by omega))
        have HNz := Lib.hid (HNd.out.fr hF (by omega))
        clear hP hF hOz
        obtain ⟨r0, r1, r2, r3, r4, r5, r6, r7, r8, r9⟩ := ten_cells HEz.out
        obtain ⟨m0, m1, m2, m3, m4, m5, m6, m7, m8, m9⟩ := ten_melt HEz.out
        obtain ⟨t0, t1, t2, t3, t4, t5, t6, t7, t8, t9⟩ := ten_cells HNz.out
        go_wp2_with fail
        refine bodyPost_ret (v := valO (nodeP 9 [] [] X.pos) (.slice none 0 0)) (by simp [results, Tryz.results176, go_sem, r0, r1, r2, r3, r4, r5, r6, r7, r8, r9, N.kind, N.text, N.val, N.flag, N.kids, N.spot, V.zero, V.kind, V.num, V.str]) rfl ?_
        exact HE.out
    | false =>
      have HRd := Lib.hid (HR6.out)
      rw [if_neg (by rw [hq]; simp)] at HRd
      refine (p_is_at HPa.out [59] false hq).mono ?_
      rintro e wd ⟨rfl, hb⟩
      have HPd := Lib.hid (HPa.out.below hb)
      have HFd := Lib.hid (HFa.out.below hb)
      have HEd := Lib.hid (HEa.out.below hb)
      have HNd := Lib.hid (HNa.out.below hb)
      have hzd := hb.size
      clear hb HPa HFa HEa HNa
      go_wp2_with fail
      have hin : pBin f 1 o (T.drop (k + 1)) ≠ .out := fun e => HNe.out (by rw [← HRd.out, pEnd, e]; rfl)
      have HI := Lib.hid (x_expr hT hf HPd.out hin)
      clear hin
      go_wp2_with fail
      refine HI.out.mono ?_
      rintro e wu (⟨c, p, hr, rfl, hF⟩ | ⟨n, lv, k', hr, rfl, hP, hF, hO⟩)
      · have HQ := Lib.hid (show R = .bad c p by rw [← HRd.out, pEnd, PR.bind_bad hr])
        have HFu := Lib.hid (HFd.out.trans hF)
        clear hr hF
        go_wp2_with fail
        exact ⟨rfl, .inl ⟨c, p, HQ.out, rfl, HFu.out⟩⟩
      · obtain ⟨A, cA, rfl⟩ := hO.lvs
        have HRx := Lib.hid (HRd.out)
        rw [pEnd, PR.bind_ok hr] at HRx
        have hzu := hF.size
        have hal := p_al wu (.cells #[.int .i64 n.kind, .string ⟨n.text.toArray⟩, .int .i64 n.val.kind, .int .i64 n.val.num, .string ⟨n.val.str.toArray⟩, .slice none 0 0, .slice none 0 0, .bool n.flag, .slice A n.kids.length cA, .int .i64 n.spot] 29)
        have hBu := HNd.out.fr hF (by omega)
        have HPv := Lib.hid (hP.below hal)
        have HFv := Lib.hid ((HFd.out.trans hF).below hal)
        have HEv := Lib.hid ((HEd.out.fr hF (by omega)).below hal)
        have HNv := Lib.hid (hBu.below hal)
        have HKv := Lib.hid (KidRow.lit1 (ok := fun b => wd.heap.size ≤ b) hO (fun b _ h => h) (by omega) #[.int .i64 n.kind, .string ⟨n.text.toArray⟩, .int .i64 n.val.kind, .int .i64 n.val.num, .string ⟨n.val.str.toArray⟩, .slice none 0 0, .slice none 0 0, .bool n.flag, .slice A n.kids.length cA, .int .i64 n.spot] rfl)
        have hla := HNd.out.lt
        have hln := hBu.lt
        have x8 : ∀ X, (wu.alloc X).cell? ⟨w1.heap.size + 1, 8, none⟩ = some (.slice none 0 0) := fun X => (hBu.below (p_al wu X)).cell 8 rfl
        have l8 : ∀ X, (wu.alloc X).frozen? ⟨w1.heap.size + 1, 8, none⟩ = false := fun X => (hBu.below (p_al wu X)).melt 8
        have hset : Fr (fun b => w1.heap.size + 1 = b) (wu.alloc (.cells #[.int .i64 n.kind, .string ⟨n.text.toArray⟩, .int .i64 n.val.kind, .int .i64 n.val.num, .string ⟨n.val.str.toArray⟩, .slice none 0 0, .slice none 0 0, .bool n.flag, .slice A n.kids.length cA, .int .i64 n.spot] 29)) ((wu.alloc (.cells #[.int .i64 n.kind, .string ⟨n.text.toArray⟩, .int .i64 n.val.kind, .int .i64 n.val.num, .string ⟨n.val.str.toArray⟩, .slice none 0 0, .slice none 0 0, .bool n.flag, .slice A n.kids.length cA, .int .i64 n.spot] 29)).setCell ⟨w1.heap.size + 1, 8, none⟩ (.slice (some ⟨wu.heap.size, 0, none⟩) 1 1)) := (Fr.refl _ _).set1 _ 8 rfl _
        have HPx := Lib.hid (HPv.out.fr hset (by omega) (by omega))
        have HFx := Lib.hid (HFv.out.past hset (fun b _ h => by omega))
        have HEx := Lib.hid (HEv.out.fr hset (by omega))
        have hbx := HNv.out.set 8 (.slice (some ⟨wu.heap.size, 0, none⟩) 1 1)
        simp only [List.setIfInBounds_toArray, List.set_cons_zero, List.set_cons_succ] at hbx
        have HNx := Lib.hid hbx
        have HKx := Lib.hid (HKv.out.fr hset (fun b _ h1 h2 => by omega))
        clear hr hP hF hO hal hBu hln hset hbx HPv HFv HEv HNv HKv HI HPd HFd HEd HNd
        go_wp2_with fail
        generalize ((wu.alloc (.cells #[.int .i64 n.kind, .string ⟨n.text.toArray⟩, .int .i64 n.val.kind, .int .i64 n.val.num, .string ⟨n.val.str.toArray⟩, .slice none 0 0, .slice none 0 0, .bool n.flag, .slice A n.kids.length cA, .int .i64 n.spot] 29)).setCell ⟨w1.heap.size + 1, 8, none⟩ (.slice (some ⟨wu.heap.size, 0, none⟩) 1 1)) = wx at *
        clear x8 l8
        cases hm : isT [59] (T.drop (k')) with
        | false =>
          have HQ := Lib.hid (show R = .bad 170 (tkAt T (k')).pos by rw [← HRx.out, mustT, if_neg (by rw [hm]; simp), hd_tkAt T (k') HPx.out.lt]; rfl)
          refine (p_must_no HPx.out [59] hm).mono ?_
          rintro e wz ⟨rfl, hb⟩
          have HFz := Lib.hid (HFx.out.below hb)
          clear hb
          go_wp2_with fail
          exact ⟨rfl, .inl ⟨_, _, HQ.out, rfl, HFz.out⟩⟩
        | true =>
          have HQ := Lib.hid (show R = .ok (nodeP 9 [] [n] X.pos) (T.drop ((k') + 1)) by rw [← HRx.out, mustT, if_pos hm, drop_tail]; rfl)
          refine (p_must_yes hT HPx.out [59] hm).mono ?_
          rintro e wz ⟨rfl, hP, hF⟩
          have hlS := HNx.out.lt
          have hOz : OwN (fun b => w.heap.size + 1 ≤ b) wz (cellsN (nodeP 9 [] [n] X.pos) (.slice (some ⟨wu.heap.size, 0, none⟩) 1 1)) (nodeP 9 [] [n] X.pos) := OwN.of (by constructor <;> simp [N.kind]) (by have := Hat.out; constructor <;> simp [N.spot] <;> omega) (by simp [N.text]) ⟨by constructor <;> simp [V.kind, V.zero, N.val], by constructor <;> simp [V.num, V.zero, N.val], by simp [V.str, V.zero, N.val], rfl, rfl⟩ (by simp [N.kids]) ((HKx.out.fr hF (fun b _ h1 h2 => by omega)).imp (fun b _ h => by omega))
          have HE := Lib.hid (EndN.ret hlg hlt HQ.out hP (HFx.out.trans hF) hOz (show w.heap.size ≤ w.heap.size by omega) (by omega))
          have HEz := Lib.hid (HEx.out.fr hF (by omega))
          have HNz := Lib.hid (HNx.out.fr hF (by omega))
          clear hP hF hOz
          obtain ⟨r0, r1, r2, r3, r4, r5, r6, r7, r8, r9⟩ := ten_cells HEz.out
          obtain ⟨m0, m1, m2, m3, m4, m5, m6, m7, m8, m9⟩ := ten_melt HEz.out
          obtain ⟨t0, t1, t2, t3, t4, t5, t6, t7, t8, t9⟩ := ten_cells HNz.out
          go_wp2_with fail
          refine bodyPost_ret (v := valO (nodeP 9 [] [n] X.pos) (.slice (some ⟨wu.heap.size, 0, none⟩) 1 1)) (by simp [results, Tryz.results176, go_sem, r0, r1, r2, r3, r4, r5, r6, r7, r8, r9, N.kind, N.text, N.val, N.flag, N.kids, N.spot, V.zero, V.kind, V.num, V.str]) rfl ?_
          exact HE.out
  | false =>
  have HR6 := Lib.hid (HR5.out)
  rw [if_neg (show ¬ isT [114, 101, 116, 117, 114, 110] (T.drop k) = true by rw [hre]; simp)] at HR6
  refine (p_take_no HP5.out [114, 101, 116, 117, 114, 110] hre).mono ?_
  rintro e w6 ⟨rfl, hb⟩
  have HP6 := Lib.hid (HP5.out.below hb)
  have HF6 := Lib.hid (HF5.out.below hb)
  have HE6 := Lib.hid (HE5.out.below hb)
  have HT6 := Lib.hid (HT5.out.below hb)
  have HN6 := Lib.hid (HN5.out.below hb)
  have hz6 := hb.size
  clear hb HP5 HF5 HE5 HT5 HN5 HR5 hre
  go_wp2_with fail
  cases hbr : isT [98, 114, 101, 97, 107] (T.drop k) with
  | true =>
    have hk1 := HNk.out _ hbr
    have HR7 := Lib.hid (HR6.out)
    rw [if_pos hbr] at HR7
    refine (p_take_yes hT HP6.out [98, 114, 101, 97, 107] hbr).mono ?_
    rintro e w7 ⟨rfl, hP, hF⟩
    have hset : Fr (fun b => w1.heap.size + 1 = b) w7 (w7.setCell ⟨w1.heap.size + 1, 0, none⟩ (.int .i64 10)) := (Fr.refl _ w7).set1 _ 0 rfl _
    have hs := hF.size
    have hlN := HN6.out.lt
    have HPS := Lib.hid (hP.fr hset (by omega) (by omega))
    have HFS := Lib.hid ((HF6.out.trans hF).past hset (fun b _ h => by omega))
    have HES := Lib.hid ((HE6.out.fr hF (by omega)).fr hset (by omega))
    have hN := HN6.out.fr hF (by omega)
    have hbx := hN.set 0 (.int .i64 10)
    simp only [List.setIfInBounds_toArray, List.set_cons_zero, List.set_cons_succ] at hbx
    have HNS := Lib.hid hbx
    have x0 := hN.cell 0 rfl
    have l0 := hN.melt 0
    clear hP hF hset hN hbx
    go_wp2_with fail
    generalize (w7.setCell ⟨w1.heap.size + 1, 0, none⟩ (.int .i64 10)) = wS at *
    clear x0 l0
    cases hm : isT [59] (T.drop (k + 1)) with
    | false =>
      have HQ := Lib.hid (show R = .bad 170 (tkAt T (k + 1)).pos by rw [← HR7.out, pBare, mustT, if_neg (by rw [hm]; simp), hd_tkAt T (k + 1) HPS.out.lt]; rfl)
      refine (p_must_no HPS.out [59] hm).mono ?_
      rintro e w9 ⟨rfl, hb⟩
      have HF9 := Lib.hid (HFS.out.below hb)
      clear hb
      go_wp2_with fail
      exact ⟨rfl, .inl ⟨_, _, HQ.out, rfl, HF9.out⟩⟩
    | true =>
      have HQ := Lib.hid (show R = .ok (nodeP 10 [] [] X.pos) (T.drop (k + 1 + 1)) by rw [← HR7.out, pBare, mustT, if_pos hm, drop_tail]; rfl)
      refine (p_must_yes hT HPS.out [59] hm).mono ?_
      rintro e w9 ⟨rfl, hP, hF⟩
      have hO9 : OwN (fun b => w.heap.size + 1 ≤ b) w9 (cellsN (nodeP 10 [] [] X.pos) (.slice none 0 0)) (nodeP 10 [] [] X.pos) := OwN.leaf _ _ _ (by constructor <;> simp [N.kind]) (by have := Hat.out; constructor <;> simp [N.spot] <;> omega) (by simp [N.text]) ⟨by constructor <;> simp [V.kind, V.zero, N.val], by constructor <;> simp [V.num, V.zero, N.val], by simp [V.str, V.zero, N.val], rfl, rfl⟩ rfl
      have hlS := HNS.out.lt
      have HE := Lib.hid (EndN.ret hlg hlt HQ.out hP (HFS.out.trans hF) hO9 (show w.heap.size ≤ w.heap.size by omega) (by omega))
      obtain ⟨r0, r1, r2, r3, r4, r5, r6, r7, r8, r9⟩ := ten_cells (HES.out.fr hF (by omega))
      obtain ⟨m0, m1, m2, m3, m4, m5, m6, m7, m8, m9⟩ := ten_melt (HES.out.fr hF (by omega))
      obtain ⟨t0, t1, t2, t3, t4, t5, t6, t7, t8, t9⟩ := ten_cells (HNS.out.fr hF (by omega))
      clear hP hF hO9
      go_wp2_with fail
      refine bodyPost_ret (v := valO (nodeP 10 [] [] X.pos) (.slice none 0 0)) (by simp [results, Tryz.results176, go_sem, r0, r1, r2, r3, r4, r5, r6, r7, r8, r9, N.kind, N.text, N.val, N.flag, N.kids, N.spot, V.zero, V.kind, V.num, V.str]) rfl ?_
      exact HE.out
  | false =>
  have HR7 := Lib.hid (HR6.out)
  rw [if_neg (show ¬ isT [98, 114, 101, 97, 107] (T.drop k) = true by rw [hbr]; simp)] at HR7
  refine (p_take_no HP6.out [98, 114, 101, 97, 107] hbr).mono ?_
  rintro e w7 ⟨rfl, hb⟩
  have HP7 := Lib.hid (HP6.out.below hb)
  have HF7 := Lib.hid (HF6.out.below hb)
  have HE7 := Lib.hid (HE6.out.below hb)
  have HT7 := Lib.hid (HT6.out.below hb)
  have HN7 := Lib.hid (HN6.out.below hb)
  have hz7 := hb.size
  clear hb HP6 HF6 HE6 HT6 HN6 HR6 hbr
  go_wp2_with fail
  cases hco : isT [99, 111, 110, 116, 105, 110, 117, 101] (T.drop k) with
  | true =>
    have hk1 := HNk.out _ hco
    have HR8 := Lib.hid (HR7.out)
    rw [if_pos hco] at HR8
    refine (p_take_yes hT HP7.out [99, 111, 110, 116, 105, 110, 117, 101] hco).mono ?_
    rintro e w8 ⟨rfl, hP, hF⟩
    have hset : Fr (fun b => w1.heap.size + 1 = b) w8 (w8.setCell ⟨w1.heap.size + 1, 0, none⟩ (.int .i64 11)) := (Fr.refl _ w8).set1 _ 0 rfl _
    have hs := hF.size
    have hlN := HN7.out.lt
    have HPS := Lib.hid (hP.fr hset (by omega) (by omega))
    have HFS := Lib.hid ((HF7.out.trans hF).past hset (fun b _ h => by omega))
    have HES := Lib.hid ((HE7.out.fr hF (by omega)).fr hset (by omega))
    have hN := HN7.out.fr hF (by omega)
    have hbx := hN.set 0 (.int .i64 11)
    simp only [List.setIfInBounds_toArray, List.set_cons_zero, List.set_cons_succ] at hbx
    have HNS := Lib.hid hbx
    have x0 := hN.cell 0 rfl
    have l0 := hN.melt 0
    clear hP hF hset hN hbx
    go_wp2_with fail
    generalize (w8.setCell ⟨w1.heap.size + 1, 0, none⟩ (.int .i64 11)) = wS at *
    clear x0 l0
    cases hm : isT [59] (T.drop (k + 1)) with
    | false =>
      have HQ := Lib.hid (show R = .bad 170 (tkAt T (k + 1)).pos by rw [← HR8.out, pBare, mustT, if_neg (by rw [hm]; simp), hd_tkAt T (k + 1) HPS.out.lt]; rfl)
      refine (p_must_no HPS.out [59] hm).mono ?_
      rintro e w9 ⟨rfl, hb⟩
      have HF9 := Lib.hid (HFS.out.below hb)
      clear hb
      go_wp2_with fail
      exact ⟨rfl, .inl ⟨_, _, HQ.out, rfl, HF9.out⟩⟩
    | true =>
      have HQ := Lib.hid (show R = .ok (nodeP 11 [] [] X.pos) (T.drop (k + 1 + 1)) by rw [← HR8.out, pBare, mustT, if_pos hm, drop_tail]; rfl)
      refine (p_must_yes hT HPS.out [59] hm).mono ?_
      rintro e w9 ⟨rfl, hP, hF⟩
      have hO9 : OwN (fun b => w.heap.size + 1 ≤ b) w9 (cellsN (nodeP 11 [] [] X.pos) (.slice none 0 0)) (nodeP 11 [] [] X.pos) := OwN.leaf _ _ _ (by constructor <;> simp [N.kind]) (by have := Hat.out; constructor <;> simp [N.spot] <;> omega) (by simp [N.text]) ⟨by constructor <;> simp [V.kind, V.zero, N.val], by constructor <;> simp [V.num, V.zero, N.val], by simp [V.str, V.zero, N.val], rfl, rfl⟩ rfl
      have hlS := HNS.out.lt
      have HE := Lib.hid (EndN.ret hlg hlt HQ.out hP (HFS.out.trans hF) hO9 (show w.heap.size ≤ w.heap.size by omega) (by omega))
      obtain ⟨r0, r1, r2, r3, r4, r5, r6, r7, r8, r9⟩ := ten_cells (HES.out.fr hF (by omega))
      obtain ⟨m0, m1, m2, m3, m4, m5, m6, m7, m8, m9⟩ := ten_melt (HES.out.fr hF (by omega))
      obtain ⟨t0, t1, t2, t3, t4, t5, t6, t7, t8, t9⟩ := ten_cells (HNS.out.fr hF (by omega))
      clear hP hF hO9
      go_wp2_with fail
      refine bodyPost_ret (v := valO (nodeP 11 [] [] X.pos) (.slice none 0 0)) (by simp [results, Tryz.results176, go_sem, r0, r1, r2, r3, r4, r5, r6, r7, r8, r9, N.kind, N.text, N.val, N.flag, N.kids, N.spot, V.zero, V.kind, V.num, V.str]) rfl ?_
      exact HE.out
  | false =>
  have HR8 := Lib.hid (HR7.out)
  rw [if_neg (show ¬ isT [99, 111, 110, 116, 105, 110, 117, 101] (T.drop k) = true by rw [hco]; simp)] at HR8
  refine (p_take_no HP7.out [99, 111, 110, 116, 105, 110, 117, 101] hco).mono ?_
  rintro e w8 ⟨rfl, hb⟩
  have HP8 := Lib.hid (HP7.out.below hb)
  have HF8 := Lib.hid (HF7.out.below hb)
  have HE8 := Lib.hid (HE7.out.below hb)
  have HT8 := Lib.hid (HT7.out.below hb)
  have HN8 := Lib.hid (HN7.out.below hb)
  have hz8 := hb.size
  clear hb HP7 HF7 HE7 HT7 HN7 HR7 hco
  have HRs := Lib.hid HR8.out
  clear HR8
  obtain ⟨c0, -, -, -, -⟩ := four_facts HT8.out
  cases h1 : ((X.kind : Int) == 1) with
  | false =>
    have HR8 := Lib.hid (HRs.out)
    rw [if_neg (by unfold setsT; rw [hkT]; simp at h1 ⊢; intro h; omega)] at HR8
    clear HRs
    go_wp2_with fail
    clear c0
    have hin : pBin f 1 o (T.drop (k)) ≠ .out := fun e => HNe.out (by rw [← HR8.out, pEnd, e]; rfl)
    have HI := Lib.hid (x_expr hT hf HP8.out hin)
    clear hin
    go_wp2_with fail
    refine HI.out.mono ?_
    rintro e wu (⟨c, p, hr, rfl, hF⟩ | ⟨n, lv, k', hr, rfl, hP, hF, hO⟩)
    · have HQ := Lib.hid (show R = .bad c p by rw [← HR8.out, pEnd, PR.bind_bad hr])
      have HFu := Lib.hid (HF8.out.trans hF)
      clear hr hF
      go_wp2_with fail
      exact ⟨rfl, .inl ⟨c, p, HQ.out, rfl, HFu.out⟩⟩
    · obtain ⟨A, cA, rfl⟩ := hO.lvs
      have HRx := Lib.hid (HR8.out)
      rw [pEnd, PR.bind_ok hr] at HRx
      have hzu := hF.size
      have hal := p_al wu (.cells #[.int .i64 n.kind, .string ⟨n.text.toArray⟩, .int .i64 n.val.kind, .int .i64 n.val.num, .string ⟨n.val.str.toArray⟩, .slice none 0 0, .slice none 0 0, .bool n.flag, .slice A n.kids.length cA, .int .i64 n.spot] 29)
      have hBu := HN8.out.fr hF (by omega)
      have HPv := Lib.hid (hP.below hal)
      have HFv := Lib.hid ((HF8.out.trans hF).below hal)
      have HEv := Lib.hid ((HE8.out.fr hF (by omega)).below hal)
      have HNv := Lib.hid (hBu.below hal)
      have HKv := Lib.hid (KidRow.lit1 (ok := fun b => w8.heap.size ≤ b) hO (fun b _ h => h) (by omega) #[.int .i64 n.kind, .string ⟨n.text.toArray⟩, .int .i64 n.val.kind, .int .i64 n.val.num, .string ⟨n.val.str.toArray⟩, .slice none 0 0, .slice none 0 0, .bool n.flag, .slice A n.kids.length cA, .int .i64 n.spot] rfl)
      have hla := HN8.out.lt
      have hln := hBu.lt
      have x8 : ∀ X, (wu.alloc X).cell? ⟨w1.heap.size + 1, 8, none⟩ = some (.slice none 0 0) := fun X => (hBu.below (p_al wu X)).cell 8 rfl
      have l8 : ∀ X, (wu.alloc X).frozen? ⟨w1.heap.size + 1, 8, none⟩ = false := fun X => (hBu.below (p_al wu X)).melt 8
      have hset : Fr (fun b => w1.heap.size + 1 = b) (wu.alloc (.cells #[.int .i64 n.kind, .string ⟨n.text.toArray⟩, .int .i64 n.val.kind, .int .i64 n.val.num, .string ⟨n.val.str.toArray⟩, .slice none 0 0, .slice none 0 0, .bool n.flag, .slice A n.kids.length cA, .int .i64 n.spot] 29)) ((wu.alloc (.cells #[.int .i64 n.kind, .string ⟨n.text.toArray⟩, .int .i64 n.val.kind, .int .i64 n.val.num, .string ⟨n.val.str.toArray⟩, .slice none 0 0, .slice none 0 0, .bool n.flag, .slice A n.kids.length cA, .int .i64 n.spot] 29)).setCell ⟨w1.heap.size + 1, 8, none⟩ (.slice (some ⟨wu.heap.size, 0, none⟩) 1 1)) := (Fr.refl _ _).set1 _ 8 rfl _
      have HPx := Lib.hid (HPv.out.fr hset (by omega) (by omega))
      have HFx := Lib.hid (HFv.out.past hset (fun b _ h => by omega))
      have HEx := Lib.hid (HEv.out.fr hset (by omega))
      have hbx := HNv.out.set 8 (.slice (some ⟨wu.heap.size, 0, none⟩) 1 1)
      simp only [List.setIfInBounds_toArray, List.set_cons_zero, List.set_cons_succ] at hbx
      have HNx := Lib.hid hbx
      have HKx := Lib.hid (HKv.out.fr hset (fun b _ h1 h2 => by omega))
      clear hr hP hF hO hal hBu hln hset hbx HPv HFv HEv HNv HKv HI HP8 HF8 HE8 HN8
      go_wp2_with fail
      generalize ((wu.alloc (.cells #[.int .i64 n.kind, .string ⟨n.text.toArray⟩, .int .i64 n.val.kind, .int .i64 n.val.num, .string ⟨n.val.str.toArray⟩, .slice none 0 0, .slice none 0 0, .bool n.flag, .slice A n.kids.length cA, .int .i64 n.spot] 29)).setCell ⟨w1.heap.size + 1, 8, none⟩ (.slice (some ⟨wu.heap.size, 0, none⟩) 1 1)) = wx at *
      clear x8 l8
      cases hm : isT [59] (T.drop (k')) with
      | false =>
        have HQ := Lib.hid (show R = .bad 170 (tkAt T (k')).pos by rw [← HRx.out, mustT, if_neg (by rw [hm]; simp), hd_tkAt T (k') HPx.out.lt]; rfl)
        refine (p_must_no HPx.out [59] hm).mono ?_
        rintro e wz ⟨rfl, hb⟩
        have HFz := Lib.hid (HFx.out.below hb)
        clear hb
        go_wp2_with fail
        exact ⟨rfl, .inl ⟨_, _, HQ.out, rfl, HFz.out⟩⟩
      | true =>
        have HQ := Lib.hid (show R = .ok (nodeP 12 [] [n] X.pos) (T.drop ((k') + 1)) by rw [← HRx.out, mustT, if_pos hm, drop_tail]; rfl)
        refine (p_must_yes hT HPx.out [59] hm).mono ?_
        rintro e wz ⟨rfl, hP, hF⟩
        have hlS := HNx.out.lt
        have hOz : OwN (fun b => w.heap.size + 1 ≤ b) wz (cellsN (nodeP 12 [] [n] X.pos) (.slice (some ⟨wu.heap.size, 0, none⟩) 1 1)) (nodeP 12 [] [n] X.pos) := OwN.of (by constructor <;> simp [N.kind]) (by have := Hat.out; constructor <;> simp [N.spot] <;> omega) (by simp [N.text]) ⟨by constructor <;> simp [V.kind, V.zero, N.val], by constructor <;> simp [V.num, V.zero, N.val], by simp [V.str, V.zero, N.val], rfl, rfl⟩ (by simp [N.kids]) ((HKx.out.fr hF (fun b _ h1 h2 => by omega)).imp (fun b _ h => by omega))
        have HE := Lib.hid (EndN.ret hlg hlt HQ.out hP (HFx.out.trans hF) hOz (show w.heap.size ≤ w.heap.size by omega) (by omega))
        have HEz := Lib.hid (HEx.out.fr hF (by omega))
        have HNz := Lib.hid (HNx.out.fr hF (by omega))
        clear hP hF hOz
        obtain ⟨r0, r1, r2, r3, r4, r5, r6, r7, r8, r9⟩ := ten_cells HEz.out
        obtain ⟨m0, m1, m2, m3, m4, m5, m6, m7, m8, m9⟩ := ten_melt HEz.out
        obtain ⟨t0, t1, t2, t3, t4, t5, t6, t7, t8, t9⟩ := ten_cells HNz.out
        go_wp2_with fail
        refine bodyPost_ret (v := valO (nodeP 12 [] [n] X.pos) (.slice (some ⟨wu.heap.size, 0, none⟩) 1 1)) (by simp [results, Tryz.results176, go_sem, r0, r1, r2, r3, r4, r5, r6, r7, r8, r9, N.kind, N.text, N.val, N.flag, N.kids, N.spot, V.zero, V.kind, V.num, V.str]) rfl ?_
        exact HE.out
  | true =>
    have hk1 := hT.next HP8.out.lt (by rw [HXX.out]; simp at h1; omega)
    have hk2 := hT.next hk1
    have hlen : 1 < T.length - k := by omega
    have hc1 := HP8.out.cap1
    have hc2 := HP8.out.cap2
    obtain ⟨p0, -, -, -⟩ := HP8.out.facts
    obtain ⟨q0, q1, -, -⟩ := HP8.out.cell (k + 1) hk1
    have Hz := Lib.hid (hd_tkAt T (k + 1) hk1)
    rw [show (k + 1) * 4 = k * 4 + 4 by omega] at q0 q1
    generalize tkAt T (k + 1) = Z at *
    cases h2 : ((Z.kind : Int) == 5) with
    | false =>
      have HR8 := Lib.hid (HRs.out)
      rw [if_neg (by unfold setsT; rw [drop_tail, Hz.out]; simp at h2 ⊢; intro h h3; omega)] at HR8
      clear HRs
      go_wp2_with fail
      clear c0 hlen hc1 hc2 p0 q0 q1
      have hin : pBin f 1 o (T.drop (k)) ≠ .out := fun e => HNe.out (by rw [← HR8.out, pEnd, e]; rfl)
      have HI := Lib.hid (x_expr hT hf HP8.out hin)
      clear hin
      go_wp2_with fail
      refine HI.out.mono ?_
      rintro e wu (⟨c, p, hr, rfl, hF⟩ | ⟨n, lv, k', hr, rfl, hP, hF, hO⟩)
      · have HQ := Lib.hid (show R = .bad c p by rw [← HR8.out, pEnd, PR.bind_bad hr])
        have HFu := Lib.hid (HF8.out.trans hF)
        clear hr hF
        go_wp2_with fail
        exact ⟨rfl, .inl ⟨c, p, HQ.out, rfl, HFu.out⟩⟩
      · obtain ⟨A, cA, rfl⟩ := hO.lvs
        have HRx := Lib.hid (HR8.out)
        rw [pEnd, PR.bind_ok hr] at HRx
        have hzu := hF.size
        have hal := p_al wu (.cells #[.int .i64 n.kind, .string ⟨n.text.toArray⟩, .int .i64 n.val.kind, .int .i64 n.val.num, .string ⟨n.val.str.toArray⟩, .slice none 0 0, .slice none 0 0, .bool n.flag, .slice A n.kids.length cA, .int .i64 n.spot] 29)
        have hBu := HN8.out.fr hF (by omega)
        have HPv := Lib.hid (hP.below hal)
        have HFv := Lib.hid ((HF8.out.trans hF).below hal)
        have HEv := Lib.hid ((HE8.out.fr hF (by omega)).below hal)
        have HNv := Lib.hid (hBu.below hal)
        have HKv := Lib.hid (KidRow.lit1 (ok := fun b => w8.heap.size ≤ b) hO (fun b _ h => h) (by omega) #[.int .i64 n.kind, .string ⟨n.text.toArray⟩, .int .i64 n.val.kind, .int .i64 n.val.num, .string ⟨n.val.str.toArray⟩, .slice none 0 0, .slice none 0 0, .bool n.flag, .slice A n.kids.length cA, .int .i64 n.spot] rfl)
        have hla := HN8.out.lt
        have hln := hBu.lt
        have x8 : ∀ X, (wu.alloc X).cell? ⟨w1.heap.size + 1, 8, none⟩ = some (.slice none 0 0) := fun X => (hBu.below (p_al wu X)).cell 8 rfl
        have l8 : ∀ X, (wu.alloc X).frozen? ⟨w1.heap.size + 1, 8, none⟩ = false := fun X => (hBu.below (p_al wu X)).melt 8
        have hset : Fr (fun b => w1.heap.size + 1 = b) (wu.alloc (.cells #[.int .i64 n.kind, .string ⟨n.text.toArray⟩, .int .i64 n.val.kind, .int .i64 n.val.num, .string ⟨n.val.str.toArray⟩, .slice none 0 0, .slice none 0 0, .bool n.flag, .slice A n.kids.length cA, .int .i64 n.spot] 29)) ((wu.alloc (.cells #[.int .i64 n.kind, .string ⟨n.text.toArray⟩, .int .i64 n.val.kind, .int .i64 n.val.num, .string ⟨n.val.str.toArray⟩, .slice none 0 0, .slice none 0 0, .bool n.flag, .slice A n.kids.length cA, .int .i64 n.spot] 29)).setCell ⟨w1.heap.size + 1, 8, none⟩ (.slice (some ⟨wu.heap.size, 0, none⟩) 1 1)) := (Fr.refl _ _).set1 _ 8 rfl _
        have HPx := Lib.hid (HPv.out.fr hset (by omega) (by omega))
        have HFx := Lib.hid (HFv.out.past hset (fun b _ h => by omega))
        have HEx := Lib.hid (HEv.out.fr hset (by omega))
        have hbx := HNv.out.set 8 (.slice (some ⟨wu.heap.size, 0, none⟩) 1 1)
        simp only [List.setIfInBounds_toArray, List.set_cons_zero, List.set_cons_succ] at hbx
        have HNx := Lib.hid hbx
        have HKx := Lib.hid (HKv.out.fr hset (fun b _ h1 h2 => by omega))
        clear hr hP hF hO hal hBu hln hset hbx HPv HFv HEv HNv HKv HI HP8 HF8 HE8 HN8
        go_wp2_with fail
        generalize ((wu.alloc (.cells #[.int .i64 n.kind, .string ⟨n.text.toArray⟩, .int .i64 n.val.kind, .int .i64 n.val.num, .string ⟨n.val.str.toArray⟩, .slice none 0 0, .slice none 0 0, .bool n.flag, .slice A n.kids.length cA, .int .i64 n.spot] 29)).setCell ⟨w1.heap.size + 1, 8, none⟩ (.slice (some ⟨wu.heap.size, 0, none⟩) 1 1)) = wx at *
        clear x8 l8
        cases hm : isT [59] (T.drop (k')) with
        | false =>
          have HQ := Lib.hid (show R = .bad 170 (tkAt T (k')).pos by rw [← HRx.out, mustT, if_neg (by rw [hm]; simp), hd_tkAt T (k') HPx.out.lt]; rfl)
          refine (p_must_no HPx.out [59] hm).mono ?_
          rintro e wz ⟨rfl, hb⟩
          have HFz := Lib.hid (HFx.out.below hb)
          clear hb
          go_wp2_with fail
          exact ⟨rfl, .inl ⟨_, _, HQ.out, rfl, HFz.out⟩⟩
        | true =>
          have HQ := Lib.hid (show R = .ok (nodeP 12 [] [n] X.pos) (T.drop ((k') + 1)) by rw [← HRx.out, mustT, if_pos hm, drop_tail]; rfl)
          refine (p_must_yes hT HPx.out [59] hm).mono ?_
          rintro e wz ⟨rfl, hP, hF⟩
          have hlS := HNx.out.lt
          have hOz : OwN (fun b => w.heap.size + 1 ≤ b) wz (cellsN (nodeP 12 [] [n] X.pos) (.slice (some ⟨wu.heap.size, 0, none⟩) 1 1)) (nodeP 12 [] [n] X.pos) := OwN.of (by constructor <;> simp [N.kind]) (by have := Hat.out; constructor <;> simp [N.spot] <;> omega) (by simp [N.text]) ⟨by constructor <;> simp [V.kind, V.zero, N.val], by constructor <;> simp [V.num, V.zero, N.val], by simp [V.str, V.zero, N.val], rfl, rfl⟩ (by simp [N.kids]) ((HKx.out.fr hF (fun b _ h1 h2 => by omega)).imp (fun b _ h => by omega))
          have HE := Lib.hid (EndN.ret hlg hlt HQ.out hP (HFx.out.trans hF) hOz (show w.heap.size ≤ w.heap.size by omega) (by omega))
          have HEz := Lib.hid (HEx.out.fr hF (by omega))
          have HNz := Lib.hid (HNx.out.fr hF (by omega))
          clear hP hF hOz
          obtain ⟨r0, r1, r2, r3, r4, r5, r6, r7, r8, r9⟩ := ten_cells HEz.out
          obtain ⟨m0, m1, m2, m3, m4, m5, m6, m7, m8, m9⟩ := ten_melt HEz.out
          obtain ⟨t0, t1, t2, t3, t4, t5, t6, t7, t8, t9⟩ := ten_cells HNz.out
          go_wp2_with fail
          refine bodyPost_ret (v := valO (nodeP 12 [] [n] X.pos) (.slice (some ⟨wu.heap.size, 0, none⟩) 1 1)) (by simp [results, Tryz.results176, go_sem, r0, r1, r2, r3, r4, r5, r6, r7, r8, r9, N.kind, N.text, N.val, N.flag, N.kids, N.spot, V.zero, V.kind, V.num, V.str]) rfl ?_
          exact HE.out
    | true =>
      cases h3 : (Z.text == [61]) with
      | false =>
        have HR8 := Lib.hid (HRs.out)
        rw [if_neg (by unfold setsT; rw [drop_tail, Hz.out]; simp at h3 ⊢; intro h h4 h5; exact absurd h5 h3)] at HR8
        clear HRs
        go_wp2_with fail
        clear c0 hlen hc1 hc2 p0 q0 q1
        have hin : pBin f 1 o (T.drop (k)) ≠ .out := fun e => HNe.out (by rw [← HR8.out, pEnd, e]; rfl)
        have HI := Lib.hid (x_expr hT hf HP8.out hin)
        clear hin
        go_wp2_with fail
        refine HI.out.mono ?_
        rintro e wu (⟨c, p, hr, rfl, hF⟩ | ⟨n, lv, k', hr, rfl, hP, hF, hO⟩)
        · have HQ := Lib.hid (show R = .bad c p by rw [← HR8.out, pEnd, PR.bind_bad hr])
          have HFu := Lib.hid (HF8.out.trans hF)
          clear hr hF
          go_wp2_with fail
          exact ⟨rfl, .inl ⟨c, p, HQ.out, rfl, HFu.out⟩⟩
        · obtain ⟨A, cA, rfl⟩ := hO.lvs
          have HRx := Lib.hid (HR8.out)
          rw [pEnd, PR.bind_ok hr] at HRx
          have hzu := hF.size
          have hal := p_al wu (.cells #[.int .i64 n.kind, .string ⟨n.text.toArray⟩, .int .i64 n.val.kind, .int .i64 n.val.num, .string ⟨n.val.str.toArray⟩, .slice none 0 0, .slice none 0 0, .bool n.flag, .slice A n.kids.length cA, .int .i64 n.spot] 29)
          have hBu := HN8.out.fr hF (by omega)
          have HPv := Lib.hid (hP.below hal)
          have HFv := Lib.hid ((HF8.out.trans hF).below hal)
          have HEv := Lib.hid ((HE8.out.fr hF (by omega)).below hal)
          have HNv := Lib.hid (hBu.below hal)
          have HKv := Lib.hid (KidRow.lit1 (ok := fun b => w8.heap.size ≤ b) hO (fun b _ h => h) (by omega) #[.int .i64 n.kind, .string ⟨n.text.toArray⟩, .int .i64 n.val.kind, .int .i64 n.val.num, .string ⟨n.val.str.toArray⟩, .slice none 0 0, .slice none 0 0, .bool n.flag, .slice A n.kids.length cA, .int .i64 n.spot] rfl)
          have hla := HN8.out.lt
          have hln := hBu.lt
          have x8 : ∀ X, (wu.alloc X).cell? ⟨w1.heap.size + 1, 8, none⟩ = some (.slice none 0 0) := fun X => (hBu.below (p_al wu X)).cell 8 rfl
          have l8 : ∀ X, (wu.alloc X).frozen? ⟨w1.heap.size + 1, 8, none⟩ = false := fun X => (hBu.below (p_al wu X)).melt 8
          have hset : Fr (fun b => w1.heap.size + 1 = b) (wu.alloc (.cells #[.int .i64 n.kind, .string ⟨n.text.toArray⟩, .int .i64 n.val.kind, .int .i64 n.val.num, .string ⟨n.val.str.toArray⟩, .slice none 0 0, .slice none 0 0, .bool n.flag, .slice A n.kids.length cA, .int .i64 n.spot] 29)) ((wu.alloc (.cells #[.int .i64 n.kind, .string ⟨n.text.toArray⟩, .int .i64 n.val.kind, .int .i64 n.val.num, .string ⟨n.val.str.toArray⟩, .slice none 0 0, .slice none 0 0, .bool n.flag, .slice A n.kids.length cA, .int .i64 n.spot] 29)).setCell ⟨w1.heap.size + 1, 8, none⟩ (.slice (some ⟨wu.heap.size, 0, none⟩) 1 1)) := (Fr.refl _ _).set1 _ 8 rfl _
          have HPx := Lib.hid (HPv.out.fr hset (by omega) (by omega))
          have HFx := Lib.hid (HFv.out.past hset (fun b _ h => by omega))
          have HEx := Lib.hid (HEv.out.fr hset (by omega))
          have hbx := HNv.out.set 8 (.slice (some ⟨wu.heap.size, 0, none⟩) 1 1)
          simp only [List.setIfInBounds_toArray, List.set_cons_zero, List.set_cons_succ] at hbx
          have HNx := Lib.hid hbx
          have HKx := Lib.hid (HKv.out.fr hset (fun b _ h1 h2 => by omega))
          clear hr hP hF hO hal hBu hln hset hbx HPv HFv HEv HNv HKv HI HP8 HF8 HE8 HN8
          go_wp2_with fail
          generalize ((wu.alloc (.cells #[.int .i64 n.kind, .string ⟨n.text.toArray⟩, .int .i64 n.val.kind, .int .i64 n.val.num, .string ⟨n.val.str.toArray⟩, .slice none 0 0, .slice none 0 0, .bool n.flag, .slice A n.kids.length cA, .int .i64 n.spot] 29)).setCell ⟨w1.heap.size + 1, 8, none⟩ (.slice (some ⟨wu.heap.size, 0, none⟩) 1 1)) = wx at *
          clear x8 l8
          cases hm : isT [59] (T.drop (k')) with
          | false =>
            have HQ := Lib.hid (show R = .bad 170 (tkAt T (k')).pos by rw [← HRx.out, mustT, if_neg (by rw [hm]; simp), hd_tkAt T (k') HPx.out.lt]; rfl)
            refine (p_must_no HPx.out [59] hm).mono ?_
            rintro e wz ⟨rfl, hb⟩
            have HFz := Lib.hid (HFx.out.below hb)
            clear hb
            go_wp2_with fail
            exact ⟨rfl, .inl ⟨_, _, HQ.out, rfl, HFz.out⟩⟩
          | true =>
            have HQ := Lib.hid (show R = .ok (nodeP 12 [] [n] X.pos) (T.drop ((k') + 1)) by rw [← HRx.out, mustT, if_pos hm, drop_tail]; rfl)
            refine (p_must_yes hT HPx.out [59] hm).mono ?_
            rintro e wz ⟨rfl, hP, hF⟩
            have hlS := HNx.out.lt
            have hOz : OwN (fun b => w.heap.size + 1 ≤ b) wz (cellsN (nodeP 12 [] [n] X.pos) (.slice (some ⟨wu.heap.size, 0, none⟩) 1 1)) (nodeP 12 [] [n] X.pos) := OwN.of (by constructor <;> simp [N.kind]) (by have := Hat.out; constructor <;> simp [N.spot] <;> omega) (by simp [N.text]) ⟨by constructor <;> simp [V.kind, V.zero, N.val], by constructor <;> simp [V.num, V.zero, N.val], by simp [V.str, V.zero, N.val], rfl, rfl⟩ (by simp [N.kids]) ((HKx.out.fr hF (fun b _ h1 h2 => by omega)).imp (fun b _ h => by omega))
            have HE := Lib.hid (EndN.ret hlg hlt HQ.out hP (HFx.out.trans hF) hOz (show w.heap.size ≤ w.heap.size by omega) (by omega))
            have HEz := Lib.hid (HEx.out.fr hF (by omega))
            have HNz := Lib.hid (HNx.out.fr hF (by omega))
            clear hP hF hOz
            obtain ⟨r0, r1, r2, r3, r4, r5, r6, r7, r8, r9⟩ := ten_cells HEz.out
            obtain ⟨m0, m1, m2, m3, m4, m5, m6, m7, m8, m9⟩ := ten_melt HEz.out
            obtain ⟨t0, t1, t2, t3, t4, t5, t6, t7, t8, t9⟩ := ten_cells HNz.out
            go_wp2_with fail
            refine bodyPost_ret (v := valO (nodeP 12 [] [n] X.pos) (.slice (some ⟨wu.heap.size, 0, none⟩) 1 1)) (by simp [results, Tryz.results176, go_sem, r0, r1, r2, r3, r4, r5, r6, r7, r8, r9, N.kind, N.text, N.val, N.flag, N.kids, N.spot, V.zero, V.kind, V.num, V.str]) rfl ?_
            exact HE.out
      | true =>
        have HR8 := Lib.hid (HRs.out)
        rw [if_pos (by unfold setsT; rw [drop_tail, hkT, Hz.out]; simp at h1 h2 h3 ⊢; exact ⟨by omega, by omega, h3⟩), drop_tail] at HR8
        have hk2 := hk2 (by simp at h2; omega)
        clear HRs
        have hset : Fr (fun b => w1.heap.size + 1 = b) w8 (w8.setCell ⟨w1.heap.size + 1, 0, none⟩ (.int .i64 6)) := ((Fr.refl _ w8).set1 _ 0 rfl _)
        have hlN := HN8.out.lt
        have HPa := Lib.hid (HP8.out.fr hset (by omega) (by omega))
        have HFa := Lib.hid (HF8.out.past hset (fun b _ h => by omega))
        have HEa := Lib.hid (HE8.out.fr hset (by omega))
        have hbx := (HN8.out.set 0 (.int .i64 6))
        simp only [List.setIfInBounds_toArray, List.set_cons_zero, List.set_cons_succ] at hbx
        have HNa := Lib.hid hbx
        have hza : w8.heap.size = (w8.setCell ⟨w1.heap.size + 1, 0, none⟩ (.int .i64 6)).heap.size := by simp [World.setCell]
        clear hset hbx
        have x0 := HN8.out.cell 0 rfl
        have l0 := HN8.out.melt 0
        clear HP8 HF8 HE8 HN8
        clear hlN
        go_wp2_with fail
        generalize (w8.setCell ⟨w1.heap.size + 1, 0, none⟩ (.int .i64 6)) = wa at *
        clear x0 l0
        clear c0 hlen hc1 hc2 p0 q0 q1
        refine (p_next HPa.out hk1).mono ?_
        rintro e wb ⟨rfl, hP, hF⟩
        rw [HXX.out]
        have HPb := Lib.hid hP
        have HFb := Lib.hid (HFa.out.trans hF)
        have HEb := Lib.hid (HEa.out.fr hF (by omega))
        have HNb := Lib.hid (HNa.out.fr hF (by omega))
        have hzb := hF.size
        have hln := HNb.out.lt
        clear hP hF HPa HFa HEa HNa
        have hf1 := tok_f1 X
        have hset : Fr (fun b => w1.heap.size + 1 = b) wb (wb.setCell ⟨w1.heap.size + 1, 1, none⟩ (.string ⟨X.text.toArray⟩)) := ((Fr.refl _ wb).set1 _ 1 rfl _)
        have hlN := HNb.out.lt
        have HPc := Lib.hid (HPb.out.fr hset (by omega) (by omega))
        have HFc := Lib.hid (HFb.out.past hset (fun b _ h => by omega))
        have HEc := Lib.hid (HEb.out.fr hset (by omega))
        have hbx := (HNb.out.set 1 (.string ⟨X.text.toArray⟩))
        simp only [List.setIfInBounds_toArray, List.set_cons_zero, List.set_cons_succ] at hbx
        have HNc := Lib.hid hbx
        have hzc : wb.heap.size = (wb.setCell ⟨w1.heap.size + 1, 1, none⟩ (.string ⟨X.text.toArray⟩)).heap.size := by simp [World.setCell]
        clear hset hbx
        have x1 := HNb.out.cell 1 rfl
        have l1 := HNb.out.melt 1
        clear HPb HFb HEb HNb
        clear hlN
        go_wp2_with fail
        generalize (wb.setCell ⟨w1.heap.size + 1, 1, none⟩ (.string ⟨X.text.toArray⟩)) = wc at *
        clear x1 l1
        clear hf1
        refine (p_next HPc.out hk2).mono ?_
        rintro e wd ⟨rfl, hP, hF⟩
        have HPd := Lib.hid hP
        have HFd := Lib.hid (HFc.out.trans hF)
        have HEd := Lib.hid (HEc.out.fr hF (by omega))
        have HNd := Lib.hid (HNc.out.fr hF (by omega))
        have hzd := hF.size
        have hln := HNd.out.lt
        clear hP hF HPc HFc HEc HNc
        have HRd := Lib.hid HR8.out
        go_wp2_with fail
        have hin : pBin f 1 o (T.drop (k + 1 + 1)) ≠ .out := fun e => HNe.out (by rw [← HRd.out, pEnd, e]; rfl)
        have HI := Lib.hid (x_expr hT hf HPd.out hin)
        clear hin
        go_wp2_with fail
        refine HI.out.mono ?_
        rintro e wu (⟨c, p, hr, rfl, hF⟩ | ⟨n, lv, k', hr, rfl, hP, hF, hO⟩)
        · have HQ := Lib.hid (show R = .bad c p by rw [← HRd.out, pEnd, PR.bind_bad hr])
          have HFu := Lib.hid (HFd.out.trans hF)
          clear hr hF
          go_wp2_with fail
          exact ⟨rfl, .inl ⟨c, p, HQ.out, rfl, HFu.out⟩⟩
        · obtain ⟨A, cA, rfl⟩ := hO.lvs
          have HRx := Lib.hid (HRd.out)
          rw [pEnd, PR.bind_ok hr] at HRx
          have hzu := hF.size
          have hal := p_al wu (.cells #[.int .i64 n.kind, .string ⟨n.text.toArray⟩, .int .i64 n.val.kind, .int .i64 n.val.num, .string ⟨n.val.str.toArray⟩, .slice none 0 0, .slice none 0 0, .bool n.flag, .slice A n.kids.length cA, .int .i64 n.spot] 29)
          have hBu := HNd.out.fr hF (by omega)
          have HPv := Lib.hid (hP.below hal)
          have HFv := Lib.hid ((HFd.out.trans hF).below hal)
          have HEv := Lib.hid ((HEd.out.fr hF (by omega)).below hal)
          have HNv := Lib.hid (hBu.below hal)
          have HKv := Lib.hid (KidRow.lit1 (ok := fun b => wd.heap.size ≤ b) hO (fun b _ h => h) (by omega) #[.int .i64 n.kind, .string ⟨n.text.toArray⟩, .int .i64 n.val.kind, .int .i64 n.val.num, .string ⟨n.val.str.toArray⟩, .slice none 0 0, .slice none 0 0, .bool n.flag, .slice A n.kids.length cA, .int .i64 n.spot] rfl)
          have hla := HNd.out.lt
          have hln := hBu.lt
          have x8 : ∀ X, (wu.alloc X).cell? ⟨w1.heap.size + 1, 8, none⟩ = some (.slice none 0 0) := fun X => (hBu.below (p_al wu X)).cell 8 rfl
          have l8 : ∀ X, (wu.alloc X).frozen? ⟨w1.heap.size + 1, 8, none⟩ = false := fun X => (hBu.below (p_al wu X)).melt 8
          have hset : Fr (fun b => w1.heap.size + 1 = b) (wu.alloc (.cells #[.int .i64 n.kind, .string ⟨n.text.toArray⟩, .int .i64 n.val.kind, .int .i64 n.val.num, .string ⟨n.val.str.toArray⟩, .slice none 0 0, .slice none 0 0, .bool n.flag, .slice A n.kids.length cA, .int .i64 n.spot] 29)) ((wu.alloc (.cells #[.int .i64 n.kind, .string ⟨n.text.toArray⟩, .int .i64 n.val.kind, .int .i64 n.val.num, .string ⟨n.val.str.toArray⟩, .slice none 0 0, .slice none 0 0, .bool n.flag, .slice A n.kids.length cA, .int .i64 n.spot] 29)).setCell ⟨w1.heap.size + 1, 8, none⟩ (.slice (some ⟨wu.heap.size, 0, none⟩) 1 1)) := (Fr.refl _ _).set1 _ 8 rfl _
          have HPx := Lib.hid (HPv.out.fr hset (by omega) (by omega))
          have HFx := Lib.hid (HFv.out.past hset (fun b _ h => by omega))
          have HEx := Lib.hid (HEv.out.fr hset (by omega))
          have hbx := HNv.out.set 8 (.slice (some ⟨wu.heap.size, 0, none⟩) 1 1)
          simp only [List.setIfInBounds_toArray, List.set_cons_zero, List.set_cons_succ] at hbx
          have HNx := Lib.hid hbx
          have HKx := Lib.hid (HKv.out.fr hset (fun b _ h1 h2 => by omega))
          clear hr hP hF hO hal hBu hln hset hbx HPv HFv HEv HNv HKv HI HPd HFd HEd HNd
          go_wp2_with fail
          generalize ((wu.alloc (.cells #[.int .i64 n.kind, .string ⟨n.text.toArray⟩, .int .i64 n.val.kind, .int .i64 n.val.num, .string ⟨n.val.str.toArray⟩, .slice none 0 0, .slice none 0 0, .bool n.flag, .slice A n.kids.length cA, .int .i64 n.spot] 29)).setCell ⟨w1.heap.size + 1, 8, none⟩ (.slice (some ⟨wu.heap.size, 0, none⟩) 1 1)) = wx at *
          clear x8 l8
          cases hm : isT [59] (T.drop (k')) with
          | false =>
            have HQ := Lib.hid (show R = .bad 170 (tkAt T (k')).pos by rw [← HRx.out, mustT, if_neg (by rw [hm]; simp), hd_tkAt T (k') HPx.out.lt]; rfl)
            refine (p_must_no HPx.out [59] hm).mono ?_
            rintro e wz ⟨rfl, hb⟩
            have HFz := Lib.hid (HFx.out.below hb)
            clear hb
            go_wp2_with fail
            exact ⟨rfl, .inl ⟨_, _, HQ.out, rfl, HFz.out⟩⟩
          | true =>
            have HQ := Lib.hid (show R = .ok (nodeP 6 X.text [n] X.pos) (T.drop ((k') + 1)) by rw [← HRx.out, mustT, if_pos hm, drop_tail]; rfl)
            refine (p_must_yes hT HPx.out [59] hm).mono ?_
            rintro e wz ⟨rfl, hP, hF⟩
            have hlS := HNx.out.lt
            have hOz : OwN (fun b => w.heap.size + 1 ≤ b) wz (cellsN (nodeP 6 X.text [n] X.pos) (.slice (some ⟨wu.heap.size, 0, none⟩) 1 1)) (nodeP 6 X.text [n] X.pos) := OwN.of (by constructor <;> simp [N.kind]) (by have := Hat.out; constructor <;> simp [N.spot] <;> omega) (by have := Hat.out; simp [N.text]; omega) ⟨by constructor <;> simp [V.kind, V.zero, N.val], by constructor <;> simp [V.num, V.zero, N.val], by simp [V.str, V.zero, N.val], rfl, rfl⟩ (by simp [N.kids]) ((HKx.out.fr hF (fun b _ h1 h2 => by omega)).imp (fun b _ h => by omega))
            have HE := Lib.hid (EndN.ret hlg hlt HQ.out hP (HFx.out.trans hF) hOz (show w.heap.size ≤ w.heap.size by omega) (by omega))
            have HEz := Lib.hid (HEx.out.fr hF (by omega))
            have HNz := Lib.hid (HNx.out.fr hF (by omega))
            clear hP hF hOz
            obtain ⟨r0, r1, r2, r3, r4, r5, r6, r7, r8, r9⟩ := ten_cells HEz.out
            obtain ⟨m0, m1, m2, m3, m4, m5, m6, m7, m8, m9⟩ := ten_melt HEz.out
            obtain ⟨t0, t1, t2, t3, t4, t5, t6, t7, t8, t9⟩ := ten_cells HNz.out
            go_wp2_with fail
            refine bodyPost_ret (v := valO (nodeP 6 X.text [n] X.pos) (.slice (some ⟨wu.heap.size, 0, none⟩) 1 1)) (by simp [results, Tryz.results176, go_sem, r0, r1, r2, r3, r4, r5, r6, r7, r8, r9, N.kind, N.text, N.val, N.flag, N.kids, N.spot, V.zero, V.kind, V.num, V.str]) rfl ?_
            exact HE.out
end
end Go.Proofs.YtlnhhffhmeekoaaGreatDoor
namespace Go.Proofs.YtlnhhffhmeekoaaGreatDoor
open Go.RowKit Go.IntWalk
section
variable {T : List Tok} {gt cap g k o f : Nat} {w : World}
theorem knotS (hT : TkOk T) : ∀ f, f ≤ 200000 → KnotS T gt cap g f := by
  intro f
  induction f using Nat.strongRecOn with
  | ind f ih =>
  intro hf
  have hih : ∀ j, j < f → KnotS T gt cap g j := fun j hj => ih j hj (by omega)
  cases f with
  | zero => exact ⟨fun o k w _ hne => absurd (by simp only [pBlock]) hne, fun o k w _ hne => absurd (by simp only [pStmt]) hne, fun o k w _ _ hne => absurd (by simp only [pIf]) hne⟩
  | succ f =>
  exact ⟨fun o k w h hne => k_block hT (by omega) (fun j hj => hih j (by omega)) h hne, fun o k w h hne => k_stmt hT (by omega) (hih f (by omega)) h hne, fun o k w h h0 hne => k_choice hT (by omega) (hih f (by omega)) h h0 hne⟩
theorem x_block (hT : TkOk T) (hf : f ≤ 200000) (h : PSt T gt cap g k o w) (hne : pBlock f o (T.drop k) ≠ .out) :
    Calls Tryz.prog 129 #[pPtr g] w (EndN T gt cap g o w (pBlock f o (T.drop k))) := (knotS hT f hf).block o k w h hne
end
end Go.Proofs.YtlnhhffhmeekoaaGreatDoor
