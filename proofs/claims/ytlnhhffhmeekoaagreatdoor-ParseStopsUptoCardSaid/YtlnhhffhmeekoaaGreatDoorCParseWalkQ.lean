/- The parser's walks: choice. -/
import Derived.Test.YtlnhhffhmeekoaaGreatDoorGParF
set_option linter.unusedVariables false
set_option linter.unusedSimpArgs false
namespace Go.Proofs.YtlnhhffhmeekoaaGreatDoor
open Go.RowKit Go.IntWalk
section
variable {T : List Tok} {gt cap g k o f : Nat} {w : World}
set_option maxRecDepth 20000 in
set_option maxHeartbeats 2000000 in
theorem k_choice (hT : TkOk T) (hf : f ≤ 200000) (ih : KnotS T gt cap g f) (h : PSt T gt cap g k o w) (h0 : (tkAt T k).kind ≠ 0) (hne : pIf (f + 1) o (T.drop k) ≠ .out) :
    Calls Tryz.prog 210 #[pPtr g] w (EndN T gt cap g o w (pIf (f + 1) o (T.drop k))) := by
  have hk1 := hT.next h.lt h0
  have hat := hT.at h.lt
  have hkT := hd_tkAt T k h.lt
  generalize hR : pIf (f + 1) o (T.drop k) = R at *
  rw [pIf, drop_tail, hkT] at hR
  generalize hXX : tkAt T k = X at *
  have hlg := h.box.lt
  have hlt := h.ltt
  have HRR := Lib.hid hR
  have HXX := Lib.hid hXX
  have HNe := Lib.hid hne
  have Hih := Lib.hid ih
  have Hat := Lib.hid hat
  have hal := p_al w (.cells zNode 29)
  have HE1 := Lib.hid (Box.new w zNode 29)
  have HS1 := Lib.hid hal
  have H1 := Lib.hid (h.below hal)
  clear h hR hne ih hat hXX hal h0
  go_enter Tryz.func210, Tryz.ntmps210
  go_wp2_with fail
  refine (p_next H1.out hk1).mono ?_
  rintro e w1 ⟨rfl, hP, hF⟩
  rw [HXX.out]
  have hf3 := tok_f3 X
  have hal := p_al w1 (.cells #[.int .i64 7, .string ⟨#[]⟩, .int .i64 0, .int .i64 0, .string ⟨#[]⟩, .slice none 0 0, .slice none 0 0, .bool false, .slice none 0 0, .int .i64 (X.pos : Int)] 29)
  have HP2 := Lib.hid (hP.below hal)
  have HF2 := Lib.hid (((Fr.of_below (ok := fun b => g = b) HS1.out).trans hF).below hal)
  have HE2 := Lib.hid ((HE1.out.fr hF (by omega)).below hal)
  have HN2 := Lib.hid (Box.new w1 #[.int .i64 7, .string ⟨#[]⟩, .int .i64 0, .int .i64 0, .string ⟨#[]⟩, .slice none 0 0, .slice none 0 0, .bool false, .slice none 0 0, .int .i64 (X.pos : Int)] 29)
  have hl1 : w.heap.size < w1.heap.size := (HE1.out.fr hF (by omega)).lt
  have hz2 : w1.heap.size + 1 = (w1.alloc (.cells #[.int .i64 7, .string ⟨#[]⟩, .int .i64 0, .int .i64 0, .string ⟨#[]⟩, .slice none 0 0, .slice none 0 0, .bool false, .slice none 0 0, .int .i64 (X.pos : Int)] 29)).heap.size := by simp
  have hin : pCond f o (T.drop (k + 1)) ≠ .out := fun e => HNe.out (by rw [← HRR.out, e]; rfl)
  have HC := Lib.hid (k_cond hT hf HP2.out hin)
  clear hP hF hal HE1 HS1 H1 hin
  go_wp2_with fail
  generalize (w1.alloc (.cells #[.int .i64 7, .string ⟨#[]⟩, .int .i64 0, .int .i64 0, .string ⟨#[]⟩, .slice none 0 0, .slice none 0 0, .bool false, .slice none 0 0, .int .i64 (X.pos : Int)] 29)) = w2 at *
  clear hf3
  refine HC.out.mono ?_
  rintro e w3 (⟨c, p, hr, rfl, hF⟩ | ⟨nc, lv, k3, hr, rfl, hP, hF, hO⟩)
  · have HQ := Lib.hid (show R = .bad c p by rw [← HRR.out, PR.bind_bad hr])
    have HF3 := Lib.hid (HF2.out.trans hF)
    clear hr hF
    go_wp2_with fail
    exact ⟨rfl, .inl ⟨c, p, HQ.out, rfl, HF3.out⟩⟩
  · obtain ⟨A3, ca3, rfl⟩ := hO.lvs
    rw [PR.bind_ok hr] at HRR
    have hs3 := hF.size
    have HP3 := Lib.hid hP
    have HF3 := Lib.hid (HF2.out.trans hF)
    have HE3 := Lib.hid (HE2.out.fr hF (by omega))
    have HN3 := Lib.hid (HN2.out.fr hF (by omega))
    have HO3 := Lib.hid (hO.lt)
    have hin : pBlock f o (T.drop k3) ≠ .out := fun e => HNe.out (by rw [← HRR.out, e]; rfl)
    have HC3 := Lib.hid (Hih.out.block o k3 w3 hP hin)
    clear hr hP hF hO HP2 HF2 HE2 HN2 HC hin
    go_wp2_with fail
    refine HC3.out.mono ?_
    rintro e w4 (⟨c, p, hr, rfl, hF⟩ | ⟨nb, lv, k4, hr, rfl, hP, hF, hO⟩)
    · have HQ := Lib.hid (show R = .bad c p by rw [← HRR.out, PR.bind_bad hr])
      have HF4 := Lib.hid (HF3.out.trans hF)
      clear hr hF
      go_wp2_with fail
      exact ⟨rfl, .inl ⟨c, p, HQ.out, rfl, HF4.out⟩⟩
    · obtain ⟨A4, ca4, rfl⟩ := hO.lvs
      rw [PR.bind_ok hr] at HRR
      have hs4 := hF.size
      have hal := p_al w4 (.cells #[.int .i64 nc.kind, .string ⟨nc.text.toArray⟩, .int .i64 nc.val.kind, .int .i64 nc.val.num, .string ⟨nc.val.str.toArray⟩, .slice none 0 0, .slice none 0 0, .bool nc.flag, .slice A3 nc.kids.length ca3, .int .i64 nc.spot, .int .i64 nb.kind, .string ⟨nb.text.toArray⟩, .int .i64 nb.val.kind, .int .i64 nb.val.num, .string ⟨nb.val.str.toArray⟩, .slice none 0 0, .slice none 0 0, .bool nb.flag, .slice A4 nb.kids.length ca4, .int .i64 nb.spot] 29)
      have hB4 := HN3.out.fr hF (by omega)
      have HP5 := Lib.hid (hP.below hal)
      have HF5 := Lib.hid ((HF3.out.trans hF).below hal)
      have HE5 := Lib.hid ((HE3.out.fr hF (by omega)).below hal)
      have HN5 := Lib.hid (hB4.below hal)
      have HK5 := Lib.hid (KidRow.pair (ok := fun b => w2.heap.size ≤ b) (HO3.out.fr hF (fun b _ h1 h2 => by omega)) hO.lt (fun b h1 h2 => by omega) (fun b _ h => by omega) (fun b _ h => by omega) (by omega) #[.int .i64 nc.kind, .string ⟨nc.text.toArray⟩, .int .i64 nc.val.kind, .int .i64 nc.val.num, .string ⟨nc.val.str.toArray⟩, .slice none 0 0, .slice none 0 0, .bool nc.flag, .slice A3 nc.kids.length ca3, .int .i64 nc.spot, .int .i64 nb.kind, .string ⟨nb.text.toArray⟩, .int .i64 nb.val.kind, .int .i64 nb.val.num, .string ⟨nb.val.str.toArray⟩, .slice none 0 0, .slice none 0 0, .bool nb.flag, .slice A4 nb.kids.length ca4, .int .i64 nb.spot] rfl)
      have hln := hB4.lt
      have x8 : ∀ X, (w4.alloc X).cell? ⟨w1.heap.size, 8, none⟩ = some (.slice none 0 0) := fun X => (hB4.below (p_al w4 X)).cell 8 rfl
      have l8 : ∀ X, (w4.alloc X).frozen? ⟨w1.heap.size, 8, none⟩ = false := fun X => (hB4.below (p_al w4 X)).melt 8
      have hset : Fr (fun b => w1.heap.size = b) (w4.alloc (.cells #[.int .i64 nc.kind, .string ⟨nc.text.toArray⟩, .int .i64 nc.val.kind, .int .i64 nc.val.num, .string ⟨nc.val.str.toArray⟩, .slice none 0 0, .slice none 0 0, .bool nc.flag, .slice A3 nc.kids.length ca3, .int .i64 nc.spot, .int .i64 nb.kind, .string ⟨nb.text.toArray⟩, .int .i64 nb.val.kind, .int .i64 nb.val.num, .string ⟨nb.val.str.toArray⟩, .slice none 0 0, .slice none 0 0, .bool nb.flag, .slice A4 nb.kids.length ca4, .int .i64 nb.spot] 29)) ((w4.alloc (.cells #[.int .i64 nc.kind, .string ⟨nc.text.toArray⟩, .int .i64 nc.val.kind, .int .i64 nc.val.num, .string ⟨nc.val.str.toArray⟩, .slice none 0 0, .slice none 0 0, .bool nc.flag, .slice A3 nc.kids.length ca3, .int .i64 nc.spot, .int .i64 nb.kind, .string ⟨nb.text.toArray⟩, .int .i64 nb.val.kind, .int .i64 nb.val.num, .string ⟨nb.val.str.toArray⟩, .slice none 0 0, .slice none 0 0, .bool nb.flag, .slice A4 nb.kids.length ca4, .int .i64 nb.spot] 29)).setCell ⟨w1.heap.size, 8, none⟩ (.slice (some ⟨w4.heap.size, 0, none⟩) 2 2)) := (Fr.refl _ _).set1 _ 8 rfl _
      have HP6 := Lib.hid (HP5.out.fr hset (by omega) (by omega))
      have HF6 := Lib.hid (HF5.out.past hset (fun b hb h => by omega))
      have HE6 := Lib.hid (HE5.out.fr hset (by omega))
      have hbx := HN5.out.set 8 (.slice (some ⟨w4.heap.size, 0, none⟩) 2 2)
      simp only [List.setIfInBounds_toArray, List.set_cons_zero, List.set_cons_succ] at hbx
      have HN6 := Lib.hid hbx
      have HK6 := Lib.hid (HK5.out.fr hset (fun b _ h1 h2 => by omega))
      have hz6 : w4.heap.size + 1 = ((w4.alloc (.cells #[.int .i64 nc.kind, .string ⟨nc.text.toArray⟩, .int .i64 nc.val.kind, .int .i64 nc.val.num, .string ⟨nc.val.str.toArray⟩, .slice none 0 0, .slice none 0 0, .bool nc.flag, .slice A3 nc.kids.length ca3, .int .i64 nc.spot, .int .i64 nb.kind, .string ⟨nb.text.toArray⟩, .int .i64 nb.val.kind, .int .i64 nb.val.num, .string ⟨nb.val.str.toArray⟩, .slice none 0 0, .slice none 0 0, .bool nb.flag, .slice A4 nb.kids.length ca4, .int .i64 nb.spot] 29)).setCell ⟨w1.heap.size, 8, none⟩ (.slice (some ⟨w4.heap.size, 0, none⟩) 2 2)).heap.size := by simp [World.setCell]
      have hl6 := HN6.out.lt
      clear hr hP hF hO hal hB4 HP3 HF3 HE3 HN3 HO3 HC3 hln hset hbx HP5 HF5 HE5 HN5 HK5
      go_wp2_with fail
      generalize ((w4.alloc (.cells #[.int .i64 nc.kind, .string ⟨nc.text.toArray⟩, .int .i64 nc.val.kind, .int .i64 nc.val.num, .string ⟨nc.val.str.toArray⟩, .slice none 0 0, .slice none 0 0, .bool nc.flag, .slice A3 nc.kids.length ca3, .int .i64 nc.spot, .int .i64 nb.kind, .string ⟨nb.text.toArray⟩, .int .i64 nb.val.kind, .int .i64 nb.val.num, .string ⟨nb.val.str.toArray⟩, .slice none 0 0, .slice none 0 0, .bool nb.flag, .slice A4 nb.kids.length ca4, .int .i64 nb.spot] 29)).setCell ⟨w1.heap.size, 8, none⟩ (.slice (some ⟨w4.heap.size, 0, none⟩) 2 2)) = w6 at *
      clear x8 l8
      cases hi : isT [101, 108, 115, 101] (T.drop k4) with
      | false =>
        have HQ := Lib.hid (show R = .ok (nodeP 7 [] [nc, nb] X.pos) (T.drop k4) by rw [← HRR.out, if_neg (by rw [hi]; simp)])
        refine (p_take_no HP6.out [101, 108, 115, 101] hi).mono ?_
        rintro e w7 ⟨rfl, hb⟩
        have hO7 : OwN (fun b => w.heap.size + 1 ≤ b) w7 (cellsN (nodeP 7 [] [nc, nb] X.pos) (.slice (some ⟨w4.heap.size, 0, none⟩) 2 2)) (nodeP 7 [] [nc, nb] X.pos) :=
          OwN.of (by constructor <;> simp [N.kind]) (by have := Hat.out; constructor <;> simp [N.spot] <;> omega) (by simp [N.text]) ⟨by constructor <;> simp [V.kind, V.zero, N.val], by constructor <;> simp [V.num, V.zero, N.val], by simp [V.str, V.zero, N.val], rfl, rfl⟩ (by simp [N.kids]) ((HK6.out.below hb).imp (fun b _ h => by omega))
        have HE := Lib.hid (EndN.ret hlg hlt HQ.out (HP6.out.below hb) (HF6.out.below hb) hO7 (show w.heap.size ≤ w.heap.size by omega) (by omega))
        obtain ⟨r0, r1, r2, r3, r4, r5, r6, r7, r8, r9⟩ := ten_cells (HE6.out.below hb)
        obtain ⟨m0, m1, m2, m3, m4, m5, m6, m7, m8, m9⟩ := ten_melt (HE6.out.below hb)
        obtain ⟨t0, t1, t2, t3, t4, t5, t6, t7, t8, t9⟩ := ten_cells (HN6.out.below hb)
        clear hb hO7
        go_wp2_with fail
        refine bodyPost_ret (v := valO (nodeP 7 [] [nc, nb] X.pos) (.slice (some ⟨w4.heap.size, 0, none⟩) 2 2)) (by simp [results, Tryz.results210, go_sem, r0, r1, r2, r3, r4, r5, r6, r7, r8, r9, N.kind, N.text, N.val, N.flag, N.kids, N.spot, V.zero, V.kind, V.num, V.str]) rfl ?_
        exact HE.out
      | true =>
        refine (p_take_yes hT HP6.out [101, 108, 115, 101] hi).mono ?_
        rintro e w7 ⟨rfl, hP, hF⟩
        have HP7 := Lib.hid hP
        have HF7 := Lib.hid (HF6.out.trans hF)
        have HE7 := Lib.hid (HE6.out.fr hF (by omega))
        have HN7 := Lib.hid (HN6.out.fr hF (by omega))
        have HK7 := Lib.hid (HK6.out.fr hF (fun b _ h1 h2 => by omega))
        have hs7 := hF.size
        rw [if_pos hi, drop_tail] at HRR
        clear hP hF HP6 HF6 HE6 HN6 HK6 hi
        go_wp2_with fail
        cases hi2 : isT [105, 102] (T.drop (k4 + 1)) with
        | true =>
          have HQ := Lib.hid (show (pIf f o (T.drop (k4 + 1))).bind (fun x r => .ok (nodeP 7 [] [nc, nb, x] X.pos) r) = R by rw [← HRR.out, if_pos hi2])
          have hin : pIf f o (T.drop (k4 + 1)) ≠ .out := fun e => HNe.out (by rw [← HQ.out, e]; rfl)
          have hk0 : (tkAt T (k4 + 1)).kind ≠ 0 := by have h1 := isT_kind hi2; rwa [hd_tkAt T _ HP7.out.lt] at h1
          refine (p_is_at HP7.out [105, 102] true hi2).mono ?_
          rintro e w8 ⟨rfl, hb⟩
          have HP8 := Lib.hid (HP7.out.below hb)
          have HF8 := Lib.hid (HF7.out.below hb)
          have HE8 := Lib.hid (HE7.out.below hb)
          have HN8 := Lib.hid (HN7.out.below hb)
          have HK8 := Lib.hid ((KidRow.imp HK7.out (ok' := fun b => w2.heap.size ≤ b ∧ b < w7.heap.size) (fun b hb h => ⟨h, hb⟩)).below hb)
          have hz8 := hb.size
          have HC8 := Lib.hid (Hih.out.choice o (k4 + 1) w8.drew (HP8.out.same rfl) hk0 hin)
          clear hb hin HP7 HF7 HE7 HN7 HK7 hi2 HRR
          go_upto_region 6 with fail
          have hS0 : w8.drew.cell? ⟨w1.heap.size, 8, none⟩ = some (.slice (some ⟨w4.heap.size, 0, none⟩) 2 2) := (show Box w1.heap.size _ _ w8.drew from HN8.out).cell 8 rfl
          refine wp_region_pivot 7 (S := fun W => W.cell? ⟨w1.heap.size, 8, none⟩ = some (.slice (some ⟨w4.heap.size, 0, none⟩) 2 2)) (by kernel_rfl) ?_
          try simp only [Act.put, List.setIfInBounds_toArray, List.set_cons_zero, List.set_cons_succ]
          refine wpAnyP_take (i := 0) (v := ?vA0) rfl (by kernel_rfl) (by kernel_rfl) (by kernel_rfl) (by kernel_rfl) (fun _ _ _ h => h) (Or.inl ⟨by rfl, ?yA0⟩) (by exact hS0) ?rA0
          case yA0 => (intro W hSw; go_simp; try with_reducible rfl)
          try simp only [Act.put, List.setIfInBounds_toArray, List.set_cons_zero, List.set_cons_succ]
          refine wpAnyP_take (i := 1) (v := ?vA1) rfl (by kernel_rfl) (by kernel_rfl) (by kernel_rfl) (by kernel_rfl) (fun _ _ _ h => h) (Or.inl ⟨by rfl, ?yA1⟩) (by exact hS0) ?rA1
          case yA1 => (intro W hSw; go_simp; try with_reducible rfl)
          try simp only [Act.put, List.setIfInBounds_toArray, List.set_cons_zero, List.set_cons_succ]
          refine wpAnyP_take (i := 2) (v := ?vA2) rfl (by kernel_rfl) (by kernel_rfl) (by kernel_rfl) (by kernel_rfl) (fun _ _ _ h => h) (Or.inl ⟨by rfl, ?yA2⟩) (by exact hS0) ?rA2
          case yA2 => (intro W hSw; go_simp; try with_reducible rfl)
          try simp only [Act.put, List.setIfInBounds_toArray, List.set_cons_zero, List.set_cons_succ]
          refine wpAnyP_ready (rs := [3]) (by kernel_rfl) (by simp) ?_
          refine AllReadyP.cons rfl (fun K hK => ?_) AllReadyP.nil
          go_simp
          refine HC8.out.mono ?_
          rintro e w9 (⟨c, p, hr, rfl, hF⟩ | ⟨nx, lv, k9, hr, rfl, hP, hF, hO⟩)
          · have HQ2 := Lib.hid (show R = .bad c p by rw [← HQ.out, PR.bind_bad hr])
            exact ⟨rfl, .inl ⟨c, p, HQ2.out, rfl, HF8.out.drew.trans hF⟩⟩
          · obtain ⟨A9, ca9, rfl⟩ := hO.lvs
            have HQ2 := Lib.hid (show R = .ok (nodeP 7 [] [nc, nb, nx] X.pos) (T.drop k9) by rw [← HQ.out, PR.bind_ok hr])
            have HN9 := Lib.hid (Box.fr (show Box w1.heap.size _ _ w8.drew from HN8.out) hF (show ¬ g = w1.heap.size by omega))
            have HE9 := Lib.hid (Box.fr (show Box w.heap.size _ _ w8.drew from HE8.out) hF (show ¬ g = w.heap.size by omega))
            refine hK.out _ _ (.inr (.inr (HN9.out.cell 8 rfl))) ?_
            clear hK K
            try simp only [Act.put, List.setIfInBounds_toArray, List.set_cons_zero, List.set_cons_succ]
            have hs9 : w8.heap.size ≤ w9.heap.size := hF.size
            have HP9 := Lib.hid hP
            have HF9 := Lib.hid (HF8.out.drew.trans hF)
            have HK9 := Lib.hid (KidRow.fr ((KidRow.imp HK8.out (ok' := fun b => w2.heap.size ≤ b ∧ b < w8.heap.size) (fun b hb h => by omega)).below (Below.refl _ w8).drew) hF (fun b _ h1 h2 => by omega))
            have HO9 := Lib.hid (show OwN (fun b => w8.heap.size ≤ b) w9 (cellsN nx (.slice A9 nx.kids.length ca9)) nx from hO)
            clear hP hF hO hr HP8 HF8 HE8 HN8 HK8 HC8
            refine wpAnyP_ready (rs := [4]) (by kernel_rfl) (by simp) ?_
            refine AllReadyP.cons rfl (fun K hK => ?_) AllReadyP.nil
            go_simp
            refine hK.out _ _ (.inr (.inr (bcell (p_al w9 _) (HN9.out.cell 8 rfl)))) ?_
            clear hK K
            try simp only [Act.put, List.setIfInBounds_toArray, List.set_cons_zero, List.set_cons_succ]
            refine wpAnyP_ready (rs := [5]) (by kernel_rfl) (by simp) ?_
            refine AllReadyP.cons rfl (fun K hK => ?_) AllReadyP.nil
            rw [if_pos (by kernel_rfl)]
            refine opN_append (n := nx) (lvn := .slice A9 nx.kids.length ca9) _ _ _ rfl _ rfl rfl rfl HK9.out HO9.out (by omega) hs9 (by simp) ?_
            intro v1 w10 hK10 hF10
            have HN10 := Lib.hid (HN9.out.fr hF10 (fun h => by omega))
            have hS10 := HN10.out.cell 8 rfl
            refine hK.out _ _ (.inr (.inr hS10)) ?_
            clear hK K
            try simp only [Act.put, List.setIfInBounds_toArray, List.set_cons_zero, List.set_cons_succ]
            obtain ⟨A10, ca10, hv⟩ := hK10.lvs
            have hv : v1 = .slice A10 3 ca10 := hv
            subst hv
            have HE10 := Lib.hid (HE9.out.fr hF10 (fun h => by omega))
            have HP10 := Lib.hid (HP9.out.fr hF10 (fun h => by omega) (fun h => by omega))
            have HF10 := Lib.hid (HF9.out.past hF10 (fun b hb h => by omega))
            have HK10 := Lib.hid (show KidRow (fun b => w2.heap.size ≤ b) w10 (.slice A10 3 ca10) [nc, nb, nx] from hK10)
            clear hK10 hF10 HP9 HF9 HK9 HO9 HN9 HE9
            refine wpAnyP_take (i := 6) (v := ?vAh6) rfl (by kernel_rfl) (by kernel_rfl) (by kernel_rfl) (by kernel_rfl) (fun _ _ _ h => h) (Or.inl ⟨by rfl, ?yAh6⟩) (by exact hS10) ?rAh6
            case yAh6 => (intro W hSw; go_simp; try with_reducible rfl)
            try simp only [Act.put, List.setIfInBounds_toArray, List.set_cons_zero, List.set_cons_succ]
            clear hS10
            refine wpAnyP_ready (rs := [7]) (by kernel_rfl) (by simp) ?_
            refine AllReadyP.cons rfl (fun K hK => ?_) AllReadyP.nil
            have x8 := HN10.out.cell 8 rfl
            have l8 := HN10.out.melt 8
            go_simp
            have hset : Fr (fun b => w1.heap.size = b) w10 (w10.setCell ⟨w1.heap.size, 8, none⟩ (.slice A10 ([nc, nb] ++ [nx]).length ca10)) := (Fr.refl _ _).set1 _ 8 rfl _
            have hbx := HN10.out.set 8 (.slice A10 ([nc, nb] ++ [nx]).length ca10)
            simp only [List.setIfInBounds_toArray, List.set_cons_zero, List.set_cons_succ] at hbx
            have hlN := HN10.out.lt
            have hO11 : OwN (fun b => w.heap.size + 1 ≤ b) (w10.setCell ⟨w1.heap.size, 8, none⟩ (.slice A10 ([nc, nb] ++ [nx]).length ca10)) (cellsN (nodeP 7 [] [nc, nb, nx] X.pos) (.slice A10 3 ca10)) (nodeP 7 [] [nc, nb, nx] X.pos) :=
              OwN.of (by constructor <;> simp [N.kind]) (by have := Hat.out; constructor <;> simp [N.spot] <;> omega) (by simp [N.text]) ⟨by constructor <;> simp [V.kind, V.zero, N.val], by constructor <;> simp [V.num, V.zero, N.val], by simp [V.str, V.zero, N.val], rfl, rfl⟩ (by simp [N.kids]) ((HK10.out.fr hset (fun b _ h1 h2 => by omega)).imp (fun b _ h => by omega))
            have HX11 := Lib.hid (HE10.out.fr hset (by omega))
            have HE := Lib.hid (EndN.ret hlg hlt HQ2.out (HP10.out.fr hset (by omega) (by omega)) (HF10.out.past hset (fun b hb h => by omega)) hO11 (show w.heap.size ≤ w.heap.size by omega) (by omega))
            refine hK.out _ _ (.inr (.inl rfl)) ?_
            clear hK K
            try simp only [Act.put, List.setIfInBounds_toArray, List.set_cons_zero, List.set_cons_succ]
            refine wpAnyP_done (by kernel_rfl) ?_ _
            have HN11 := Lib.hid hbx
            clear hset hbx hO11 x8 l8
            generalize (w10.setCell ⟨w1.heap.size, 8, none⟩ (.slice A10 ([nc, nb] ++ [nx]).length ca10)) = w11 at *
            obtain ⟨r0, r1, r2, r3, r4, r5, r6, r7, r8, r9⟩ := ten_cells HX11.out
            obtain ⟨m0, m1, m2, m3, m4, m5, m6, m7, m8, m9⟩ := ten_melt HX11.out
            obtain ⟨t0, t1, t2, t3, t4, t5, t6, t7, t8, t9⟩ := ten_cells HN11.out
            go_wp2_with fail
            refine bodyPost_ret (v := valO (nodeP 7 [] [nc, nb, nx] X.pos) (.slice A10 3 ca10)) (by simp [results, Tryz.results210, go_sem, r0, r1, r2, r3, r4, r5, r6, r7, r8, r9, N.kind, N.text, N.val, N.flag, N.kids, N.spot, V.zero, V.kind, V.num, V.str]) rfl ?_
            exact HE.out
        | false =>
          have HQ := Lib.hid (show (pBlock f o (T.drop (k4 + 1))).bind (fun x r => .ok (nodeP 7 [] [nc, nb, x] X.pos) r) = R by rw [← HRR.out, if_neg (by rw [hi2]; simp)])
          have hin : pBlock f o (T.drop (k4 + 1)) ≠ .out := fun e => HNe.out (by rw [← HQ.out, e]; rfl)
          skip
          refine (p_is_at HP7.out [105, 102] false hi2).mono ?_
          rintro e w8 ⟨rfl, hb⟩
          have HP8 := Lib.hid (HP7.out.below hb)
          have HF8 := Lib.hid (HF7.out.below hb)
          have HE8 := Lib.hid (HE7.out.below hb)
          have HN8 := Lib.hid (HN7.out.below hb)
          have HK8 := Lib.hid ((KidRow.imp HK7.out (ok' := fun b => w2.heap.size ≤ b ∧ b < w7.heap.size) (fun b hb h => ⟨h, hb⟩)).below hb)
          have hz8 := hb.size
          have HC8 := Lib.hid (Hih.out.block o (k4 + 1) w8.drew (HP8.out.same rfl) hin)
          clear hb hin HP7 HF7 HE7 HN7 HK7 hi2 HRR
          go_upto_region 6 with fail
          have hS0 : w8.drew.cell? ⟨w1.heap.size, 8, none⟩ = some (.slice (some ⟨w4.heap.size, 0, none⟩) 2 2) := (show Box w1.heap.size _ _ w8.drew from HN8.out).cell 8 rfl
          refine wp_region_pivot 7 (S := fun W => W.cell? ⟨w1.heap.size, 8, none⟩ = some (.slice (some ⟨w4.heap.size, 0, none⟩) 2 2)) (by kernel_rfl) ?_
          try simp only [Act.put, List.setIfInBounds_toArray, List.set_cons_zero, List.set_cons_succ]
          refine wpAnyP_take (i := 0) (v := ?vB0) rfl (by kernel_rfl) (by kernel_rfl) (by kernel_rfl) (by kernel_rfl) (fun _ _ _ h => h) (Or.inl ⟨by rfl, ?yB0⟩) (by exact hS0) ?rB0
          case yB0 => (intro W hSw; go_simp; try with_reducible rfl)
          try simp only [Act.put, List.setIfInBounds_toArray, List.set_cons_zero, List.set_cons_succ]
          refine wpAnyP_take (i := 1) (v := ?vB1) rfl (by kernel_rfl) (by kernel_rfl) (by kernel_rfl) (by kernel_rfl) (fun _ _ _ h => h) (Or.inl ⟨by rfl, ?yB1⟩) (by exact hS0) ?rB1
          case yB1 => (intro W hSw; go_simp; try with_reducible rfl)
          try simp only [Act.put, List.setIfInBounds_toArray, List.set_cons_zero, List.set_cons_succ]
          refine wpAnyP_take (i := 2) (v := ?vB2) rfl (by kernel_rfl) (by kernel_rfl) (by kernel_rfl) (by kernel_rfl) (fun _ _ _ h => h) (Or.inl ⟨by rfl, ?yB2⟩) (by exact hS0) ?rB2
          case yB2 => (intro W hSw; go_simp; try with_reducible rfl)
          try simp only [Act.put, List.setIfInBounds_toArray, List.set_cons_zero, List.set_cons_succ]
          refine wpAnyP_ready (rs := [3]) (by kernel_rfl) (by simp) ?_
          refine AllReadyP.cons rfl (fun K hK => ?_) AllReadyP.nil
          go_simp
          refine HC8.out.mono ?_
          rintro e w9 (⟨c, p, hr, rfl, hF⟩ | ⟨nx, lv, k9, hr, rfl, hP, hF, hO⟩)
          · have HQ2 := Lib.hid (show R = .bad c p by rw [← HQ.out, PR.bind_bad hr])
            exact ⟨rfl, .inl ⟨c, p, HQ2.out, rfl, HF8.out.drew.trans hF⟩⟩
          · obtain ⟨A9, ca9, rfl⟩ := hO.lvs
            have HQ2 := Lib.hid (show R = .ok (nodeP 7 [] [nc, nb, nx] X.pos) (T.drop k9) by rw [← HQ.out, PR.bind_ok hr])
            have HN9 := Lib.hid (Box.fr (show Box w1.heap.size _ _ w8.drew from HN8.out) hF (show ¬ g = w1.heap.size by omega))
            have HE9 := Lib.hid (Box.fr (show Box w.heap.size _ _ w8.drew from HE8.out) hF (show ¬ g = w.heap.size by omega))
            refine hK.out _ _ (.inr (.inr (HN9.out.cell 8 rfl))) ?_
            clear hK K
            try simp only [Act.put, List.setIfInBounds_toArray, List.set_cons_zero, List.set_cons_succ]
            have hs9 : w8.heap.size ≤ w9.heap.size := hF.size
            have HP9 := Lib.hid hP
            have HF9 := Lib.hid (HF8.out.drew.trans hF)
            have HK9 := Lib.hid (KidRow.fr ((KidRow.imp HK8.out (ok' := fun b => w2.heap.size ≤ b ∧ b < w8.heap.size) (fun b hb h => by omega)).below (Below.refl _ w8).drew) hF (fun b _ h1 h2 => by omega))
            have HO9 := Lib.hid (show OwN (fun b => w8.heap.size ≤ b) w9 (cellsN nx (.slice A9 nx.kids.length ca9)) nx from hO)
            clear hP hF hO hr HP8 HF8 HE8 HN8 HK8 HC8
            refine wpAnyP_ready (rs := [4]) (by kernel_rfl) (by simp) ?_
            refine AllReadyP.cons rfl (fun K hK => ?_) AllReadyP.nil
            go_simp
            refine hK.out _ _ (.inr (.inr (bcell (p_al w9 _) (HN9.out.cell 8 rfl)))) ?_
            clear hK K
            try simp only [Act.put, List.setIfInBounds_toArray, List.set_cons_zero, List.set_cons_succ]
            refine wpAnyP_ready (rs := [5]) (by kernel_rfl) (by simp) ?_
            refine AllReadyP.cons rfl (fun K hK => ?_) AllReadyP.nil
            rw [if_pos (by kernel_rfl)]
            refine opN_append (n := nx) (lvn := .slice A9 nx.kids.length ca9) _ _ _ rfl _ rfl rfl rfl HK9.out HO9.out (by omega) hs9 (by simp) ?_
            intro v1 w10 hK10 hF10
            have HN10 := Lib.hid (HN9.out.fr hF10 (fun h => by omega))
            have hS10 := HN10.out.cell 8 rfl
            refine hK.out _ _ (.inr (.inr hS10)) ?_
            clear hK K
            try simp only [Act.put, List.setIfInBounds_toArray, List.set_cons_zero, List.set_cons_succ]
            obtain ⟨A10, ca10, hv⟩ := hK10.lvs
            have hv : v1 = .slice A10 3 ca10 := hv
            subst hv
            have HE10 := Lib.hid (HE9.out.fr hF10 (fun h => by omega))
            have HP10 := Lib.hid (HP9.out.fr hF10 (fun h => by omega) (fun h => by omega))
            have HF10 := Lib.hid (HF9.out.past hF10 (fun b hb h => by omega))
            have HK10 := Lib.hid (show KidRow (fun b => w2.heap.size ≤ b) w10 (.slice A10 3 ca10) [nc, nb, nx] from hK10)
            clear hK10 hF10 HP9 HF9 HK9 HO9 HN9 HE9
            refine wpAnyP_take (i := 6) (v := ?vBh6) rfl (by kernel_rfl) (by kernel_rfl) (by kernel_rfl) (by kernel_rfl) (fun _ _ _ h => h) (Or.inl ⟨by rfl, ?yBh6⟩) (by exact hS10) ?rBh6
            case yBh6 => (intro W hSw; go_simp; try with_reducible rfl)
            try simp only [Act.put, List.setIfInBounds_toArray, List.set_cons_zero, List.set_cons_succ]
            clear hS10
            refine wpAnyP_ready (rs := [7]) (by kernel_rfl) (by simp) ?_
            refine AllReadyP.cons rfl (fun K hK => ?_) AllReadyP.nil
            have x8 := HN10.out.cell 8 rfl
            have l8 := HN10.out.melt 8
            go_simp
            have hset : Fr (fun b => w1.heap.size = b) w10 (w10.setCell ⟨w1.heap.size, 8, none⟩ (.slice A10 ([nc, nb] ++ [nx]).length ca10)) := (Fr.refl _ _).set1 _ 8 rfl _
            have hbx := HN10.out.set 8 (.slice A10 ([nc, nb] ++ [nx]).length ca10)
            simp only [List.setIfInBounds_toArray, List.set_cons_zero, List.set_cons_succ] at hbx
            have hlN := HN10.out.lt
            have hO11 : OwN (fun b => w.heap.size + 1 ≤ b) (w10.setCell ⟨w1.heap.size, 8, none⟩ (.slice A10 ([nc, nb] ++ [nx]).length ca10)) (cellsN (nodeP 7 [] [nc, nb, nx] X.pos) (.slice A10 3 ca10)) (nodeP 7 [] [nc, nb, nx] X.pos) :=
              OwN.of (by constructor <;> simp [N.kind]) (by have := Hat.out; constructor <;> simp [N.spot] <;> omega) (by simp [N.text]) ⟨by constructor <;> simp [V.kind, V.zero, N.val], by constructor <;> simp [V.num, V.zero, N.val], by simp [V.str, V.zero, N.val], rfl, rfl⟩ (by simp [N.kids]) ((HK10.out.fr hset (fun b _ h1 h2 => by omega)).imp (fun b _ h => by omega))
            have HX11 := Lib.hid (HE10.out.fr hset (by omega))
            have HE := Lib.hid (EndN.ret hlg hlt HQ2.out (HP10.out.fr hset (by omega) (by omega)) (HF10.out.past hset (fun b hb h => by omega)) hO11 (show w.heap.size ≤ w.heap.size by omega) (by omega))
            refine hK.out _ _ (.inr (.inl rfl)) ?_
            clear hK K
            try simp only [Act.put, List.setIfInBounds_toArray, List.set_cons_zero, List.set_cons_succ]
            refine wpAnyP_done (by kernel_rfl) ?_ _
            have HN11 := Lib.hid hbx
            clear hset hbx hO11 x8 l8
            generalize (w10.setCell ⟨w1.heap.size, 8, none⟩ (.slice A10 ([nc, nb] ++ [nx]).length ca10)) = w11 at *
            obtain ⟨r0, r1, r2, r3, r4, r5, r6, r7, r8, r9⟩ := ten_cells HX11.out
            obtain ⟨m0, m1, m2, m3, m4, m5, m6, m7, m8, m9⟩ := ten_melt HX11.out
            obtain ⟨t0, t1, t2, t3, t4, t5, t6, t7, t8, t9⟩ := ten_cells HN11.out
            go_wp2_with fail
            refine bodyPost_ret (v := valO (nodeP 7 [] [nc, nb, nx] X.pos) (.slice A10 3 ca10)) (by simp [results, Tryz.results210, go_sem, r0, r1, r2, r3, r4, r5, r6, r7, r8, r9, N.kind, N.text, N.val, N.flag, N.kids, N.spot, V.zero, V.kind, V.num, V.str]) rfl ?_
            exact HE.out
end
end Go.Proofs.YtlnhhffhmeekoaaGreatDoor
