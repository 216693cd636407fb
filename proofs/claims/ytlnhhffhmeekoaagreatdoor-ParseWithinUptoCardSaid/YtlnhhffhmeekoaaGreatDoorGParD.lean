/- The parser's walks: pair. The parser's walks: the closures that read rows. The parser's walks: the closures that read one expression. The parser's walks: named. -/
import Derived.Test.YtlnhhffhmeekoaaGreatDoorGParC
set_option linter.unusedVariables false
set_option linter.unusedSimpArgs false
namespace Go.Proofs.YtlnhhffhmeekoaaGreatDoor
open Go.RowKit Go.IntWalk
section
variable {T : List Tok} {gt cap g k o f : Nat} {w : World}
set_option maxRecDepth 20000 in
set_option maxHeartbeats 2000000 in
theorem k_pair_1 (hT : TkOk T) (ih : KnotE T gt cap g f) (h : PSt T gt cap g k o w) (h1 : (((tkAt T k).kind : Int) != 1) = false) (hl : (tkAt T k).text.length ≤ 32) (hne : pItem (f + 1) 1 o (T.drop k) ≠ .out) :
    Calls Tryz.prog 234 #[pPtr g] w (EndN T gt cap g o w (pItem (f + 1) 1 o (T.drop k))) := by
  have hk0 : (tkAt T k).kind = 1 ∨ (tkAt T k).kind = 4 := by simp at h1; omega
  have hk1 := hT.next h.lt (by omega)
  have hs : pItem (f + 1) 1 o (T.drop k) = (mustT [58] (T.drop (k + 1))).bind fun _ r => (pBin f 1 o r).bind fun n r => .ok (nodeP 20 (tkAt T k).text [n] (tkAt T k).pos) r := by
    rw [pItem, if_neg (by omega), if_pos rfl, hd_tkAt T k h.lt, drop_tail, if_pos ⟨hk0, hl⟩]
  rw [hs] at hne ⊢
  clear hs
  have hat := hT.at h.lt
  have HX0 := Lib.hid (Box.new w zNode 29)
  have hlg := h.box.lt
  have hlt := h.ltt
  have H := Lib.hid h
  have HNe := Lib.hid hne
  have Hih := Lib.hid ih
  have Hat := Lib.hid hat
  have Hk0 := Lib.hid hk0
  have hl' : (((tkAt T k).text.length : Int)) ≤ 32 := by omega
  generalize hR : (mustT [58] (T.drop (k + 1))).bind (fun _ r => (pBin f 1 o r).bind fun n r => .ok (nodeP 20 (tkAt T k).text [n] (tkAt T k).pos) r) = R at *
  have HRR := Lib.hid hR
  clear hR h hne ih hat hk0 hl
  go_enter Tryz.func234, Tryz.ntmps234
  go_wp2_with fail
  refine (p_peek (H.out.below (p_al _ _))).mono ?_
  rintro e w1 ⟨rfl, hb⟩
  have HB1 := Lib.hid (bthen (p_al w (.cells zNode 29)) hb)
  have HX1 := Lib.hid (HX0.out.below hb)
  clear hb
  generalize hXX : tkAt T k = X at *
  have HXX := Lib.hid hXX
  clear hXX
  have hal := p_al w1 (.cells #[.int .i64 (X.kind : Int), .string ⟨X.text.toArray⟩, .int .i64 (X.n : Int), .int .i64 (X.pos : Int)] 41)
  have HT2 := Lib.hid (Box.new w1 #[.int .i64 (X.kind : Int), .string ⟨X.text.toArray⟩, .int .i64 (X.n : Int), .int .i64 (X.pos : Int)] 41)
  have HB2 := Lib.hid (bthen HB1.out hal)
  have HX2 := Lib.hid (HX1.out.below hal)
  have hz1 := HX1.out.lt
  clear hal HB1 HX1
  go_wp2_with fail
  refine (p_next (H.out.below HB2.out) hk1).mono ?_
  rintro e w3 ⟨rfl, hP, hF⟩
  have HP3 := Lib.hid hP
  have HF3 := Lib.hid ((Fr.of_below HB2.out).trans hF)
  have HT3 := Lib.hid (HT2.out.fr hF (by omega))
  have HX3 := Lib.hid (HX2.out.fr hF (by omega))
  clear hP hF HT2 HX2 HB2
  go_wp2_with fail
  cases hm : isT [58] (T.drop (k + 1)) with
  | false =>
    have HQ := Lib.hid (show R = .bad 170 (tkAt T (k + 1)).pos by rw [← HRR.out, mustT, if_neg (by rw [hm]; simp), hd_tkAt T (k + 1) hk1]; rfl)
    refine (p_must_no HP3.out [58] hm).mono ?_
    rintro e w4 ⟨rfl, hb⟩
    have HF4 := Lib.hid (HF3.out.below hb)
    clear hb
    go_wp2_with fail
    exact ⟨rfl, .inl ⟨_, _, HQ.out, rfl, HF4.out⟩⟩
  | true =>
    have HQ := Lib.hid (show (pBin f 1 o (T.drop (k + 1 + 1))).bind (fun n r => .ok (nodeP 20 X.text [n] X.pos) r) = R by rw [← HRR.out, mustT, if_pos hm, drop_tail]; rfl)
    refine (p_must_yes hT HP3.out [58] hm).mono ?_
    rintro e w4 ⟨rfl, hP, hF⟩
    have HP4 := Lib.hid hP
    have HT4 := Lib.hid (HT3.out.fr hF (by omega))
    have HX4 := Lib.hid (HX3.out.fr hF (by omega))
    have HF4 := Lib.hid (HF3.out.trans hF)
    have hw4 := HT4.out.lt
    clear hP hF HP3 HF3 HT3 HX3 hm
    go_wp2_with fail
    have HS := Lib.hid (show ∀ W, W.heap = w4.heap → W.cell? ⟨w1.heap.size, 1, none⟩ = some (.string ⟨X.text.toArray⟩) ∧ W.cell? ⟨w1.heap.size, 3, none⟩ = some (.int .i64 (X.pos : Int)) from fun W hW => ⟨(show Box w1.heap.size _ _ W from HT4.out.of (by rw [hW])).cell 1 rfl, (show Box w1.heap.size _ _ W from HT4.out.of (by rw [hW])).cell 3 rfl⟩)
    refine wp_region_held_drew (S := fun W => W.cell? ⟨w1.heap.size, 1, none⟩ = some (.string ⟨X.text.toArray⟩) ∧ W.cell? ⟨w1.heap.size, 3, none⟩ = some (.int .i64 (X.pos : Int))) (by kernel_rfl) (HS.out w4.drew rfl) (fun hHeld => ?_)
    refine wpAnyH_take (i := 0) (v := ?vp0) rfl (by kernel_rfl) (by kernel_rfl) (by kernel_rfl) (fun _ _ _ h => h) (Or.inl ⟨by rfl, ?yp0⟩) (by assumption) ?rp0
    case yp0 => (intro W hSw; (obtain ⟨a1, a3⟩ := hSw); go_simp; try with_reducible rfl)
    try simp only [Act.put, List.setIfInBounds_toArray, List.set_cons_zero, List.set_cons_succ]
    refine wpAnyH_take (i := 1) (v := ?vp1) rfl (by kernel_rfl) (by kernel_rfl) (by kernel_rfl) (fun _ _ _ h => h) (Or.inl ⟨by rfl, ?yp1⟩) (by assumption) ?rp1
    case yp1 => (intro W hSw; (obtain ⟨a1, a3⟩ := hSw); go_simp; try with_reducible rfl)
    try simp only [Act.put, List.setIfInBounds_toArray, List.set_cons_zero, List.set_cons_succ]
    refine wpAnyH_take (i := 2) (v := ?vp2) rfl (by kernel_rfl) (by kernel_rfl) (by kernel_rfl) (fun _ _ _ h => h) (Or.inl ⟨by rfl, ?yp2⟩) (by assumption) ?rp2
    case yp2 => (intro W hSw; (obtain ⟨a1, a3⟩ := hSw); go_simp; try with_reducible rfl)
    try simp only [Act.put, List.setIfInBounds_toArray, List.set_cons_zero, List.set_cons_succ]
    refine wpAnyH_take (i := 3) (v := ?vp3) rfl (by kernel_rfl) (by kernel_rfl) (by kernel_rfl) (fun _ _ _ h => h) (Or.inl ⟨by rfl, ?yp3⟩) (by assumption) ?rp3
    case yp3 => (intro W hSw; (obtain ⟨a1, a3⟩ := hSw); go_simp; try with_reducible rfl)
    try simp only [Act.put, List.setIfInBounds_toArray, List.set_cons_zero, List.set_cons_succ]
    refine wpAnyH_take (i := 4) (v := ?vp4) rfl (by kernel_rfl) (by kernel_rfl) (by kernel_rfl) (fun _ _ _ h => h) (Or.inl ⟨by rfl, ?yp4⟩) (by assumption) ?rp4
    case yp4 => (intro W hSw; (obtain ⟨a1, a3⟩ := hSw); go_simp; try with_reducible rfl)
    try simp only [Act.put, List.setIfInBounds_toArray, List.set_cons_zero, List.set_cons_succ]
    refine wpAnyH_ready (rs := [5]) (by kernel_rfl) (by simp) ?_
    refine AllReadyH.cons rfl (fun K hK => ?_) AllReadyH.nil
    go_simp
    have hin : pBin f 1 o (T.drop (k + 1 + 1)) ≠ .out := fun e => HNe.out (by rw [← HQ.out, e]; rfl)
    refine (k_expr Hih.out (HP4.out.same (W' := w4.drew) rfl) hin).mono ?_
    rintro e w5 (⟨c, p, hr, rfl, hF⟩ | ⟨n, lv, k', hr, rfl, hP, hF, hO⟩)
    · exact ⟨rfl, .inl ⟨c, p, by rw [← HQ.out, hr]; rfl, rfl, HF4.out.drew.trans hF⟩⟩
    · obtain ⟨A, ca, rfl⟩ := hO.lvs
      have HQ2 := Lib.hid (show R = .ok (nodeP 20 X.text [n] X.pos) (T.drop k') by rw [← HQ.out, hr]; rfl)
      have HT5 := Lib.hid (Box.fr (show Box w1.heap.size _ _ w4.drew from HT4.out) hF (by omega))
      have HX5 := Lib.hid (Box.fr (show Box w.heap.size _ _ w4.drew from HX4.out) hF (by omega))
      have HP5 := Lib.hid hP
      have HF5 := Lib.hid (HF4.out.drew.trans hF)
      have HO5 := Lib.hid (show OwN (fun b => w4.heap.size ≤ b) w5 _ n from hO)
      have hw5 : w4.heap.size ≤ w5.heap.size := hF.size
      clear hr hP hF hO hin
      refine hK.out _ _ (by exact ⟨HT5.out.cell 1 rfl, HT5.out.cell 3 rfl⟩) (fun hHeld => ?_)
      clear hK K
      try simp only [Act.put, List.setIfInBounds_toArray, List.set_cons_zero, List.set_cons_succ]
      refine wpAnyH_ready (rs := [6]) (by kernel_rfl) (by simp) ?_
      refine AllReadyH.cons rfl (fun K hK => ?_) AllReadyH.nil
      go_simp
      refine hK.out _ _ (by exact ⟨bcell (p_al w5 _) (HT5.out.cell 1 rfl), bcell (p_al w5 _) (HT5.out.cell 3 rfl)⟩) (fun hHeld => ?_)
      clear hK K
      try simp only [Act.put, List.setIfInBounds_toArray, List.set_cons_zero, List.set_cons_succ]
      refine wpAnyH_ready (rs := [7]) (by kernel_rfl) (by simp) ?_
      refine AllReadyH.cons rfl (fun K hK => ?_) AllReadyH.nil
      go_simp
      refine hK.out _ _ (by exact ⟨bcell (p_al w5 _) (HT5.out.cell 1 rfl), bcell (p_al w5 _) (HT5.out.cell 3 rfl)⟩) (fun hHeld => ?_)
      clear hK K
      try simp only [Act.put, List.setIfInBounds_toArray, List.set_cons_zero, List.set_cons_succ]
      have u0 : ∀ X, (w5.alloc X).cell? ⟨w.heap.size, 0, none⟩ = some (.int .i64 0) := fun X => (HX5.out.below (p_al w5 X)).cell 0 rfl
      have u1 : ∀ X, (w5.alloc X).cell? ⟨w.heap.size, 1, none⟩ = some (.string ⟨#[]⟩) := fun X => (HX5.out.below (p_al w5 X)).cell 1 rfl
      have u2 : ∀ X, (w5.alloc X).cell? ⟨w.heap.size, 2, none⟩ = some (.int .i64 0) := fun X => (HX5.out.below (p_al w5 X)).cell 2 rfl
      have u3 : ∀ X, (w5.alloc X).cell? ⟨w.heap.size, 3, none⟩ = some (.int .i64 0) := fun X => (HX5.out.below (p_al w5 X)).cell 3 rfl
      have u4 : ∀ X, (w5.alloc X).cell? ⟨w.heap.size, 4, none⟩ = some (.string ⟨#[]⟩) := fun X => (HX5.out.below (p_al w5 X)).cell 4 rfl
      have u5 : ∀ X, (w5.alloc X).cell? ⟨w.heap.size, 5, none⟩ = some (.slice none 0 0) := fun X => (HX5.out.below (p_al w5 X)).cell 5 rfl
      have u6 : ∀ X, (w5.alloc X).cell? ⟨w.heap.size, 6, none⟩ = some (.slice none 0 0) := fun X => (HX5.out.below (p_al w5 X)).cell 6 rfl
      have u7 : ∀ X, (w5.alloc X).cell? ⟨w.heap.size, 7, none⟩ = some (.bool false) := fun X => (HX5.out.below (p_al w5 X)).cell 7 rfl
      have u8 : ∀ X, (w5.alloc X).cell? ⟨w.heap.size, 8, none⟩ = some (.slice none 0 0) := fun X => (HX5.out.below (p_al w5 X)).cell 8 rfl
      have u9 : ∀ X, (w5.alloc X).cell? ⟨w.heap.size, 9, none⟩ = some (.int .i64 0) := fun X => (HX5.out.below (p_al w5 X)).cell 9 rfl
      have l0 : ∀ X, (w5.alloc X).frozen? ⟨w.heap.size, 0, none⟩ = false := fun X => (HX5.out.below (p_al w5 X)).melt 0
      have l1 : ∀ X, (w5.alloc X).frozen? ⟨w.heap.size, 1, none⟩ = false := fun X => (HX5.out.below (p_al w5 X)).melt 1
      have l2 : ∀ X, (w5.alloc X).frozen? ⟨w.heap.size, 2, none⟩ = false := fun X => (HX5.out.below (p_al w5 X)).melt 2
      have l3 : ∀ X, (w5.alloc X).frozen? ⟨w.heap.size, 3, none⟩ = false := fun X => (HX5.out.below (p_al w5 X)).melt 3
      have l4 : ∀ X, (w5.alloc X).frozen? ⟨w.heap.size, 4, none⟩ = false := fun X => (HX5.out.below (p_al w5 X)).melt 4
      have l5 : ∀ X, (w5.alloc X).frozen? ⟨w.heap.size, 5, none⟩ = false := fun X => (HX5.out.below (p_al w5 X)).melt 5
      have l6 : ∀ X, (w5.alloc X).frozen? ⟨w.heap.size, 6, none⟩ = false := fun X => (HX5.out.below (p_al w5 X)).melt 6
      have l7 : ∀ X, (w5.alloc X).frozen? ⟨w.heap.size, 7, none⟩ = false := fun X => (HX5.out.below (p_al w5 X)).melt 7
      have l8 : ∀ X, (w5.alloc X).frozen? ⟨w.heap.size, 8, none⟩ = false := fun X => (HX5.out.below (p_al w5 X)).melt 8
      have l9 : ∀ X, (w5.alloc X).frozen? ⟨w.heap.size, 9, none⟩ = false := fun X => (HX5.out.below (p_al w5 X)).melt 9
      refine wpAnyH_ready (rs := [8]) (by kernel_rfl) (by simp) ?_
      refine AllReadyH.cons rfl (fun K hK => ?_) AllReadyH.nil
      go_simp
      have hal := p_al w5 (.cells #[.int .i64 n.kind, .string ⟨n.text.toArray⟩, .int .i64 n.val.kind, .int .i64 n.val.num, .string ⟨n.val.str.toArray⟩, .slice none 0 0, .slice none 0 0, .bool n.flag, .slice A n.kids.length ca, .int .i64 n.spot] 29)
      have hfr := ten_res w.heap.size (.int .i64 20) (.string ⟨X.text.toArray⟩) (.int .i64 0) (.int .i64 0) (.string ⟨#[]⟩) (.slice none 0 0) (.slice none 0 0) (.bool false) (.slice (some ⟨w5.heap.size, 0, none⟩) 1 1) (.int .i64 (X.pos : Int)) (w5.alloc (.cells #[.int .i64 n.kind, .string ⟨n.text.toArray⟩, .int .i64 n.val.kind, .int .i64 n.val.num, .string ⟨n.val.str.toArray⟩, .slice none 0 0, .slice none 0 0, .bool n.flag, .slice A n.kids.length ca, .int .i64 n.spot] 29))
      have hbx := ten_set (HX5.out.below hal) (.int .i64 20) (.string ⟨X.text.toArray⟩) (.int .i64 0) (.int .i64 0) (.string ⟨#[]⟩) (.slice none 0 0) (.slice none 0 0) (.bool false) (.slice (some ⟨w5.heap.size, 0, none⟩) 1 1) (.int .i64 (X.pos : Int))
      refine hK.out _ _ (by exact ⟨hfr.cell (bcell hal (HT5.out.cell 1 rfl)) (show ¬ w.heap.size = w1.heap.size by omega), hfr.cell (bcell hal (HT5.out.cell 3 rfl)) (show ¬ w.heap.size = w1.heap.size by omega)⟩) (fun hHeld => ?_)
      clear hK K
      have hz5 := HO5.out
      have hat9 := Hat.out
      have HK9 := (KidRow.lit1 (ok := fun b => w.heap.size < b) HO5.out (fun b _ h => by omega) (by omega) _ rfl).fr hfr (fun b hb h1 h2 => by omega)
      have HO9 := OwN.of (n := nodeP 20 X.text [n] X.pos) (by constructor <;> simp [N.kind]) (by constructor <;> simp [N.spot] <;> omega) (by simp [N.text]; omega) ⟨by constructor <;> simp [V.kind, V.zero, N.val], by constructor <;> simp [V.num, V.zero, N.val], by simp [V.str, V.zero, N.val], rfl, rfl⟩ (by simp [N.kids]) HK9
      have HE := Lib.hid (show EndN T gt cap g o w R (.returned (valO (nodeP 20 X.text [n] X.pos) (.slice (some ⟨w5.heap.size, 0, none⟩) 1 1))) _ from .inr ⟨_, _, k', HQ2.out, rfl, (HP5.out.below hal).fr hfr (by omega) (by omega), (HF5.out.below hal).past hfr (fun b hb h => by omega), HO9.imp fun b _ h => Nat.le_of_lt h⟩)
      obtain ⟨r0, r1, r2, r3, r4, r5, r6, r7, r8, r9⟩ := ten_cells hbx
      clear hbx hfr hal hat9 HK9 HO9 hz5
      refine wpAnyH_done (by kernel_rfl) ?_ _
      clear hHeld
      generalize (((((((((((w5.alloc (.cells #[.int .i64 n.kind, .string ⟨n.text.toArray⟩, .int .i64 n.val.kind, .int .i64 n.val.num, .string ⟨n.val.str.toArray⟩, .slice none 0 0, .slice none 0 0, .bool n.flag, .slice A n.kids.length ca, .int .i64 n.spot] 29)).setCell ⟨w.heap.size, 0, none⟩ (.int .i64 20)).setCell ⟨w.heap.size, 1, none⟩ (.string ⟨X.text.toArray⟩)).setCell ⟨w.heap.size, 2, none⟩ (.int .i64 0)).setCell ⟨w.heap.size, 3, none⟩ (.int .i64 0)).setCell ⟨w.heap.size, 4, none⟩ (.string ⟨#[]⟩)).setCell ⟨w.heap.size, 5, none⟩ (.slice none 0 0)).setCell ⟨w.heap.size, 6, none⟩ (.slice none 0 0)).setCell ⟨w.heap.size, 7, none⟩ (.bool false)).setCell ⟨w.heap.size, 8, none⟩ (.slice (some ⟨w5.heap.size, 0, none⟩) 1 1)).setCell ⟨w.heap.size, 9, none⟩ (.int .i64 (X.pos : Int))) = W9 at *
      go_wp2_with fail
      refine bodyPost_ret (v := valO (nodeP 20 X.text [n] X.pos) (.slice (some ⟨w5.heap.size, 0, none⟩) 1 1)) (by simp [results, Tryz.results234, go_sem, r0, r1, r2, r3, r4, r5, r6, r7, r8, r9, N.kind, N.text, N.val, N.flag, N.kids, N.spot, V.zero, V.kind, V.num, V.str]) rfl ?_
      exact HE.out
set_option maxRecDepth 20000 in
set_option maxHeartbeats 2000000 in
theorem k_pair_4 (hT : TkOk T) (ih : KnotE T gt cap g f) (h : PSt T gt cap g k o w) (h1 : (((tkAt T k).kind : Int) != 1) = true) (h4 : (((tkAt T k).kind : Int) != 4) = false) (hl : (tkAt T k).text.length ≤ 32) (hne : pItem (f + 1) 1 o (T.drop k) ≠ .out) :
    Calls Tryz.prog 234 #[pPtr g] w (EndN T gt cap g o w (pItem (f + 1) 1 o (T.drop k))) := by
  have hk0 : (tkAt T k).kind = 1 ∨ (tkAt T k).kind = 4 := by simp at h4; omega
  have hk1 := hT.next h.lt (by omega)
  have hs : pItem (f + 1) 1 o (T.drop k) = (mustT [58] (T.drop (k + 1))).bind fun _ r => (pBin f 1 o r).bind fun n r => .ok (nodeP 20 (tkAt T k).text [n] (tkAt T k).pos) r := by
    rw [pItem, if_neg (by omega), if_pos rfl, hd_tkAt T k h.lt, drop_tail, if_pos ⟨hk0, hl⟩]
  rw [hs] at hne ⊢
  clear hs
  have hat := hT.at h.lt
  have HX0 := Lib.hid (Box.new w zNode 29)
  have hlg := h.box.lt
  have hlt := h.ltt
  have H := Lib.hid h
  have HNe := Lib.hid hne
  have Hih := Lib.hid ih
  have Hat := Lib.hid hat
  have Hk0 := Lib.hid hk0
  have hl' : (((tkAt T k).text.length : Int)) ≤ 32 := by omega
  generalize hR : (mustT [58] (T.drop (k + 1))).bind (fun _ r => (pBin f 1 o r).bind fun n r => .ok (nodeP 20 (tkAt T k).text [n] (tkAt T k).pos) r) = R at *
  have HRR := Lib.hid hR
  clear hR h hne ih hat hk0 hl
  go_enter Tryz.func234, Tryz.ntmps234
  go_wp2_with fail
  refine (p_peek (H.out.below (p_al _ _))).mono ?_
  rintro e w1 ⟨rfl, hb⟩
  have HB1 := Lib.hid (bthen (p_al w (.cells zNode 29)) hb)
  have HX1 := Lib.hid (HX0.out.below hb)
  clear hb
  generalize hXX : tkAt T k = X at *
  have HXX := Lib.hid hXX
  clear hXX
  have hal := p_al w1 (.cells #[.int .i64 (X.kind : Int), .string ⟨X.text.toArray⟩, .int .i64 (X.n : Int), .int .i64 (X.pos : Int)] 41)
  have HT2 := Lib.hid (Box.new w1 #[.int .i64 (X.kind : Int), .string ⟨X.text.toArray⟩, .int .i64 (X.n : Int), .int .i64 (X.pos : Int)] 41)
  have HB2 := Lib.hid (bthen HB1.out hal)
  have HX2 := Lib.hid (HX1.out.below hal)
  have hz1 := HX1.out.lt
  clear hal HB1 HX1
  go_wp2_with fail
  refine (p_next (H.out.below HB2.out) hk1).mono ?_
  rintro e w3 ⟨rfl, hP, hF⟩
  have HP3 := Lib.hid hP
  have HF3 := Lib.hid ((Fr.of_below HB2.out).trans hF)
  have HT3 := Lib.hid (HT2.out.fr hF (by omega))
  have HX3 := Lib.hid (HX2.out.fr hF (by omega))
  clear hP hF HT2 HX2 HB2
  go_wp2_with fail
  cases hm : isT [58] (T.drop (k + 1)) with
  | false =>
    have HQ := Lib.hid (show R = .bad 170 (tkAt T (k + 1)).pos by rw [← HRR.out, mustT, if_neg (by rw [hm]; simp), hd_tkAt T (k + 1) hk1]; rfl)
    refine (p_must_no HP3.out [58] hm).mono ?_
    rintro e w4 ⟨rfl, hb⟩
    have HF4 := Lib.hid (HF3.out.below hb)
    clear hb
    go_wp2_with fail
    exact ⟨rfl, .inl ⟨_, _, HQ.out, rfl, HF4.out⟩⟩
  | true =>
    have HQ := Lib.hid (show (pBin f 1 o (T.drop (k + 1 + 1))).bind (fun n r => .ok (nodeP 20 X.text [n] X.pos) r) = R by rw [← HRR.out, mustT, if_pos hm, drop_tail]; rfl)
    refine (p_must_yes hT HP3.out [58] hm).mono ?_
    rintro e w4 ⟨rfl, hP, hF⟩
    have HP4 := Lib.hid hP
    have HT4 := Lib.hid (HT3.out.fr hF (by omega))
    have HX4 := Lib.hid (HX3.out.fr hF (by omega))
    have HF4 := Lib.hid (HF3.out.trans hF)
    have hw4 := HT4.out.lt
    clear hP hF HP3 HF3 HT3 HX3 hm
    go_wp2_with fail
    have HS := Lib.hid (show ∀ W, W.heap = w4.heap → W.cell? ⟨w1.heap.size, 1, none⟩ = some (.string ⟨X.text.toArray⟩) ∧ W.cell? ⟨w1.heap.size, 3, none⟩ = some (.int .i64 (X.pos : Int)) from fun W hW => ⟨(show Box w1.heap.size _ _ W from HT4.out.of (by rw [hW])).cell 1 rfl, (show Box w1.heap.size _ _ W from HT4.out.of (by rw [hW])).cell 3 rfl⟩)
    refine wp_region_held_drew (S := fun W => W.cell? ⟨w1.heap.size, 1, none⟩ = some (.string ⟨X.text.toArray⟩) ∧ W.cell? ⟨w1.heap.size, 3, none⟩ = some (.int .i64 (X.pos : Int))) (by kernel_rfl) (HS.out w4.drew rfl) (fun hHeld => ?_)
    refine wpAnyH_take (i := 0) (v := ?vp0) rfl (by kernel_rfl) (by kernel_rfl) (by kernel_rfl) (fun _ _ _ h => h) (Or.inl ⟨by rfl, ?yp0⟩) (by assumption) ?rp0
    case yp0 => (intro W hSw; (obtain ⟨a1, a3⟩ := hSw); go_simp; try with_reducible rfl)
    try simp only [Act.put, List.setIfInBounds_toArray, List.set_cons_zero, List.set_cons_succ]
    refine wpAnyH_take (i := 1) (v := ?vp1) rfl (by kernel_rfl) (by kernel_rfl) (by kernel_rfl) (fun _ _ _ h => h) (Or.inl ⟨by rfl, ?yp1⟩) (by assumption) ?rp1
    case yp1 => (intro W hSw; (obtain ⟨a1, a3⟩ := hSw); go_simp; try with_reducible rfl)
    try simp only [Act.put, List.setIfInBounds_toArray, List.set_cons_zero, List.set_cons_succ]
    refine wpAnyH_take (i := 2) (v := ?vp2) rfl (by kernel_rfl) (by kernel_rfl) (by kernel_rfl) (fun _ _ _ h => h) (Or.inl ⟨by rfl, ?yp2⟩) (by assumption) ?rp2
    case yp2 => (intro W hSw; (obtain ⟨a1, a3⟩ := hSw); go_simp; try with_reducible rfl)
    try simp only [Act.put, List.setIfInBounds_toArray, List.set_cons_zero, List.set_cons_succ]
    refine wpAnyH_take (i := 3) (v := ?vp3) rfl (by kernel_rfl) (by kernel_rfl) (by kernel_rfl) (fun _ _ _ h => h) (Or.inl ⟨by rfl, ?yp3⟩) (by assumption) ?rp3
    case yp3 => (intro W hSw; (obtain ⟨a1, a3⟩ := hSw); go_simp; try with_reducible rfl)
    try simp only [Act.put, List.setIfInBounds_toArray, List.set_cons_zero, List.set_cons_succ]
    refine wpAnyH_take (i := 4) (v := ?vp4) rfl (by kernel_rfl) (by kernel_rfl) (by kernel_rfl) (fun _ _ _ h => h) (Or.inl ⟨by rfl, ?yp4⟩) (by assumption) ?rp4
    case yp4 => (intro W hSw; (obtain ⟨a1, a3⟩ := hSw); go_simp; try with_reducible rfl)
    try simp only [Act.put, List.setIfInBounds_toArray, List.set_cons_zero, List.set_cons_succ]
    refine wpAnyH_ready (rs := [5]) (by kernel_rfl) (by simp) ?_
    refine AllReadyH.cons rfl (fun K hK => ?_) AllReadyH.nil
    go_simp
    have hin : pBin f 1 o (T.drop (k + 1 + 1)) ≠ .out := fun e => HNe.out (by rw [← HQ.out, e]; rfl)
    refine (k_expr Hih.out (HP4.out.same (W' := w4.drew) rfl) hin).mono ?_
    rintro e w5 (⟨c, p, hr, rfl, hF⟩ | ⟨n, lv, k', hr, rfl, hP, hF, hO⟩)
    · exact ⟨rfl, .inl ⟨c, p, by rw [← HQ.out, hr]; rfl, rfl, HF4.out.drew.trans hF⟩⟩
    · obtain ⟨A, ca, rfl⟩ := hO.lvs
      have HQ2 := Lib.hid (show R = .ok (nodeP 20 X.text [n] X.pos) (T.drop k') by rw [← HQ.out, hr]; rfl)
      have HT5 := Lib.hid (Box.fr (show Box w1.heap.size _ _ w4.drew from HT4.out) hF (by omega))
      have HX5 := Lib.hid (Box.fr (show Box w.heap.size _ _ w4.drew from HX4.out) hF (by omega))
      have HP5 := Lib.hid hP
      have HF5 := Lib.hid (HF4.out.drew.trans hF)
      have HO5 := Lib.hid (show OwN (fun b => w4.heap.size ≤ b) w5 _ n from hO)
      have hw5 : w4.heap.size ≤ w5.heap.size := hF.size
      clear hr hP hF hO hin
      refine hK.out _ _ (by exact ⟨HT5.out.cell 1 rfl, HT5.out.cell 3 rfl⟩) (fun hHeld => ?_)
      clear hK K
      try simp only [Act.put, List.setIfInBounds_toArray, List.set_cons_zero, List.set_cons_succ]
      refine wpAnyH_ready (rs := [6]) (by kernel_rfl) (by simp) ?_
      refine AllReadyH.cons rfl (fun K hK => ?_) AllReadyH.nil
      go_simp
      refine hK.out _ _ (by exact ⟨bcell (p_al w5 _) (HT5.out.cell 1 rfl), bcell (p_al w5 _) (HT5.out.cell 3 rfl)⟩) (fun hHeld => ?_)
      clear hK K
      try simp only [Act.put, List.setIfInBounds_toArray, List.set_cons_zero, List.set_cons_succ]
      refine wpAnyH_ready (rs := [7]) (by kernel_rfl) (by simp) ?_
      refine AllReadyH.cons rfl (fun K hK => ?_) AllReadyH.nil
      go_simp
      refine hK.out _ _ (by exact ⟨bcell (p_al w5 _) (HT5.out.cell 1 rfl), bcell (p_al w5 _) (HT5.out.cell 3 rfl)⟩) (fun hHeld => ?_)
      clear hK K
      try simp only [Act.put, List.setIfInBounds_toArray, List.set_cons_zero, List.set_cons_succ]
      have u0 : ∀ X, (w5.alloc X).cell? ⟨w.heap.size, 0, none⟩ = some (.int .i64 0) := fun X => (HX5.out.below (p_al w5 X)).cell 0 rfl
      have u1 : ∀ X, (w5.alloc X).cell? ⟨w.heap.size, 1, none⟩ = some (.string ⟨#[]⟩) := fun X => (HX5.out.below (p_al w5 X)).cell 1 rfl
      have u2 : ∀ X, (w5.alloc X).cell? ⟨w.heap.size, 2, none⟩ = some (.int .i64 0) := fun X => (HX5.out.below (p_al w5 X)).cell 2 rfl
      have u3 : ∀ X, (w5.alloc X).cell? ⟨w.heap.size, 3, none⟩ = some (.int .i64 0) := fun X => (HX5.out.below (p_al w5 X)).cell 3 rfl
      have u4 : ∀ X, (w5.alloc X).cell? ⟨w.heap.size, 4, none⟩ = some (.string ⟨#[]⟩) := fun X => (HX5.out.below (p_al w5 X)).cell 4 rfl
      have u5 : ∀ X, (w5.alloc X).cell? ⟨w.heap.size, 5, none⟩ = some (.slice none 0 0) := fun X => (HX5.out.below (p_al w5 X)).cell 5 rfl
      have u6 : ∀ X, (w5.alloc X).cell? ⟨w.heap.size, 6, none⟩ = some (.slice none 0 0) := fun X => (HX5.out.below (p_al w5 X)).cell 6 rfl
      have u7 : ∀ X, (w5.alloc X).cell? ⟨w.heap.size, 7, none⟩ = some (.bool false) := fun X => (HX5.out.below (p_al w5 X)).cell 7 rfl
      have u8 : ∀ X, (w5.alloc X).cell? ⟨w.heap.size, 8, none⟩ = some (.slice none 0 0) := fun X => (HX5.out.below (p_al w5 X)).cell 8 rfl
      have u9 : ∀ X, (w5.alloc X).cell? ⟨w.heap.size, 9, none⟩ = some (.int .i64 0) := fun X => (HX5.out.below (p_al w5 X)).cell 9 rfl
      have l0 : ∀ X, (w5.alloc X).frozen? ⟨w.heap.size, 0, none⟩ = false := fun X => (HX5.out.below (p_al w5 X)).melt 0
      have l1 : ∀ X, (w5.alloc X).frozen? ⟨w.heap.size, 1, none⟩ = false := fun X => (HX5.out.below (p_al w5 X)).melt 1
      have l2 : ∀ X, (w5.alloc X).frozen? ⟨w.heap.size, 2, none⟩ = false := fun X => (HX5.out.below (p_al w5 X)).melt 2
      have l3 : ∀ X, (w5.alloc X).frozen? ⟨w.heap.size, 3, none⟩ = false := fun X => (HX5.out.below (p_al w5 X)).melt 3
      have l4 : ∀ X, (w5.alloc X).frozen? ⟨w.heap.size, 4, none⟩ = false := fun X => (HX5.out.below (p_al w5 X)).melt 4
      have l5 : ∀ X, (w5.alloc X).frozen? ⟨w.heap.size, 5, none⟩ = false := fun X => (HX5.out.below (p_al w5 X)).melt 5
      have l6 : ∀ X, (w5.alloc X).frozen? ⟨w.heap.size, 6, none⟩ = false := fun X => (HX5.out.below (p_al w5 X)).melt 6
      have l7 : ∀ X, (w5.alloc X).frozen? ⟨w.heap.size, 7, none⟩ = false := fun X => (HX5.out.below (p_al w5 X)).melt 7
      have l8 : ∀ X, (w5.alloc X).frozen? ⟨w.heap.size, 8, none⟩ = false := fun X => (HX5.out.below (p_al w5 X)).melt 8
      have l9 : ∀ X, (w5.alloc X).frozen? ⟨w.heap.size, 9, none⟩ = false := fun X => (HX5.out.below (p_al w5 X)).melt 9
      refine wpAnyH_ready (rs := [8]) (by kernel_rfl) (by simp) ?_
      refine AllReadyH.cons rfl (fun K hK => ?_) AllReadyH.nil
      go_simp
      have hal := p_al w5 (.cells #[.int .i64 n.kind, .string ⟨n.text.toArray⟩, .int .i64 n.val.kind, .int .i64 n.val.num, .string ⟨n.val.str.toArray⟩, .slice none 0 0, .slice none 0 0, .bool n.flag, .slice A n.kids.length ca, .int .i64 n.spot] 29)
      have hfr := ten_res w.heap.size (.int .i64 20) (.string ⟨X.text.toArray⟩) (.int .i64 0) (.int .i64 0) (.string ⟨#[]⟩) (.slice none 0 0) (.slice none 0 0) (.bool false) (.slice (some ⟨w5.heap.size, 0, none⟩) 1 1) (.int .i64 (X.pos : Int)) (w5.alloc (.cells #[.int .i64 n.kind, .string ⟨n.text.toArray⟩, .int .i64 n.val.kind, .int .i64 n.val.num, .string ⟨n.val.str.toArray⟩, .slice none 0 0, .slice none 0 0, .bool n.flag, .slice A n.kids.length ca, .int .i64 n.spot] 29))
      have hbx := ten_set (HX5.out.below hal) (.int .i64 20) (.string ⟨X.text.toArray⟩) (.int .i64 0) (.int .i64 0) (.string ⟨#[]⟩) (.slice none 0 0) (.slice none 0 0) (.bool false) (.slice (some ⟨w5.heap.size, 0, none⟩) 1 1) (.int .i64 (X.pos : Int))
      refine hK.out _ _ (by exact ⟨hfr.cell (bcell hal (HT5.out.cell 1 rfl)) (show ¬ w.heap.size = w1.heap.size by omega), hfr.cell (bcell hal (HT5.out.cell 3 rfl)) (show ¬ w.heap.size = w1.heap.size by omega)⟩) (fun hHeld => ?_)
      clear hK K
      have hz5 := HO5.out
      have hat9 := Hat.out
      have HK9 := (KidRow.lit1 (ok := fun b => w.heap.size < b) HO5.out (fun b _ h => by omega) (by omega) _ rfl).fr hfr (fun b hb h1 h2 => by omega)
      have HO9 := OwN.of (n := nodeP 20 X.text [n] X.pos) (by constructor <;> simp [N.kind]) (by constructor <;> simp [N.spot] <;> omega) (by simp [N.text]; omega) ⟨by constructor <;> simp [V.kind, V.zero, N.val], by constructor <;> simp [V.num, V.zero, N.val], by simp [V.str, V.zero, N.val], rfl, rfl⟩ (by simp [N.kids]) HK9
      have HE := Lib.hid (show EndN T gt cap g o w R (.returned (valO (nodeP 20 X.text [n] X.pos) (.slice (some ⟨w5.heap.size, 0, none⟩) 1 1))) _ from .inr ⟨_, _, k', HQ2.out, rfl, (HP5.out.below hal).fr hfr (by omega) (by omega), (HF5.out.below hal).past hfr (fun b hb h => by omega), HO9.imp fun b _ h => Nat.le_of_lt h⟩)
      obtain ⟨r0, r1, r2, r3, r4, r5, r6, r7, r8, r9⟩ := ten_cells hbx
      clear hbx hfr hal hat9 HK9 HO9 hz5
      refine wpAnyH_done (by kernel_rfl) ?_ _
      clear hHeld
      generalize (((((((((((w5.alloc (.cells #[.int .i64 n.kind, .string ⟨n.text.toArray⟩, .int .i64 n.val.kind, .int .i64 n.val.num, .string ⟨n.val.str.toArray⟩, .slice none 0 0, .slice none 0 0, .bool n.flag, .slice A n.kids.length ca, .int .i64 n.spot] 29)).setCell ⟨w.heap.size, 0, none⟩ (.int .i64 20)).setCell ⟨w.heap.size, 1, none⟩ (.string ⟨X.text.toArray⟩)).setCell ⟨w.heap.size, 2, none⟩ (.int .i64 0)).setCell ⟨w.heap.size, 3, none⟩ (.int .i64 0)).setCell ⟨w.heap.size, 4, none⟩ (.string ⟨#[]⟩)).setCell ⟨w.heap.size, 5, none⟩ (.slice none 0 0)).setCell ⟨w.heap.size, 6, none⟩ (.slice none 0 0)).setCell ⟨w.heap.size, 7, none⟩ (.bool false)).setCell ⟨w.heap.size, 8, none⟩ (.slice (some ⟨w5.heap.size, 0, none⟩) 1 1)).setCell ⟨w.heap.size, 9, none⟩ (.int .i64 (X.pos : Int))) = W9 at *
      go_wp2_with fail
      refine bodyPost_ret (v := valO (nodeP 20 X.text [n] X.pos) (.slice (some ⟨w5.heap.size, 0, none⟩) 1 1)) (by simp [results, Tryz.results234, go_sem, r0, r1, r2, r3, r4, r5, r6, r7, r8, r9, N.kind, N.text, N.val, N.flag, N.kids, N.spot, V.zero, V.kind, V.num, V.str]) rfl ?_
      exact HE.out
set_option maxRecDepth 20000 in
set_option maxHeartbeats 1000000 in
theorem k_pair_no_a (h : PSt T gt cap g k o w) (h1 : (((tkAt T k).kind : Int) != 1) = true) (h4 : (((tkAt T k).kind : Int) != 4) = true) :
    Calls Tryz.prog 234 #[pPtr g] w (EndN T gt cap g o w (pItem (f + 1) 1 o (T.drop k))) := by
  have hs : pItem (f + 1) 1 o (T.drop k) = .bad 170 (tkAt T k).pos := by rw [pItem, if_neg (by omega), if_pos rfl, hd_tkAt T k h.lt, if_neg (fun h => by simp at h1 h4; omega)]
  rw [hs]
  have H := Lib.hid h
  clear hs h
  go_enter Tryz.func234, Tryz.ntmps234
  go_wp2_with fail
  refine (p_peek (H.out.below (p_al _ _))).mono ?_
  rintro e w1 ⟨rfl, hb⟩
  have HB1 := Lib.hid (bthen (bthen (p_al w (.cells zNode 29)) hb) (p_al w1 (.cells #[.int .i64 ((tkAt T k).kind : Int), .string ⟨(tkAt T k).text.toArray⟩, .int .i64 ((tkAt T k).n : Int), .int .i64 ((tkAt T k).pos : Int)] 41)))
  clear hb
  go_wp2_with fail
  refine (p_fail (H.out.below HB1.out) 170 170 rfl).mono ?_
  rintro e w2 ⟨rfl, hb⟩
  have HF := Lib.hid (Fr.of_below (ok := fun b => g = b) (bthen HB1.out hb))
  clear hb
  go_wp2_with fail
  exact ⟨rfl, .inl ⟨_, _, rfl, rfl, HF.out⟩⟩
set_option maxRecDepth 20000 in
set_option maxHeartbeats 1000000 in
theorem k_pair_no_b (h : PSt T gt cap g k o w) (h1 : (((tkAt T k).kind : Int) != 1) = false) (hl : 32 < (tkAt T k).text.length) :
    Calls Tryz.prog 234 #[pPtr g] w (EndN T gt cap g o w (pItem (f + 1) 1 o (T.drop k))) := by
  have hs : pItem (f + 1) 1 o (T.drop k) = .bad 170 (tkAt T k).pos := by rw [pItem, if_neg (by omega), if_pos rfl, hd_tkAt T k h.lt, if_neg (fun h => by omega)]
  rw [hs]
  have hl' : (32 : Int) < ((tkAt T k).text.length : Int) := by omega
  have H := Lib.hid h
  clear hs h
  go_enter Tryz.func234, Tryz.ntmps234
  go_wp2_with fail
  refine (p_peek (H.out.below (p_al _ _))).mono ?_
  rintro e w1 ⟨rfl, hb⟩
  have HB1 := Lib.hid (bthen (bthen (p_al w (.cells zNode 29)) hb) (p_al w1 (.cells #[.int .i64 ((tkAt T k).kind : Int), .string ⟨(tkAt T k).text.toArray⟩, .int .i64 ((tkAt T k).n : Int), .int .i64 ((tkAt T k).pos : Int)] 41)))
  clear hb
  go_wp2_with fail
  refine (p_fail (H.out.below HB1.out) 170 170 rfl).mono ?_
  rintro e w2 ⟨rfl, hb⟩
  have HF := Lib.hid (Fr.of_below (ok := fun b => g = b) (bthen HB1.out hb))
  clear hb
  go_wp2_with fail
  exact ⟨rfl, .inl ⟨_, _, rfl, rfl, HF.out⟩⟩
set_option maxRecDepth 20000 in
set_option maxHeartbeats 1000000 in
theorem k_pair_no_c (h : PSt T gt cap g k o w) (h1 : (((tkAt T k).kind : Int) != 1) = true) (h4 : (((tkAt T k).kind : Int) != 4) = false) (hl : 32 < (tkAt T k).text.length) :
    Calls Tryz.prog 234 #[pPtr g] w (EndN T gt cap g o w (pItem (f + 1) 1 o (T.drop k))) := by
  have hs : pItem (f + 1) 1 o (T.drop k) = .bad 170 (tkAt T k).pos := by rw [pItem, if_neg (by omega), if_pos rfl, hd_tkAt T k h.lt, if_neg (fun h => by omega)]
  rw [hs]
  have hl' : (32 : Int) < ((tkAt T k).text.length : Int) := by omega
  have H := Lib.hid h
  clear hs h
  go_enter Tryz.func234, Tryz.ntmps234
  go_wp2_with fail
  refine (p_peek (H.out.below (p_al _ _))).mono ?_
  rintro e w1 ⟨rfl, hb⟩
  have HB1 := Lib.hid (bthen (bthen (p_al w (.cells zNode 29)) hb) (p_al w1 (.cells #[.int .i64 ((tkAt T k).kind : Int), .string ⟨(tkAt T k).text.toArray⟩, .int .i64 ((tkAt T k).n : Int), .int .i64 ((tkAt T k).pos : Int)] 41)))
  clear hb
  go_wp2_with fail
  refine (p_fail (H.out.below HB1.out) 170 170 rfl).mono ?_
  rintro e w2 ⟨rfl, hb⟩
  have HF := Lib.hid (Fr.of_below (ok := fun b => g = b) (bthen HB1.out hb))
  clear hb
  go_wp2_with fail
  exact ⟨rfl, .inl ⟨_, _, rfl, rfl, HF.out⟩⟩
theorem k_pair (hT : TkOk T) (ih : KnotE T gt cap g f) (h : PSt T gt cap g k o w) (hne : pItem (f + 1) 1 o (T.drop k) ≠ .out) :
    Calls Tryz.prog 234 #[pPtr g] w (EndN T gt cap g o w (pItem (f + 1) 1 o (T.drop k))) := by
  cases h1 : (((tkAt T k).kind : Int) != 1) with
  | false =>
    by_cases hl : (tkAt T k).text.length ≤ 32
    · exact k_pair_1 hT ih h h1 hl hne
    · exact k_pair_no_b h h1 (by omega)
  | true =>
    cases h4 : (((tkAt T k).kind : Int) != 4) with
    | true => exact k_pair_no_a h h1 h4
    | false =>
      by_cases hl : (tkAt T k).text.length ≤ 32
      · exact k_pair_4 hT ih h h1 h4 hl hne
      · exact k_pair_no_c h h1 h4 (by omega)
end
end Go.Proofs.YtlnhhffhmeekoaaGreatDoor
namespace Go.Proofs.YtlnhhffhmeekoaaGreatDoor
open Go.RowKit Go.IntWalk
section
variable {T : List Tok} {gt cap g k o f : Nat} {w : World}
set_option maxRecDepth 20000 in
set_option maxHeartbeats 1000000 in
theorem k_namedc (hT : TkOk T) (hf : f ≤ 200000) (ih : ∀ j, j ≤ f → KnotE T gt cap g j) (h : PSt T gt cap g k o w) (hne : pRow (f + 1) 0 [41] o (T.drop k) ≠ .out) (bp bn : Nat) (c0 c1 c2 c3 c4 c5 c6 c7 c8 c9 : Value) (hbp : Box bp #[pPtr g] 52 w) (hbn : Box bn #[c0, c1, c2, c3, c4, c5, c6, c7, c8, c9] 29 w) (hne1 : bn ≠ g) (hne2 : bn ≠ gt) :
    Calls Tryz.prog 245 #[pPtr bp, pPtr bn] w (EndK T gt cap g o bn c0 c1 c2 c3 c4 c5 c6 c7 c9 w (pRow (f + 1) 0 [41] o (T.drop k))) := by
  have Hih := Lib.hid ih
  have HI := Lib.hid (k_row hT hf 0 [41] 32 #[pPtr g] #[] (fun _ => by kernel_rfl) (fun _ => True) (fun _ _ _ _ => trivial) (fun j hj k' W hP _ hn => by
    cases j with
    | zero => exact absurd (by rw [pItem]) hn
    | succ i =>
      rw [show pItem (i + 1) 0 o (T.drop k') = pBin i 1 o (T.drop k') by rw [pItem, if_pos rfl]] at hn ⊢
      exact k_expr (Hih.out i (by omega)) hP hn) h trivial hne)
  have p0 := hbp.cell 0 rfl
  have hsz := hbn.lt
  have HN := Lib.hid hbn
  have hlg := h.box.lt
  have hlt := h.ltt
  clear h hbp hbn hne ih
  go_enter Tryz.func245, Tryz.ntmps245
  go_wp2_with fail
  refine HI.out.mono ?_
  rintro e w1 (⟨c, p, hr, rfl, hF⟩ | ⟨l, lv, k', hr, rfl, hP, hF, hK, hl⟩)
  · have HR := Lib.hid hr
    have HF := Lib.hid hF
    clear hr hF
    go_wp2_with fail
    exact ⟨rfl, .inl ⟨c, p, HR.out, rfl, HF.out.mono fun b _ h => .inl h⟩⟩
  · obtain ⟨A, ca, rfl⟩ := hK.lvs
    have HB := HN.out.fr hF (fun e => hne1 e.symm)
    have HE := Lib.hid (EndK.set hsz hne1 hne2 hr hP hF HB hK hl)
    obtain ⟨r0, r1, r2, r3, r4, r5, r6, r7, r8, r9⟩ := ten_cells HB
    obtain ⟨m0, m1, m2, m3, m4, m5, m6, m7, m8, m9⟩ := ten_melt HB
    clear hr hP hF hK HB
    go_wp2_with fail
    go_end0
    exact HE.out
set_option maxRecDepth 20000 in
set_option maxHeartbeats 1000000 in
theorem k_listc (hT : TkOk T) (hf : f ≤ 200000) (ih : ∀ j, j ≤ f → KnotE T gt cap g j) (h : PSt T gt cap g k o w) (hne : pRow (f + 1) 0 [93] o (T.drop k) ≠ .out) (bp bn : Nat) (c0 c1 c2 c3 c4 c5 c6 c7 c8 c9 : Value) (hbp : Box bp #[pPtr g] 52 w) (hbn : Box bn #[c0, c1, c2, c3, c4, c5, c6, c7, c8, c9] 29 w) (hne1 : bn ≠ g) (hne2 : bn ≠ gt) :
    Calls Tryz.prog 232 #[pPtr bp, pPtr bn] w (EndK T gt cap g o bn c0 c1 c2 c3 c4 c5 c6 c7 c9 w (pRow (f + 1) 0 [93] o (T.drop k))) := by
  have Hih := Lib.hid ih
  have HI := Lib.hid (k_row hT hf 0 [93] 32 #[pPtr g] #[] (fun _ => by kernel_rfl) (fun _ => True) (fun _ _ _ _ => trivial) (fun j hj k' W hP _ hn => by
    cases j with
    | zero => exact absurd (by rw [pItem]) hn
    | succ i =>
      rw [show pItem (i + 1) 0 o (T.drop k') = pBin i 1 o (T.drop k') by rw [pItem, if_pos rfl]] at hn ⊢
      exact k_expr (Hih.out i (by omega)) hP hn) h trivial hne)
  have p0 := hbp.cell 0 rfl
  have hsz := hbn.lt
  have HN := Lib.hid hbn
  have hlg := h.box.lt
  have hlt := h.ltt
  clear h hbp hbn hne ih
  go_enter Tryz.func232, Tryz.ntmps232
  go_wp2_with fail
  refine HI.out.mono ?_
  rintro e w1 (⟨c, p, hr, rfl, hF⟩ | ⟨l, lv, k', hr, rfl, hP, hF, hK, hl⟩)
  · have HR := Lib.hid hr
    have HF := Lib.hid hF
    clear hr hF
    go_wp2_with fail
    exact ⟨rfl, .inl ⟨c, p, HR.out, rfl, HF.out.mono fun b _ h => .inl h⟩⟩
  · obtain ⟨A, ca, rfl⟩ := hK.lvs
    have HB := HN.out.fr hF (fun e => hne1 e.symm)
    have HE := Lib.hid (EndK.set hsz hne1 hne2 hr hP hF HB hK hl)
    obtain ⟨r0, r1, r2, r3, r4, r5, r6, r7, r8, r9⟩ := ten_cells HB
    obtain ⟨m0, m1, m2, m3, m4, m5, m6, m7, m8, m9⟩ := ten_melt HB
    clear hr hP hF hK HB
    go_wp2_with fail
    go_end0
    exact HE.out
set_option maxRecDepth 20000 in
set_option maxHeartbeats 1000000 in
theorem k_fieldsc (hT : TkOk T) (hf : f ≤ 200000) (ih : ∀ j, j ≤ f → KnotE T gt cap g j) (h : PSt T gt cap g k o w) (hne : pRow (f + 1) 1 [125] o (T.drop k) ≠ .out) (bp bn : Nat) (c0 c1 c2 c3 c4 c5 c6 c7 c8 c9 : Value) (hbp : Box bp #[pPtr g] 52 w) (hbn : Box bn #[c0, c1, c2, c3, c4, c5, c6, c7, c8, c9] 29 w) (hne1 : bn ≠ g) (hne2 : bn ≠ gt) :
    Calls Tryz.prog 233 #[pPtr bp, pPtr bn] w (EndK T gt cap g o bn c0 c1 c2 c3 c4 c5 c6 c7 c9 w (pRow (f + 1) 1 [125] o (T.drop k))) := by
  have Hih := Lib.hid ih
  have HI := Lib.hid (k_row hT hf 1 [125] 234 #[pPtr g] #[] (fun _ => by kernel_rfl) (fun _ => True) (fun _ _ _ _ => trivial) (fun j hj k' W hP _ hn => by
    cases j with
    | zero => exact absurd (by rw [pItem]) hn
    | succ i =>
      exact k_pair hT (Hih.out i (by omega)) hP hn) h trivial hne)
  have p0 := hbp.cell 0 rfl
  have hsz := hbn.lt
  have HN := Lib.hid hbn
  have hlg := h.box.lt
  have hlt := h.ltt
  clear h hbp hbn hne ih
  go_enter Tryz.func233, Tryz.ntmps233
  go_wp2_with fail
  refine HI.out.mono ?_
  rintro e w1 (⟨c, p, hr, rfl, hF⟩ | ⟨l, lv, k', hr, rfl, hP, hF, hK, hl⟩)
  · have HR := Lib.hid hr
    have HF := Lib.hid hF
    clear hr hF
    go_wp2_with fail
    exact ⟨rfl, .inl ⟨c, p, HR.out, rfl, HF.out.mono fun b _ h => .inl h⟩⟩
  · obtain ⟨A, ca, rfl⟩ := hK.lvs
    have HB := HN.out.fr hF (fun e => hne1 e.symm)
    have HE := Lib.hid (EndK.set hsz hne1 hne2 hr hP hF HB hK hl)
    obtain ⟨r0, r1, r2, r3, r4, r5, r6, r7, r8, r9⟩ := ten_cells HB
    obtain ⟨m0, m1, m2, m3, m4, m5, m6, m7, m8, m9⟩ := ten_melt HB
    clear hr hP hF hK HB
    go_wp2_with fail
    go_end0
    exact HE.out
end
theorem named_ent (a : Array Value) (w : World) : (callFunc 245 a).run Tryz.prog w = .ok (.enter 245 a) w := by kernel_rfl
theorem list_ent (a : Array Value) (w : World) : (callFunc 232 a).run Tryz.prog w = .ok (.enter 232 a) w := by kernel_rfl
theorem fields_ent (a : Array Value) (w : World) : (callFunc 233 a).run Tryz.prog w = .ok (.enter 233 a) w := by kernel_rfl
theorem group_ent (a : Array Value) (w : World) : (callFunc 231 a).run Tryz.prog w = .ok (.enter 231 a) w := by kernel_rfl
theorem at_ent (a : Array Value) (w : World) : (callFunc 207 a).run Tryz.prog w = .ok (.enter 207 a) w := by kernel_rfl
end Go.Proofs.YtlnhhffhmeekoaaGreatDoor
namespace Go.Proofs.YtlnhhffhmeekoaaGreatDoor
open Go.RowKit Go.IntWalk
/-- what a closure that reads a node into a box comes to -/
def EndG (T : List Tok) (gt cap g o bn : Nat) (W : World) (r : PR N) (e : Ending) (W' : World) : Prop :=
  (∃ c p, r = .bad c p ∧ e = stopV c p ∧ Fr (fun b => g = b ∨ bn = b) W W') ∨
  (∃ n lv k', r = .ok n (T.drop k') ∧ e = .returned (.tuple #[]) ∧ PSt T gt cap g k' o W' ∧ Fr (fun b => g = b ∨ bn = b) W W' ∧ Box bn (cellsN n lv).toArray 29 W' ∧ OwN (fun b => W.heap.size ≤ b) W' (cellsN n lv) n)
section
variable {T : List Tok} {gt cap g k o f : Nat} {w : World}
set_option maxRecDepth 20000 in
set_option maxHeartbeats 1000000 in
theorem k_groupc (hT : TkOk T) (ih : KnotE T gt cap g f) (h : PSt T gt cap g k o w) (hne : (pBin f 1 o (T.drop k)).bind (fun n r => (mustT [41] r).bind fun _ r => PR.ok n r) ≠ .out) (bp bn : Nat) (c0 c1 c2 c3 c4 c5 c6 c7 c8 c9 : Value) (hbp : Box bp #[pPtr g] 52 w) (hbn : Box bn #[c0, c1, c2, c3, c4, c5, c6, c7, c8, c9] 29 w) (hne1 : bn ≠ g) (hne2 : bn ≠ gt) (hne3 : bp ≠ g) (hne4 : bp ≠ bn) :
    Calls Tryz.prog 231 #[pPtr bp, pPtr bn] w (EndG T gt cap g o bn w ((pBin f 1 o (T.drop k)).bind fun n r => (mustT [41] r).bind fun _ r => .ok n r)) := by
  have hin : pBin f 1 o (T.drop k) ≠ .out := fun e => hne (by rw [e]; rfl)
  have HI := Lib.hid (k_expr ih h hin)
  have p0 := hbp.cell 0 rfl
  have hsz := hbn.lt
  have HN := Lib.hid hbn
  have HBp := Lib.hid hbp
  have hlg := h.box.lt
  have hlt := h.ltt
  generalize hR : (pBin f 1 o (T.drop k)).bind (fun n r => (mustT [41] r).bind fun _ r => PR.ok n r) = R at *
  have HRR := Lib.hid hR
  clear h hbp hbn hne ih hin hR
  go_enter Tryz.func231, Tryz.ntmps231
  go_wp2_with fail
  refine HI.out.mono ?_
  rintro e w1 (⟨c, p, hr, rfl, hF⟩ | ⟨n, lv, k', hr, rfl, hP, hF, hO⟩)
  · have HR := Lib.hid hr
    have HF := Lib.hid hF
    clear hr hF
    go_wp2_with fail
    exact ⟨rfl, .inl ⟨c, p, by rw [← HRR.out, HR.out]; rfl, rfl, HF.out.mono fun b _ h => .inl h⟩⟩
  · obtain ⟨A, ca, rfl⟩ := hO.lvs
    have HB := HN.out.fr hF (fun e => hne1 e.symm)
    have HR := Lib.hid (show (mustT [41] (T.drop k')).bind (fun _ r => PR.ok n r) = R by rw [← HRR.out, hr]; rfl)
    have hfr := ten_res bn (.int .i64 n.kind) (.string ⟨n.text.toArray⟩) (.int .i64 n.val.kind) (.int .i64 n.val.num) (.string ⟨n.val.str.toArray⟩) (.slice none 0 0) (.slice none 0 0) (.bool n.flag) (.slice A n.kids.length ca) (.int .i64 n.spot) w1
    have hbx := ten_set HB (.int .i64 n.kind) (.string ⟨n.text.toArray⟩) (.int .i64 n.val.kind) (.int .i64 n.val.num) (.string ⟨n.val.str.toArray⟩) (.slice none 0 0) (.slice none 0 0) (.bool n.flag) (.slice A n.kids.length ca) (.int .i64 n.spot)
    have hs1 := hF.size
    have HP2 := Lib.hid (hP.fr hfr hne1 hne2)
    have HF2 := Lib.hid ((hF.mono (ok' := fun b => g = b ∨ bn = b) fun b _ h => .inl h).past hfr (fun b _ h => .inr h))
    have HO2 := Lib.hid (hO.fr hfr (fun b _ h1 h2 => by omega))
    have HX2 := Lib.hid hbx
    have HBp2 := Lib.hid ((HBp.out.fr hF (fun e => hne3 e.symm)).fr hfr (fun e => hne4 e.symm))
    have b0 := HBp2.out.cell 0 rfl
    obtain ⟨r0, r1, r2, r3, r4, r5, r6, r7, r8, r9⟩ := ten_cells HB
    obtain ⟨m0, m1, m2, m3, m4, m5, m6, m7, m8, m9⟩ := ten_melt HB
    have p1 : w1.cell? ⟨bp, 0, none⟩ = some (pPtr g) := (HBp.out.fr hF (fun e => hne3 e.symm)).cell 0 rfl
    clear hr hP hF hO HB hfr hbx b0 HI HRR
    go_wp2_with fail
    generalize ((((((((((w1.setCell ⟨bn, 0, none⟩ (.int .i64 n.kind)).setCell ⟨bn, 1, none⟩ (.string ⟨n.text.toArray⟩)).setCell ⟨bn, 2, none⟩ (.int .i64 n.val.kind)).setCell ⟨bn, 3, none⟩ (.int .i64 n.val.num)).setCell ⟨bn, 4, none⟩ (.string ⟨n.val.str.toArray⟩)).setCell ⟨bn, 5, none⟩ (.slice none 0 0)).setCell ⟨bn, 6, none⟩ (.slice none 0 0)).setCell ⟨bn, 7, none⟩ (.bool n.flag)).setCell ⟨bn, 8, none⟩ (.slice A n.kids.length ca)).setCell ⟨bn, 9, none⟩ (.int .i64 n.spot)) = w2 at *
    cases hm : isT [41] (T.drop k') with
    | false =>
      have HQ := Lib.hid (show R = .bad 170 (tkAt T k').pos by rw [← HR.out, mustT, if_neg (by rw [hm]; simp), hd_tkAt T k' HP2.out.lt]; rfl)
      refine (p_must_no HP2.out [41] hm).mono ?_
      rintro e w3 ⟨rfl, hb⟩
      have HF3 := Lib.hid (HF2.out.below hb)
      clear hb
      go_wp2_with fail
      exact ⟨rfl, .inl ⟨_, _, HQ.out, rfl, HF3.out⟩⟩
    | true =>
      have HQ := Lib.hid (show R = .ok n (T.drop (k' + 1)) by rw [← HR.out, mustT, if_pos hm, drop_tail]; rfl)
      refine (p_must_yes hT HP2.out [41] hm).mono ?_
      rintro e w3 ⟨rfl, hP, hF⟩
      have HE := Lib.hid (show EndG T gt cap g o bn w R (.returned (.tuple #[])) w3 from .inr ⟨n, .slice A n.kids.length ca, k' + 1, HQ.out, rfl, hP, HF2.out.trans (hF.mono fun b _ h => .inl h), HX2.out.fr hF (fun e => hne1 e.symm), HO2.out.fr hF (fun b _ h1 h2 => by omega)⟩)
      clear hP hF
      go_wp2_with fail
      go_end0
      exact HE.out
set_option maxRecDepth 20000 in
set_option maxHeartbeats 1000000 in
theorem k_atc (hT : TkOk T) (ih : KnotE T gt cap g f) (h : PSt T gt cap g k o w) (hne : (pBin f 1 o (T.drop k)).bind (fun n r => (mustT [93] r).bind fun _ r => PR.ok n r) ≠ .out) (bp bn : Nat) (c0 c1 c2 c3 c4 c5 c6 c7 c8 c9 : Value) (hbp : Box bp #[pPtr g] 52 w) (hbn : Box bn #[c0, c1, c2, c3, c4, c5, c6, c7, c8, c9] 29 w) (hne1 : bn ≠ g) (hne2 : bn ≠ gt) (hne3 : bp ≠ g) (hne4 : bp ≠ bn) :
    Calls Tryz.prog 207 #[pPtr bp, pPtr bn] w (EndG T gt cap g o bn w ((pBin f 1 o (T.drop k)).bind fun n r => (mustT [93] r).bind fun _ r => .ok n r)) := by
  have hin : pBin f 1 o (T.drop k) ≠ .out := fun e => hne (by rw [e]; rfl)
  have HI := Lib.hid (k_expr ih h hin)
  have p0 := hbp.cell 0 rfl
  have hsz := hbn.lt
  have HN := Lib.hid hbn
  have HBp := Lib.hid hbp
  have hlg := h.box.lt
  have hlt := h.ltt
  generalize hR : (pBin f 1 o (T.drop k)).bind (fun n r => (mustT [93] r).bind fun _ r => PR.ok n r) = R at *
  have HRR := Lib.hid hR
  clear h hbp hbn hne ih hin hR
  go_enter Tryz.func207, Tryz.ntmps207
  go_wp2_with fail
  refine HI.out.mono ?_
  rintro e w1 (⟨c, p, hr, rfl, hF⟩ | ⟨n, lv, k', hr, rfl, hP, hF, hO⟩)
  · have HR := Lib.hid hr
    have HF := Lib.hid hF
    clear hr hF
    go_wp2_with fail
    exact ⟨rfl, .inl ⟨c, p, by rw [← HRR.out, HR.out]; rfl, rfl, HF.out.mono fun b _ h => .inl h⟩⟩
  · obtain ⟨A, ca, rfl⟩ := hO.lvs
    have HB := HN.out.fr hF (fun e => hne1 e.symm)
    have HR := Lib.hid (show (mustT [93] (T.drop k')).bind (fun _ r => PR.ok n r) = R by rw [← HRR.out, hr]; rfl)
    have hfr := ten_res bn (.int .i64 n.kind) (.string ⟨n.text.toArray⟩) (.int .i64 n.val.kind) (.int .i64 n.val.num) (.string ⟨n.val.str.toArray⟩) (.slice none 0 0) (.slice none 0 0) (.bool n.flag) (.slice A n.kids.length ca) (.int .i64 n.spot) w1
    have hbx := ten_set HB (.int .i64 n.kind) (.string ⟨n.text.toArray⟩) (.int .i64 n.val.kind) (.int .i64 n.val.num) (.string ⟨n.val.str.toArray⟩) (.slice none 0 0) (.slice none 0 0) (.bool n.flag) (.slice A n.kids.length ca) (.int .i64 n.spot)
    have hs1 := hF.size
    have HP2 := Lib.hid (hP.fr hfr hne1 hne2)
    have HF2 := Lib.hid ((hF.mono (ok' := fun b => g = b ∨ bn = b) fun b _ h => .inl h).past hfr (fun b _ h => .inr h))
    have HO2 := Lib.hid (hO.fr hfr (fun b _ h1 h2 => by omega))
    have HX2 := Lib.hid hbx
    have HBp2 := Lib.hid ((HBp.out.fr hF (fun e => hne3 e.symm)).fr hfr (fun e => hne4 e.symm))
    have b0 := HBp2.out.cell 0 rfl
    obtain ⟨r0, r1, r2, r3, r4, r5, r6, r7, r8, r9⟩ := ten_cells HB
    obtain ⟨m0, m1, m2, m3, m4, m5, m6, m7, m8, m9⟩ := ten_melt HB
    have p1 : w1.cell? ⟨bp, 0, none⟩ = some (pPtr g) := (HBp.out.fr hF (fun e => hne3 e.symm)).cell 0 rfl
    clear hr hP hF hO HB hfr hbx b0 HI HRR
    go_wp2_with fail
    generalize ((((((((((w1.setCell ⟨bn, 0, none⟩ (.int .i64 n.kind)).setCell ⟨bn, 1, none⟩ (.string ⟨n.text.toArray⟩)).setCell ⟨bn, 2, none⟩ (.int .i64 n.val.kind)).setCell ⟨bn, 3, none⟩ (.int .i64 n.val.num)).setCell ⟨bn, 4, none⟩ (.string ⟨n.val.str.toArray⟩)).setCell ⟨bn, 5, none⟩ (.slice none 0 0)).setCell ⟨bn, 6, none⟩ (.slice none 0 0)).setCell ⟨bn, 7, none⟩ (.bool n.flag)).setCell ⟨bn, 8, none⟩ (.slice A n.kids.length ca)).setCell ⟨bn, 9, none⟩ (.int .i64 n.spot)) = w2 at *
    cases hm : isT [93] (T.drop k') with
    | false =>
      have HQ := Lib.hid (show R = .bad 170 (tkAt T k').pos by rw [← HR.out, mustT, if_neg (by rw [hm]; simp), hd_tkAt T k' HP2.out.lt]; rfl)
      refine (p_must_no HP2.out [93] hm).mono ?_
      rintro e w3 ⟨rfl, hb⟩
      have HF3 := Lib.hid (HF2.out.below hb)
      clear hb
      go_wp2_with fail
      exact ⟨rfl, .inl ⟨_, _, HQ.out, rfl, HF3.out⟩⟩
    | true =>
      have HQ := Lib.hid (show R = .ok n (T.drop (k' + 1)) by rw [← HR.out, mustT, if_pos hm, drop_tail]; rfl)
      refine (p_must_yes hT HP2.out [93] hm).mono ?_
      rintro e w3 ⟨rfl, hP, hF⟩
      have HE := Lib.hid (show EndG T gt cap g o bn w R (.returned (.tuple #[])) w3 from .inr ⟨n, .slice A n.kids.length ca, k' + 1, HQ.out, rfl, hP, HF2.out.trans (hF.mono fun b _ h => .inl h), HX2.out.fr hF (fun e => hne1 e.symm), HO2.out.fr hF (fun b _ h1 h2 => by omega)⟩)
      clear hP hF
      go_wp2_with fail
      go_end0
      exact HE.out
/-- within, of a closure that reads a node into a box -/
theorem within_node (hT : TkOk T) (h : PSt T gt cap g k o w) (h1 : k + 1 < T.length) (ho : o < 24) (F bp bn : Nat) (hent : ∀ w, (callFunc F #[pPtr bp, pPtr bn]).run Tryz.prog w = .ok (.enter F #[pPtr bp, pPtr bn]) w) (hbn : bn < w.heap.size) (hne2 : bn ≠ gt) (hne1 : bn ≠ g) (c0 c1 c2 c3 c4 c5 c6 c7 c8 c9 : Value)
    (hB : Box bn #[c0, c1, c2, c3, c4, c5, c6, c7, c8, c9] 29 w) (hbp : Box bp #[pPtr g] 52 w) (hne3 : bp ≠ g) (r : PR N)
    (hC : ∀ W1, PSt T gt cap g (k + 1) (o + 1) W1 → Box bp #[pPtr g] 52 W1 → Box bn #[c0, c1, c2, c3, c4, c5, c6, c7, c8, c9] 29 W1 → Calls Tryz.prog F #[pPtr bp, pPtr bn] W1 (EndG T gt cap g (o + 1) bn W1 r)) :
    Calls Tryz.prog 169 #[pPtr g, .func (.func F) #[] #[pPtr bp, pPtr bn]] w fun e w' =>
      (∃ c p, r = .bad c p ∧ e = stopV c p ∧ Fr (fun b => g = b ∨ bn = b) w w') ∨
      (∃ n lv k', r = .ok n (T.drop k') ∧ e = .returned (tokP (tkAt T k)) ∧ PSt T gt cap g k' o w' ∧ Fr (fun b => g = b ∨ bn = b) w w' ∧ Box bn (cellsN n lv).toArray 29 w' ∧ OwN (fun b => w.heap.size + 2 ≤ b) w' (cellsN n lv) n) := by
  have hlg := h.box.lt
  refine (p_within hT h h1 ho F #[pPtr bp, pPtr bn] hent (fun b => bn = b) (fun b hb => by subst hb; exact ⟨hbn, hne2⟩) (fun c p => r = .bad c p) (fun k' W1 W2 => ∃ n lv, r = .ok n (T.drop k') ∧ Box bn (cellsN n lv).toArray 29 W2 ∧ OwN (fun b => W1.heap.size ≤ b) W2 (cellsN n lv) n) ?_).mono ?_
  · intro W1 hP hF hz
    refine (hC W1 hP (hbp.fr hF fun e => hne3 e.symm) (hB.fr hF fun e => hne1 e.symm)).mono ?_
    rintro e W2 (⟨c, p, hr, rfl, hF2⟩ | ⟨n, lv, k', hr, rfl, hP2, hF2, hB2, hK⟩)
    · exact .inl ⟨c, p, rfl, hr, hF2⟩
    · exact .inr ⟨rfl, k', hP2, hF2, n, lv, hr, hB2, hK⟩
  · rintro e w' (⟨c, p, rfl, hr, hF⟩ | ⟨rfl, k', W1, W2, hP, ⟨n, lv, hr, hB2, hK⟩, hF1, hz, hF2, hF3⟩)
    · exact .inl ⟨c, p, hr, rfl, hF⟩
    · refine .inr ⟨n, lv, k', hr, rfl, hP, ?_, hB2.fr hF3 (fun h => h.elim (fun e => hne1 e.symm) (fun e => by omega)), (hK.fr hF3 fun b hb h1 h2 => ?_).imp fun b _ h => by omega⟩
      · exact ((hF1.mono fun b _ h => .inl h).trans hF2).past hF3 fun b hb h => h.elim (fun h => .inl h) (fun h => by omega)
      · rcases h2 with h2 | h2 <;> omega
end
end Go.Proofs.YtlnhhffhmeekoaaGreatDoor
namespace Go.Proofs.YtlnhhffhmeekoaaGreatDoor
open Go.RowKit Go.IntWalk

/-- a Name or a Call, from its name on -/
def pNamed (f o : Nat) (ts : List Tok) : PR N :=
  if isT [40] ts.tail = true then opensT o ts.tail fun r => (pRow f 0 [41] (o + 1) r).bind fun l r => .ok (nodeP 15 (hdT ts).text l (hdT ts).pos) r
  else .ok (nodeP 14 (hdT ts).text [] (hdT ts).pos) ts.tail
theorem PR.bind_bad {α β : Type} {r : PR α} {k : α → List Tok → PR β} {c p : Nat} (h : r = .bad c p) : r.bind k = .bad c p := by rw [h]; rfl
theorem PR.bind_ok {α β : Type} {r : PR α} {k : α → List Tok → PR β} {x : α} {ts : List Tok} (h : r = .ok x ts) : r.bind k = k x ts := by rw [h]; rfl
section
variable {T : List Tok} {gt cap g k o f : Nat} {w : World}
theorem leafOk (ok : Nat → Prop) (W : World) (K : Int) (hK : K = 13 ∨ K = 14 ∨ K = 3) (X : Tok) (h1 : X.text.length ≤ 8192) (h2 : X.pos ≤ 8192) : OwN ok W (cellsN (nodeP K X.text [] X.pos) (.slice none 0 0)) (nodeP K X.text [] X.pos) :=
  OwN.leaf ok W _ (by constructor <;> simp [N.kind] <;> omega) (by constructor <;> simp [N.spot] <;> omega) (by simp [N.text]; omega) ⟨by constructor <;> simp [V.kind, V.zero, N.val], by constructor <;> simp [V.num, V.zero, N.val], by simp [V.str, V.zero, N.val], rfl, rfl⟩ rfl
set_option maxRecDepth 20000 in
set_option maxHeartbeats 2000000 in
theorem k_named (hT : TkOk T) (hf : f ≤ 200000) (ih : ∀ j, j < f → KnotE T gt cap g j) (h : PSt T gt cap g k o w) (h0 : (tkAt T k).kind ≠ 0) (hne : pNamed f o (T.drop k) ≠ .out) :
    Calls Tryz.prog 230 #[pPtr g] w (EndN T gt cap g o w (pNamed f o (T.drop k))) := by
  have hk1 := hT.next h.lt h0
  have hat := hT.at h.lt
  unfold pNamed at hne ⊢
  rw [drop_tail, hd_tkAt T k h.lt] at hne ⊢
  generalize hXX : tkAt T k = X at *
  generalize hR : (if isT [40] (T.drop (k + 1)) = true then opensT o (T.drop (k + 1)) fun r => (pRow f 0 [41] (o + 1) r).bind fun l r => .ok (nodeP 15 X.text l X.pos) r else .ok (nodeP 14 X.text [] X.pos) (T.drop (k + 1))) = R at *
  obtain ⟨b1, b2, b3⟩ := two_new w #[pPtr g] zNode 52 29
  have HRR := Lib.hid hR
  have HXX := Lib.hid hXX
  have HNe := Lib.hid hne
  have Hih := Lib.hid ih
  have Hat := Lib.hid hat
  have hlg := h.box.lt
  have hlt := h.ltt
  have HB1 := Lib.hid b1
  have HB2 := Lib.hid b2
  have HB3 := Lib.hid b3
  have H := Lib.hid (h.below b3)
  have c0 := b1.cell 0 rfl
  clear h hR hne ih hat hXX b1 b2 b3 h0
  go_enter Tryz.func230, Tryz.ntmps230
  go_wp2_with fail
  refine (p_next H.out hk1).mono ?_
  rintro e w1 ⟨rfl, hP, hF⟩
  rw [HXX.out]
  have HP1 := Lib.hid hP
  have HF1 := Lib.hid ((Fr.of_below HB3.out).trans hF)
  have HC1 := Lib.hid (HB1.out.fr hF (by omega))
  have HC2 := Lib.hid (HB2.out.fr hF (by omega))
  have hz1 : w.heap.size + 1 < w1.heap.size := HC2.out.lt
  clear hP hF HB1 HB2 HB3 c0 H
  have hal := two_new w1 #[.int .i64 (X.kind : Int), .string ⟨X.text.toArray⟩, .int .i64 (X.n : Int), .int .i64 (X.pos : Int)] #[.int .i64 14, .string ⟨X.text.toArray⟩, .int .i64 0, .int .i64 0, .string ⟨#[]⟩, .slice none 0 0, .slice none 0 0, .bool false, .slice none 0 0, .int .i64 (X.pos : Int)] 41 29
  have HP2 := Lib.hid (HP1.out.below hal.2.2)
  have HF2 := Lib.hid (HF1.out.below hal.2.2)
  have HD1 := Lib.hid (HC1.out.below hal.2.2)
  have HD2 := Lib.hid (HC2.out.below hal.2.2)
  have HN2 := Lib.hid hal.2.1
  have hz2 : w1.heap.size + 2 = ((w1.alloc (.cells #[.int .i64 (X.kind : Int), .string ⟨X.text.toArray⟩, .int .i64 (X.n : Int), .int .i64 (X.pos : Int)] 41)).alloc (.cells #[.int .i64 14, .string ⟨X.text.toArray⟩, .int .i64 0, .int .i64 0, .string ⟨#[]⟩, .slice none 0 0, .slice none 0 0, .bool false, .slice none 0 0, .int .i64 (X.pos : Int)] 29)).heap.size := by simp
  clear hal
  have d0 : ∀ A B, ((w1.alloc A).alloc B).cell? ⟨w.heap.size, 0, none⟩ = some (pPtr g) := fun A B => (HC1.out.below (bthen (p_al w1 A) (p_al _ B))).cell 0 rfl
  go_wp2_with fail
  generalize ((w1.alloc (.cells #[.int .i64 (X.kind : Int), .string ⟨X.text.toArray⟩, .int .i64 (X.n : Int), .int .i64 (X.pos : Int)] 41)).alloc (.cells #[.int .i64 14, .string ⟨X.text.toArray⟩, .int .i64 0, .int .i64 0, .string ⟨#[]⟩, .slice none 0 0, .slice none 0 0, .bool false, .slice none 0 0, .int .i64 (X.pos : Int)] 29)) = w2 at *
  clear d0
  cases hi : isT [40] (T.drop (k + 1)) with
  | false =>
    have HQ := Lib.hid (show R = .ok (nodeP 14 X.text [] X.pos) (T.drop (k + 1)) by rw [← HRR.out, if_neg (by rw [hi]; simp)])
    refine (p_is_at HP2.out [40] false hi).mono ?_
    rintro e w3 ⟨rfl, hb⟩
    have hE := EndN.ret hlg hlt HQ.out (HP2.out.below hb) (HF2.out.below hb) (leafOk (fun b => w.heap.size + 2 ≤ b) w3 14 (by omega) X (by have := Hat.out; omega) (by have := Hat.out; omega)) (show w.heap.size ≤ w.heap.size + 1 by omega) (by omega)
    have HE := Lib.hid hE
    obtain ⟨r0, r1, r2, r3, r4, r5, r6, r7, r8, r9⟩ := ten_cells (HD2.out.below hb)
    obtain ⟨m0, m1, m2, m3, m4, m5, m6, m7, m8, m9⟩ := ten_melt (HD2.out.below hb)
    obtain ⟨t0, t1, t2, t3, t4, t5, t6, t7, t8, t9⟩ := ten_cells (HN2.out.below hb)
    clear hb hE
    go_wp2_with fail
    refine bodyPost_ret (v := valO (nodeP 14 X.text [] X.pos) (.slice none 0 0)) (by simp [results, Tryz.results230, go_sem, r0, r1, r2, r3, r4, r5, r6, r7, r8, r9, N.kind, N.text, N.val, N.flag, N.kids, N.spot, V.zero, V.kind, V.num, V.str]) rfl ?_
    exact HE.out
  | true =>
    have HQ := Lib.hid (show (opensT o (T.drop (k + 1)) fun r => (pRow f 0 [41] (o + 1) r).bind fun l r => .ok (nodeP 15 X.text l X.pos) r) = R by rw [← HRR.out, if_pos hi])
    have hk2 := isT_next hT hk1 hi
    refine (p_is_at HP2.out [40] true hi).mono ?_
    rintro e w3 ⟨rfl, hb⟩
    have HP3 := Lib.hid (HP2.out.below hb)
    have HF3 := Lib.hid (HF2.out.below hb)
    have HE1 := Lib.hid (HD1.out.below hb)
    have HE2 := Lib.hid (HD2.out.below hb)
    have HN3 := Lib.hid (HN2.out.below hb)
    have hz3 := hb.size
    have hz4 := HN3.out.lt
    obtain ⟨t0, t1, t2, t3, t4, t5, t6, t7, t8, t9⟩ := ten_cells HN3.out
    obtain ⟨m0, m1, m2, m3, m4, m5, m6, m7, m8, m9⟩ := ten_melt HN3.out
    have hset : Fr (fun b => w1.heap.size + 1 = b) w3 (w3.setCell ⟨w1.heap.size + 1, 0, none⟩ (.int .i64 15)) := (Fr.refl _ w3).set1 _ 0 rfl _
    have HP4 := Lib.hid (HP3.out.fr hset (by omega) (by omega))
    have HF4 := Lib.hid (HF3.out.past hset (fun b _ h => by omega))
    have HG1 := Lib.hid (HE1.out.fr hset (by omega))
    have HG2 := Lib.hid (HE2.out.fr hset (by omega))
    have hbx := HN3.out.set 0 (.int .i64 15)
    simp only [List.setIfInBounds_toArray, List.set_cons_zero, List.set_cons_succ] at hbx
    have HN4 := Lib.hid hbx
    have p3 := HE1.out.cell 0 rfl
    have hneq : ¬ w.heap.size = w1.heap.size + 1 := by omega
    clear hb hset hbx hi
    go_wp2_with fail
    have hz5 : w3.heap.size = (w3.setCell ⟨w1.heap.size + 1, 0, none⟩ (.int .i64 15)).heap.size := by simp [World.setCell]
    generalize (w3.setCell ⟨w1.heap.size + 1, 0, none⟩ (.int .i64 15)) = w4 at *
    clear t0 t1 t2 t3 t4 t5 t6 t7 t8 t9 m0 m1 m2 m3 m4 m5 m6 m7 m8 m9 p3
    unfold opensT at HQ
    by_cases ho : o = 24
    · subst ho
      have HQ2 := Lib.hid (show R = .bad 171 (tkAt T (k + 1)).pos by rw [← HQ.out, if_pos rfl, hd_tkAt T (k + 1) hk1])
      refine (p_within_no HP4.out _).mono ?_
      rintro e w5 ⟨rfl, hF⟩
      have HF5 := Lib.hid (HF4.out.trans hF)
      clear hF
      go_wp2_with fail
      exact ⟨rfl, .inl ⟨_, _, HQ2.out, rfl, HF5.out⟩⟩
    · cases f with
      | zero => exact absurd (show R = .out by rw [← HQ.out, if_neg ho]; simp only [pRow]; rfl) HNe.out
      | succ f =>
      have HQ2 := Lib.hid (show (pRow (f + 1) 0 [41] (o + 1) (T.drop (k + 1 + 1))).bind (fun l r => .ok (nodeP 15 X.text l X.pos) r) = R by rw [← HQ.out, if_neg ho, drop_tail])
      have hin : pRow (f + 1) 0 [41] (o + 1) (T.drop (k + 1 + 1)) ≠ .out := fun e => HNe.out (by rw [← HQ2.out, e]; rfl)
      have Hin := Lib.hid hin
      clear hin
      refine (within_kids hT HP4.out hk2 (by have := HP4.out.open_; omega) 245 w.heap.size (w1.heap.size + 1) (named_ent _) (by omega) (by omega) (by omega) _ _ _ _ _ _ _ _ _ _ HN4.out HG1.out (by omega) (pRow (f + 1) 0 [41] (o + 1) (T.drop (k + 1 + 1))) ?_).mono ?_
      · intro W1 hP hb1 hb2
        exact k_namedc hT (by omega) (fun j hj => Hih.out j (by omega)) hP Hin.out _ _ _ _ _ _ _ _ _ _ _ _ hb1 hb2 (by omega) (by omega)
      · rintro e w5 (⟨c, p, hr, rfl, hF⟩ | ⟨l, lv, k', hr, rfl, hP, hF, hB, hK, hl⟩)
        · have HF := Lib.hid (HF4.out.past hF (fun b hb h => h.elim (fun h => h) (fun h => by omega)))
          have HQ3 := Lib.hid (show R = .bad c p by rw [← HQ2.out, PR.bind_bad hr])
          clear hF hr
          go_wp2_with fail
          exact ⟨rfl, .inl ⟨_, _, HQ3.out, rfl, HF.out⟩⟩
        · obtain ⟨A, ca, rfl⟩ := hK.lvs
          have HQ3 := Lib.hid (show R = .ok (nodeP 15 X.text l X.pos) (T.drop k') by rw [← HQ2.out, PR.bind_ok hr])
          have hX5 := HG2.out.fr hF (fun h => h.elim (fun e => by omega) (fun e => by omega))
          have hO : OwN (fun b => w4.heap.size + 2 ≤ b) w5 (cellsN (nodeP 15 X.text l X.pos) (.slice A l.length ca)) (nodeP 15 X.text l X.pos) :=
            OwN.of (by constructor <;> simp [N.kind]) (by have := Hat.out; constructor <;> simp [N.spot] <;> omega) (by have := Hat.out; simp [N.text]; omega) ⟨by constructor <;> simp [V.kind, V.zero, N.val], by constructor <;> simp [V.num, V.zero, N.val], by simp [V.str, V.zero, N.val], rfl, rfl⟩ (by simp only [N.kids]; omega) hK
          have HE := Lib.hid (EndN.ret hlg hlt HQ3.out hP (HF4.out.past hF (fun b hb h => h.elim (fun h => h) (fun h => by omega))) hO (show w.heap.size ≤ w.heap.size + 1 by omega) (by omega))
          obtain ⟨r0, r1, r2, r3, r4, r5, r6, r7, r8, r9⟩ := ten_cells hX5
          obtain ⟨m0, m1, m2, m3, m4, m5, m6, m7, m8, m9⟩ := ten_melt hX5
          obtain ⟨t0, t1, t2, t3, t4, t5, t6, t7, t8, t9⟩ := ten_cells hB
          clear hr hP hF hB hK hX5 hO
          go_wp2_with fail
          refine bodyPost_ret (v := valO (nodeP 15 X.text l X.pos) (.slice A l.length ca)) (by simp [results, Tryz.results230, go_sem, r0, r1, r2, r3, r4, r5, r6, r7, r8, r9, N.kind, N.text, N.val, N.flag, N.kids, N.spot, V.zero, V.kind, V.num, V.str]) rfl ?_
          exact HE.out
end
end Go.Proofs.YtlnhhffhmeekoaaGreatDoor
