/- The parser's walks: fn. The parser's walks: program. The parser's walks: the deferred closure of read. -/
import Derived.Test.YtlnhhffhmeekoaaGreatDoorGParR
import Derived.Defers
import Derived.Recover
set_option linter.unusedVariables false
set_option linter.unusedSimpArgs false
namespace Go.Proofs.YtlnhhffhmeekoaaGreatDoor
open Go.RowKit Go.IntWalk
section
variable {T : List Tok} {gt cap g k o f : Nat} {w : World}
theorem p_take (hT : TkOk T) (h : PSt T gt cap g k o w) (s : List UInt8) {b : Bool} (hb : isT s (T.drop k) = b) {k1 : Nat} (hk : k1 = if b = true then k + 1 else k) :
    Calls Tryz.prog 124 #[.pointer (some ⟨g, 0, none⟩), .string ⟨s.toArray⟩] w fun e w' => e = .returned (.bool b) ∧ PSt T gt cap g k1 o w' ∧ Fr (fun b => g = b) w w' := by
  subst hk
  cases b with
  | true => exact p_take_yes hT h s hb
  | false =>
    refine (p_take_no h s hb).mono ?_
    rintro e w' ⟨rfl, hb⟩
    exact ⟨rfl, h.below hb, Fr.of_below hb⟩
/-- behind fn's first line -/
def FnQ (T : List Tok) (gt cap g k1 : Nat) (w : World) (X : Tok) (bx : Bool) (e : Exit) (a : Act) (W : World) : Prop :=
  e = .normal ∧ ∃ nb, a = { tmps := #[pPtr g, pPtr w.heap.size, pPtr (w.heap.size + 1), pPtr nb, pPtr g, tokP X, .int .i64 (X.pos : Int), pPtr g, .bool bx, .agg #[.int .i64 2, .string ⟨#[]⟩, .int .i64 0, .int .i64 0, .string ⟨#[]⟩, .slice none 0 0, .slice none 0 0, .bool bx, .slice none 0 0, .int .i64 (X.pos : Int)], undef, undef, undef, undef, undef, undef, undef, undef, undef, undef, undef, undef, undef, undef, undef, undef, undef, undef, undef, undef], defers := [] } ∧ w.heap.size + 2 ≤ nb ∧ PSt T gt cap g k1 0 W ∧ Fr (fun b => g = b) w W ∧
    Box w.heap.size #[pPtr g] 52 W ∧ Box (w.heap.size + 1) zNode 29 W ∧ Box nb #[.int .i64 2, .string ⟨#[]⟩, .int .i64 0, .int .i64 0, .string ⟨#[]⟩, .slice none 0 0, .slice none 0 0, .bool bx, .slice none 0 0, .int .i64 (X.pos : Int)] 29 W
set_option maxRecDepth 20000 in
set_option maxHeartbeats 2000000 in
theorem k_fn (hT : TkOk T) (hf : f ≤ 199999) (h : PSt T gt cap g k 0 w) (hne : pFn (f + 1) (T.drop k) ≠ .out) :
    Calls Tryz.prog 70 #[pPtr g] w (EndN T gt cap g 0 w (pFn (f + 1) (T.drop k))) := by
  have hat := hT.at h.lt
  have hkT := hd_tkAt T k h.lt
  generalize hbx : isT [101, 120, 112, 111, 114, 116] (T.drop k) = bx at *
  obtain ⟨k1, hk1⟩ : ∃ k1, k1 = if bx = true then k + 1 else k := ⟨_, rfl⟩
  generalize hR : pFn (f + 1) (T.drop k) = R at *
  rw [pFn, hkT, hbx, show (if bx = true then (T.drop k).tail else T.drop k) = T.drop k1 by rw [hk1]; cases bx <;> simp] at hR
  generalize hXX : tkAt T k = X at *
  obtain ⟨b1, b2, b3⟩ := two_new w #[pPtr g] zNode 52 29
  have hlg := h.box.lt
  have hlt := h.ltt
  have HRR := Lib.hid hR
  have HXX := Lib.hid hXX
  have HNe := Lib.hid hne
  have Hat := Lib.hid hat
  have HP1 := Lib.hid (h.below b3)
  have HF1 := Lib.hid (Fr.of_below (ok := fun b => g = b) b3)
  have HD1 := Lib.hid b1
  have HE1 := Lib.hid b2
  have hz1 : w.heap.size + 2 = ((w.alloc (.cells #[pPtr g] 52)).alloc (.cells zNode 29)).heap.size := by simp
  clear h hR hne hat hXX b1 b2 b3
  go_enter Tryz.func70, Tryz.ntmps70
  go_upto_region 1 with fail
  generalize ((w.alloc (.cells #[pPtr g] 52)).alloc (.cells zNode 29)) = w1 at *
  refine wp_mono (Q := FnQ T gt cap g k1 w X bx) ?reg ?rest
  case reg =>
    have HP2 := Lib.hid (HP1.out.same (W' := w1.drew) rfl)
    have HF2 := Lib.hid HF1.out.drew
    have HD2 := Lib.hid (show Box w.heap.size _ _ w1.drew from HD1.out)
    have HE2 := Lib.hid (show Box (w.heap.size + 1) _ _ w1.drew from HE1.out)
    have hz2 : w.heap.size + 2 = w1.drew.heap.size := hz1
    refine wp_region_held_drew (S := fun W => W.cell? ⟨w.heap.size, 0, none⟩ = some (pPtr g)) (by kernel_rfl) (HD2.out.cell 0 rfl) (fun hHeld => ?_)
    generalize w1.drew = w2 at *
    have hf3 := tok_f3 X
    refine wpAnyH_take (i := 0) (v := ?vz6) rfl (by kernel_rfl) (by kernel_rfl) (by kernel_rfl) (fun _ _ _ h => by cases h.1) (Or.inl ⟨by rfl, ?yz6⟩) (by assumption) ?rz6
    case yz6 => (intro W hSw; go_simp; try with_reducible rfl)
    try simp only [Act.put, List.setIfInBounds_toArray, List.set_cons_zero, List.set_cons_succ]
    refine wpAnyH_take (i := 3) (v := ?vz7) rfl (by kernel_rfl) (by kernel_rfl) (by kernel_rfl) (fun _ _ _ h => by cases h.1) (Or.inl ⟨by rfl, ?yz7⟩) (by assumption) ?rz7
    case yz7 => (intro W hSw; go_simp; try with_reducible rfl)
    try simp only [Act.put, List.setIfInBounds_toArray, List.set_cons_zero, List.set_cons_succ]
    refine wpAnyH_ready (rs := [1, 6]) (by kernel_rfl) (by simp) ?_
    refine AllReadyH.cons rfl (fun K hK => ?_) ?_
    · go_simp
      refine (p_peek HP2.out).mono ?_
      rintro e w3 ⟨rfl, hb⟩
      rw [HXX.out]
      have HP3 := Lib.hid (HP2.out.below hb)
      have HF3 := Lib.hid (HF2.out.below hb)
      have HD3 := Lib.hid (HD2.out.below hb)
      have HE3 := Lib.hid (HE2.out.below hb)
      have hz3 := hb.size
      clear hb
      refine hK.out _ _ (by exact HD3.out.cell 0 rfl) (fun hHeld => ?_)
      clear hK K
      try simp only [Act.put, List.setIfInBounds_toArray, List.set_cons_zero, List.set_cons_succ]
      refine wpAnyH_take (i := 2) (v := ?vz1) rfl (by kernel_rfl) (by kernel_rfl) (by kernel_rfl) (fun _ _ _ h => by cases h.1) (Or.inl ⟨by rfl, ?yz1⟩) (by assumption) ?rz1
      case yz1 => (intro W hSw; go_simp; try with_reducible rfl)
      try simp only [Act.put, List.setIfInBounds_toArray, List.set_cons_zero, List.set_cons_succ]
      refine wpAnyH_ready (rs := [4, 6]) (by kernel_rfl) (by simp) ?_
      refine AllReadyH.cons rfl (fun K hK => ?_) ?_
      · go_simp
        refine (p_take hT HP3.out [101, 120, 112, 111, 114, 116] hbx hk1).mono ?_
        rintro e w4 ⟨rfl, hP, hF⟩
        have HP4 := Lib.hid hP
        have HF4 := Lib.hid (HF3.out.trans hF)
        have HD4 := Lib.hid (HD3.out.fr hF (by omega))
        have HE4 := Lib.hid (HE3.out.fr hF (by omega))
        have hz4 := hF.size
        clear hP hF
        refine hK.out _ _ (by exact HD4.out.cell 0 rfl) (fun hHeld => ?_)
        clear hK K
        try simp only [Act.put, List.setIfInBounds_toArray, List.set_cons_zero, List.set_cons_succ]
        refine wpAnyH_take (i := 5) (v := ?vz2) rfl (by kernel_rfl) (by kernel_rfl) (by kernel_rfl) (fun _ _ _ h => by cases h.1) (Or.inl ⟨by rfl, ?yz2⟩) (by assumption) ?rz2
        case yz2 => (intro W hSw; go_simp; try with_reducible rfl)
        try simp only [Act.put, List.setIfInBounds_toArray, List.set_cons_zero, List.set_cons_succ]
        refine wpAnyH_ready (rs := [6]) (by kernel_rfl) (by simp) ?_
        refine AllReadyH.cons rfl (fun K hK => ?_) AllReadyH.nil
        go_simp
        have hal := p_al w4 (.cells zNode 29)
        have HP5 := Lib.hid (HP4.out.below hal)
        have HF5 := Lib.hid (HF4.out.below hal)
        have HD5 := Lib.hid (HD4.out.below hal)
        have HE5 := Lib.hid (HE4.out.below hal)
        have HN5 := Lib.hid (Box.new w4 zNode 29)
        have hz5 : w4.heap.size < (w4.alloc (.cells zNode 29)).heap.size := by simp
        have hnb := HE4.out.lt
        clear hal
        refine hK.out _ _ (by exact HD5.out.cell 0 rfl) (fun hHeld => ?_)
        clear hK K
        try simp only [Act.put, List.setIfInBounds_toArray, List.set_cons_zero, List.set_cons_succ]
        generalize (w4.alloc (.cells zNode 29)) = w5 at *
        refine wpAnyH_ready (rs := [7]) (by kernel_rfl) (by simp) ?_
        refine AllReadyH.cons rfl (fun K hK => ?_) AllReadyH.nil
        obtain ⟨x0, x1, x2, x3, x4, x5, x6, x7, x8, x9⟩ := ten_cells HN5.out
        obtain ⟨l0, l1, l2, l3, l4, l5, l6, l7, l8, l9⟩ := ten_melt HN5.out
        go_simp
        have hfr := ten_res w4.heap.size (.int .i64 2) (.string ⟨#[]⟩) (.int .i64 0) (.int .i64 0) (.string ⟨#[]⟩) (.slice none 0 0) (.slice none 0 0) (.bool bx) (.slice none 0 0) (.int .i64 (X.pos : Int)) w5
        have hbx := ten_set HN5.out (.int .i64 2) (.string ⟨#[]⟩) (.int .i64 0) (.int .i64 0) (.string ⟨#[]⟩) (.slice none 0 0) (.slice none 0 0) (.bool bx) (.slice none 0 0) (.int .i64 (X.pos : Int))
        refine hK.out _ _ (by exact hfr.cell (HD5.out.cell 0 rfl) (show ¬ w4.heap.size = w.heap.size by omega)) (fun hHeld => ?_)
        clear hK K
        try simp only [Act.put, List.setIfInBounds_toArray, List.set_cons_zero, List.set_cons_succ]
        refine wpAnyH_done (by kernel_rfl) ?_ _
        exact ⟨rfl, w4.heap.size, rfl, by omega, HP5.out.fr hfr (by omega) (by omega), HF5.out.past hfr (fun b _ h => by omega), HD5.out.fr hfr (by omega), HE5.out.fr hfr (by omega), hbx⟩
      · refine AllReadyH.cons rfl (fun K hK => ?_) AllReadyH.nil
        go_simp
        have hal := p_al w3 (.cells zNode 29)
        have HP4 := Lib.hid (HP3.out.below hal)
        have HF4 := Lib.hid (HF3.out.below hal)
        have HD4 := Lib.hid (HD3.out.below hal)
        have HE4 := Lib.hid (HE3.out.below hal)
        have HN4 := Lib.hid (Box.new w3 zNode 29)
        have hz4 : w3.heap.size < (w3.alloc (.cells zNode 29)).heap.size := by simp
        have hnb := HE3.out.lt
        clear hal
        refine hK.out _ _ (by exact HD4.out.cell 0 rfl) (fun hHeld => ?_)
        clear hK K
        try simp only [Act.put, List.setIfInBounds_toArray, List.set_cons_zero, List.set_cons_succ]
        generalize (w3.alloc (.cells zNode 29)) = w4 at *
        refine wpAnyH_ready (rs := [4]) (by kernel_rfl) (by simp) ?_
        refine AllReadyH.cons rfl (fun K hK => ?_) AllReadyH.nil
        go_simp
        refine (p_take hT HP4.out [101, 120, 112, 111, 114, 116] hbx hk1).mono ?_
        rintro e w5 ⟨rfl, hP, hF⟩
        have HP5 := Lib.hid hP
        have HF5 := Lib.hid (HF4.out.trans hF)
        have HD5 := Lib.hid (HD4.out.fr hF (by omega))
        have HE5 := Lib.hid (HE4.out.fr hF (by omega))
        have HN5 := Lib.hid (HN4.out.fr hF (by omega))
        have hz5 := hF.size
        clear hP hF
        refine hK.out _ _ (by exact HD5.out.cell 0 rfl) (fun hHeld => ?_)
        clear hK K
        try simp only [Act.put, List.setIfInBounds_toArray, List.set_cons_zero, List.set_cons_succ]
        refine wpAnyH_take (i := 5) (v := ?vz3) rfl (by kernel_rfl) (by kernel_rfl) (by kernel_rfl) (fun _ _ _ h => by cases h.1) (Or.inl ⟨by rfl, ?yz3⟩) (by assumption) ?rz3
        case yz3 => (intro W hSw; go_simp; try with_reducible rfl)
        try simp only [Act.put, List.setIfInBounds_toArray, List.set_cons_zero, List.set_cons_succ]
        refine wpAnyH_ready (rs := [7]) (by kernel_rfl) (by simp) ?_
        refine AllReadyH.cons rfl (fun K hK => ?_) AllReadyH.nil
        obtain ⟨x0, x1, x2, x3, x4, x5, x6, x7, x8, x9⟩ := ten_cells HN5.out
        obtain ⟨l0, l1, l2, l3, l4, l5, l6, l7, l8, l9⟩ := ten_melt HN5.out
        go_simp
        have hfr := ten_res w3.heap.size (.int .i64 2) (.string ⟨#[]⟩) (.int .i64 0) (.int .i64 0) (.string ⟨#[]⟩) (.slice none 0 0) (.slice none 0 0) (.bool bx) (.slice none 0 0) (.int .i64 (X.pos : Int)) w5
        have hbx := ten_set HN5.out (.int .i64 2) (.string ⟨#[]⟩) (.int .i64 0) (.int .i64 0) (.string ⟨#[]⟩) (.slice none 0 0) (.slice none 0 0) (.bool bx) (.slice none 0 0) (.int .i64 (X.pos : Int))
        refine hK.out _ _ (by exact hfr.cell (HD5.out.cell 0 rfl) (show ¬ w3.heap.size = w.heap.size by omega)) (fun hHeld => ?_)
        clear hK K
        try simp only [Act.put, List.setIfInBounds_toArray, List.set_cons_zero, List.set_cons_succ]
        refine wpAnyH_done (by kernel_rfl) ?_ _
        exact ⟨rfl, w3.heap.size, rfl, by omega, HP5.out.fr hfr (by omega) (by omega), HF5.out.past hfr (fun b _ h => by omega), HD5.out.fr hfr (by omega), HE5.out.fr hfr (by omega), hbx⟩
    · refine AllReadyH.cons rfl (fun K hK => ?_) AllReadyH.nil
      go_simp
      have hal := p_al w2 (.cells zNode 29)
      have HP3 := Lib.hid (HP2.out.below hal)
      have HF3 := Lib.hid (HF2.out.below hal)
      have HD3 := Lib.hid (HD2.out.below hal)
      have HE3 := Lib.hid (HE2.out.below hal)
      have HN3 := Lib.hid (Box.new w2 zNode 29)
      have hz3 : w2.heap.size < (w2.alloc (.cells zNode 29)).heap.size := by simp
      have hnb := HE2.out.lt
      clear hal
      refine hK.out _ _ (by exact HD3.out.cell 0 rfl) (fun hHeld => ?_)
      clear hK K
      try simp only [Act.put, List.setIfInBounds_toArray, List.set_cons_zero, List.set_cons_succ]
      generalize (w2.alloc (.cells zNode 29)) = w3 at *
      refine wpAnyH_ready (rs := [1]) (by kernel_rfl) (by simp) ?_
      refine AllReadyH.cons rfl (fun K hK => ?_) AllReadyH.nil
      go_simp
      refine (p_peek HP3.out).mono ?_
      rintro e w4 ⟨rfl, hb⟩
      rw [HXX.out]
      have HP4 := Lib.hid (HP3.out.below hb)
      have HF4 := Lib.hid (HF3.out.below hb)
      have HD4 := Lib.hid (HD3.out.below hb)
      have HE4 := Lib.hid (HE3.out.below hb)
      have HN4 := Lib.hid (HN3.out.below hb)
      have hz4 := hb.size
      clear hb
      refine hK.out _ _ (by exact HD4.out.cell 0 rfl) (fun hHeld => ?_)
      clear hK K
      try simp only [Act.put, List.setIfInBounds_toArray, List.set_cons_zero, List.set_cons_succ]
      refine wpAnyH_take (i := 2) (v := ?vz4) rfl (by kernel_rfl) (by kernel_rfl) (by kernel_rfl) (fun _ _ _ h => by cases h.1) (Or.inl ⟨by rfl, ?yz4⟩) (by assumption) ?rz4
      case yz4 => (intro W hSw; go_simp; try with_reducible rfl)
      try simp only [Act.put, List.setIfInBounds_toArray, List.set_cons_zero, List.set_cons_succ]
      refine wpAnyH_ready (rs := [4]) (by kernel_rfl) (by simp) ?_
      refine AllReadyH.cons rfl (fun K hK => ?_) AllReadyH.nil
      go_simp
      refine (p_take hT HP4.out [101, 120, 112, 111, 114, 116] hbx hk1).mono ?_
      rintro e w5 ⟨rfl, hP, hF⟩
      have HP5 := Lib.hid hP
      have HF5 := Lib.hid (HF4.out.trans hF)
      have HD5 := Lib.hid (HD4.out.fr hF (by omega))
      have HE5 := Lib.hid (HE4.out.fr hF (by omega))
      have HN5 := Lib.hid (HN4.out.fr hF (by omega))
      have hz5 := hF.size
      clear hP hF
      refine hK.out _ _ (by exact HD5.out.cell 0 rfl) (fun hHeld => ?_)
      clear hK K
      try simp only [Act.put, List.setIfInBounds_toArray, List.set_cons_zero, List.set_cons_succ]
      refine wpAnyH_take (i := 5) (v := ?vz5) rfl (by kernel_rfl) (by kernel_rfl) (by kernel_rfl) (fun _ _ _ h => by cases h.1) (Or.inl ⟨by rfl, ?yz5⟩) (by assumption) ?rz5
      case yz5 => (intro W hSw; go_simp; try with_reducible rfl)
      try simp only [Act.put, List.setIfInBounds_toArray, List.set_cons_zero, List.set_cons_succ]
      refine wpAnyH_ready (rs := [7]) (by kernel_rfl) (by simp) ?_
      refine AllReadyH.cons rfl (fun K hK => ?_) AllReadyH.nil
      obtain ⟨x0, x1, x2, x3, x4, x5, x6, x7, x8, x9⟩ := ten_cells HN5.out
      obtain ⟨l0, l1, l2, l3, l4, l5, l6, l7, l8, l9⟩ := ten_melt HN5.out
      go_simp
      have hfr := ten_res w2.heap.size (.int .i64 2) (.string ⟨#[]⟩) (.int .i64 0) (.int .i64 0) (.string ⟨#[]⟩) (.slice none 0 0) (.slice none 0 0) (.bool bx) (.slice none 0 0) (.int .i64 (X.pos : Int)) w5
      have hbx := ten_set HN5.out (.int .i64 2) (.string ⟨#[]⟩) (.int .i64 0) (.int .i64 0) (.string ⟨#[]⟩) (.slice none 0 0) (.slice none 0 0) (.bool bx) (.slice none 0 0) (.int .i64 (X.pos : Int))
      refine hK.out _ _ (by exact hfr.cell (HD5.out.cell 0 rfl) (show ¬ w2.heap.size = w.heap.size by omega)) (fun hHeld => ?_)
      clear hK K
      try simp only [Act.put, List.setIfInBounds_toArray, List.set_cons_zero, List.set_cons_succ]
      refine wpAnyH_done (by kernel_rfl) ?_ _
      exact ⟨rfl, w2.heap.size, rfl, by omega, HP5.out.fr hfr (by omega) (by omega), HF5.out.past hfr (fun b _ h => by omega), HD5.out.fr hfr (by omega), HE5.out.fr hfr (by omega), hbx⟩
  case rest =>
    rintro e a' w2 ⟨rfl, nb, rfl, hnb, hP, hF, hD, hE, hN⟩
    have HP2 := Lib.hid hP
    have HF2 := Lib.hid hF
    have HD2 := Lib.hid hD
    have HE2 := Lib.hid hE
    have HN2 := Lib.hid hN
    have hln := hN.lt
    have d0 := hD.cell 0 rfl
    clear hP hF hD hE hN HP1 HF1 HD1 HE1 hz1 hbx hk1
    go_wp2_with fail
    clear d0
    cases hm : isT [102, 110] (T.drop k1) with
    | false =>
      have HQ := Lib.hid (show R = .bad 170 (tkAt T k1).pos by rw [← HRR.out, mustT, if_neg (by rw [hm]; simp), hd_tkAt T k1 HP2.out.lt]; rfl)
      refine (p_must_no HP2.out [102, 110] hm).mono ?_
      rintro e wz ⟨rfl, hb⟩
      have HFz := Lib.hid (HF2.out.below hb)
      clear hb
      go_wp2_with fail
      exact ⟨rfl, .inl ⟨_, _, HQ.out, rfl, HFz.out⟩⟩
    | true =>
      have HRa := Lib.hid (HRR.out)
      rw [mustT, if_pos hm, drop_tail, PR.bind_ok rfl] at HRa
      have hk2 := isT_next hT HP2.out.lt hm
      refine (p_must_yes hT HP2.out [102, 110] hm).mono ?_
      rintro e w3 ⟨rfl, hP, hF⟩
      have HP3 := Lib.hid hP
      have HF3 := Lib.hid (HF2.out.trans hF)
      have HD3 := Lib.hid (HD2.out.fr hF (by omega))
      have HE3 := Lib.hid (HE2.out.fr hF (by omega))
      have HN3 := Lib.hid (HN2.out.fr hF (by omega))
      have hz3 := hF.size
      clear hP hF HP2 HF2 HD2 HE2 HN2
      clear HRR hm
      have d0 := HD3.out.cell 0 rfl
      go_wp2_with fail
      clear d0
      have hatY := hT.at hk2
      cases hnm : (((tkAt T (k1 + 1)).kind : Int) != 1) with
      | true =>
        have HQ := Lib.hid (show R = .bad 170 (tkAt T (k1 + 1)).pos by rw [← HRa.out, nameT, hd_tkAt T (k1 + 1) HP3.out.lt, if_neg (by simp at hnm; omega)]; rfl)
        refine (p_name_no HP3.out hnm).mono ?_
        rintro e wz ⟨rfl, hb⟩
        have HFz := Lib.hid (HF3.out.below hb)
        clear hb
        go_wp2_with fail
        exact ⟨rfl, .inl ⟨_, _, HQ.out, rfl, HFz.out⟩⟩
      | false =>
        have HRb := Lib.hid (HRa.out)
        rw [nameT, hd_tkAt T (k1 + 1) HP3.out.lt, if_pos (by simp at hnm; omega), drop_tail, PR.bind_ok rfl] at HRb
        refine (p_name_yes hT HP3.out hnm).mono ?_
        have hf1 := tok_f1 (tkAt T (k1 + 1))
        clear hnm HRa
        generalize tkAt T (k1 + 1) = Y at *
        have HatY := Lib.hid hatY
        rintro e w4 ⟨rfl, hP, hF⟩
        have HP4 := Lib.hid hP
        have HF4 := Lib.hid (HF3.out.trans hF)
        have HD4 := Lib.hid (HD3.out.fr hF (by omega))
        have HE4 := Lib.hid (HE3.out.fr hF (by omega))
        have HN4 := Lib.hid (HN3.out.fr hF (by omega))
        have hz4 := hF.size
        clear hP hF HP3 HF3 HD3 HE3 HN3
        clear hatY
        have hset : Fr (fun b => nb = b) w4 (w4.setCell ⟨nb, 1, none⟩ (.string ⟨Y.text.toArray⟩)) := (Fr.refl _ w4).set1 _ 1 rfl _
        have HP5 := Lib.hid (HP4.out.fr hset (by omega) (by omega))
        have HF5 := Lib.hid (HF4.out.past hset (fun b _ h => by omega))
        have HD5 := Lib.hid (HD4.out.fr hset (by omega))
        have HE5 := Lib.hid (HE4.out.fr hset (by omega))
        have hbx := HN4.out.set 1 (.string ⟨Y.text.toArray⟩)
        simp only [List.setIfInBounds_toArray, List.set_cons_zero, List.set_cons_succ] at hbx
        have HN5 := Lib.hid hbx
        have hz5 : w4.heap.size = (w4.setCell ⟨nb, 1, none⟩ (.string ⟨Y.text.toArray⟩)).heap.size := by simp [World.setCell]
        have x1 := HN4.out.cell 1 rfl
        have l1 := HN4.out.melt 1
        clear hset hbx HP4 HF4 HD4 HE4 HN4
        go_upto_region 4 with fail
        generalize (w4.setCell ⟨nb, 1, none⟩ (.string ⟨Y.text.toArray⟩)) = w5 at *
        clear x1 l1 hf1
        have d0 := HD5.out.cell 0 rfl
        go_wp2_with fail
        clear d0
        cases hm : isT [40] (T.drop (k1 + 1 + 1)) with
        | false =>
          have HQ := Lib.hid (show R = .bad 170 (tkAt T (k1 + 1 + 1)).pos by rw [← HRb.out, mustT, if_neg (by rw [hm]; simp), hd_tkAt T (k1 + 1 + 1) HP5.out.lt]; rfl)
          refine (p_must_no HP5.out [40] hm).mono ?_
          rintro e wz ⟨rfl, hb⟩
          have HFz := Lib.hid (HF5.out.below hb)
          clear hb
          go_wp2_with fail
          exact ⟨rfl, .inl ⟨_, _, HQ.out, rfl, HFz.out⟩⟩
        | true =>
          have HRc := Lib.hid (HRb.out)
          rw [mustT, if_pos hm, drop_tail, PR.bind_ok rfl] at HRc
          refine (p_must_yes hT HP5.out [40] hm).mono ?_
          rintro e w6 ⟨rfl, hP, hF⟩
          have HP6 := Lib.hid hP
          have HF6 := Lib.hid (HF5.out.trans hF)
          have HD6 := Lib.hid (HD5.out.fr hF (by omega))
          have HE6 := Lib.hid (HE5.out.fr hF (by omega))
          have HN6 := Lib.hid (HN5.out.fr hF (by omega))
          have hz6 := hF.size
          clear hP hF HP5 HF5 HD5 HE5 HN5
          clear HRb hm
          have d0 := HD6.out.cell 0 rfl
          have hlp := HD6.out.lt
          have hin : pRow (f + 1) 2 [41] 0 (T.drop (k1 + 1 + 1 + 1)) ≠ .out := fun e => HNe.out (by rw [← HRc.out, e]; rfl)
          have HC := Lib.hid (k_row hT (f := f) (by omega) 2 [41] 128 #[] #[pPtr w.heap.size] (fun _ => param_ent _ _) (fun W => Box w.heap.size #[pPtr g] 52 W) (fun W W' hW hF => hW.fr hF (by rintro (h | h) <;> omega)) (fun j hj k' W hP hI hn => by
            cases j with
            | zero => exact absurd (by rw [pItem]) hn
            | succ i => exact k_param hT hP _ hI) HP6.out HD6.out hin)
          clear hin hlp
          go_wp2_with fail
          clear d0
          refine HC.out.mono ?_
          rintro e w7 (⟨c, p, hr, rfl, hF⟩ | ⟨l, lv, k7, hr, rfl, hP, hF, hK, hl⟩)
          · have HQ := Lib.hid (show R = .bad c p by rw [← HRc.out, PR.bind_bad hr])
            have HFz := Lib.hid (HF6.out.trans hF)
            clear hr hF
            go_wp2_with fail
            exact ⟨rfl, .inl ⟨_, _, HQ.out, rfl, HFz.out⟩⟩
          · obtain ⟨A7, ca7, rfl⟩ := hK.lvs
            have HRd := Lib.hid (HRc.out)
            rw [PR.bind_ok hr] at HRd
            have HL := Lib.hid hl
            have HK7 := Lib.hid hK
            clear hK hl hr
            have HP7 := Lib.hid hP
            have HF7 := Lib.hid (HF6.out.trans hF)
            have HD7 := Lib.hid (HD6.out.fr hF (by omega))
            have HE7 := Lib.hid (HE6.out.fr hF (by omega))
            have HN7 := Lib.hid (HN6.out.fr hF (by omega))
            have hz7 := hF.size
            clear hP hF HP6 HF6 HD6 HE6 HN6
            have hset : Fr (fun b => nb = b) w7 (w7.setCell ⟨nb, 8, none⟩ (.slice A7 l.length ca7)) := (Fr.refl _ w7).set1 _ 8 rfl _
            have HP8 := Lib.hid (HP7.out.fr hset (by omega) (by omega))
            have HF8 := Lib.hid (HF7.out.past hset (fun b _ h => by omega))
            have HD8 := Lib.hid (HD7.out.fr hset (by omega))
            have HE8 := Lib.hid (HE7.out.fr hset (by omega))
            have HK8 := Lib.hid (HK7.out.fr hset (fun b _ h1 h2 => by omega))
            have hbx := HN7.out.set 8 (.slice A7 l.length ca7)
            simp only [List.setIfInBounds_toArray, List.set_cons_zero, List.set_cons_succ] at hbx
            have HN8 := Lib.hid hbx
            have hz8 : w7.heap.size = (w7.setCell ⟨nb, 8, none⟩ (.slice A7 l.length ca7)).heap.size := by simp [World.setCell]
            have x8 := HN7.out.cell 8 rfl
            have l8 := HN7.out.melt 8
            clear hset hbx HP7 HF7 HD7 HE7 HN7 HK7
            go_upto_region 6 with fail
            generalize (w7.setCell ⟨nb, 8, none⟩ (.slice A7 l.length ca7)) = w8 at *
            clear x8 l8
            have hin : pBlock (f + 1) 0 (T.drop k7) ≠ .out := fun e => HNe.out (by rw [← HRd.out, e]; rfl)
            have HC8 := Lib.hid (x_block hT (f := f + 1) (by omega) (HP8.out.same (W' := w8.drew) rfl) hin)
            clear hin
            have hS0 : w8.drew.cell? ⟨nb, 8, none⟩ = some (.slice A7 l.length ca7) ∧ w8.drew.cell? ⟨w.heap.size, 0, none⟩ = some (pPtr g) := ⟨(show Box nb _ _ w8.drew from HN8.out).cell 8 rfl, (show Box w.heap.size _ _ w8.drew from HD8.out).cell 0 rfl⟩
            refine wp_region_pivot 7 (S := fun W => W.cell? ⟨nb, 8, none⟩ = some (.slice A7 l.length ca7) ∧ W.cell? ⟨w.heap.size, 0, none⟩ = some (pPtr g)) (by kernel_rfl) ?_
            try simp only [Act.put, List.setIfInBounds_toArray, List.set_cons_zero, List.set_cons_succ]
            refine wpAnyP_take (i := 0) (v := ?vz8) rfl (by kernel_rfl) (by kernel_rfl) (by kernel_rfl) (by kernel_rfl) (fun _ _ _ h => h) (Or.inl ⟨by rfl, ?yz8⟩) (by exact hS0) ?rz8
            case yz8 => (intro W hSw; obtain ⟨hSw, hSp⟩ := hSw; go_simp; try with_reducible rfl)
            try simp only [Act.put, List.setIfInBounds_toArray, List.set_cons_zero, List.set_cons_succ]
            refine wpAnyP_take (i := 1) (v := ?vz9) rfl (by kernel_rfl) (by kernel_rfl) (by kernel_rfl) (by kernel_rfl) (fun _ _ _ h => h) (Or.inl ⟨by rfl, ?yz9⟩) (by exact hS0) ?rz9
            case yz9 => (intro W hSw; obtain ⟨hSw, hSp⟩ := hSw; go_simp; try with_reducible rfl)
            try simp only [Act.put, List.setIfInBounds_toArray, List.set_cons_zero, List.set_cons_succ]
            refine wpAnyP_take (i := 2) (v := ?vz10) rfl (by kernel_rfl) (by kernel_rfl) (by kernel_rfl) (by kernel_rfl) (fun _ _ _ h => h) (Or.inl ⟨by rfl, ?yz10⟩) (by exact hS0) ?rz10
            case yz10 => (intro W hSw; obtain ⟨hSw, hSp⟩ := hSw; go_simp; try with_reducible rfl)
            try simp only [Act.put, List.setIfInBounds_toArray, List.set_cons_zero, List.set_cons_succ]
            refine wpAnyP_ready (rs := [3]) (by kernel_rfl) (by simp) ?_
            refine AllReadyP.cons rfl (fun K hK => ?_) AllReadyP.nil
            go_simp
            refine HC8.out.mono ?_
            rintro e w9 (⟨c, p, hr, rfl, hF⟩ | ⟨nx, lv, k9, hr, rfl, hP, hF, hO⟩)
            · have HQ2 := Lib.hid (show R = .bad c p by rw [← HRd.out, PR.bind_bad hr])
              exact ⟨rfl, .inl ⟨c, p, HQ2.out, rfl, HF8.out.drew.trans hF⟩⟩
            · obtain ⟨A9, ca9, rfl⟩ := hO.lvs
              have HQ2 := Lib.hid (show R = .ok (.mk 2 Y.text V.zero bx (l ++ [nx]) (X.pos : Int)) (T.drop k9) by rw [← HRd.out, PR.bind_ok hr])
              have HN9 := Lib.hid (Box.fr (show Box nb _ _ w8.drew from HN8.out) hF (show ¬ g = nb by omega))
              have HD9 := Lib.hid (Box.fr (show Box w.heap.size _ _ w8.drew from HD8.out) hF (show ¬ g = w.heap.size by omega))
              have HE9 := Lib.hid (Box.fr (show Box (w.heap.size + 1) _ _ w8.drew from HE8.out) hF (show ¬ g = w.heap.size + 1 by omega))
              refine hK.out _ _ (.inr (.inr ⟨HN9.out.cell 8 rfl, HD9.out.cell 0 rfl⟩)) ?_
              clear hK K
              try simp only [Act.put, List.setIfInBounds_toArray, List.set_cons_zero, List.set_cons_succ]
              have hs9 : w8.heap.size ≤ w9.heap.size := hF.size
              have HP9 := Lib.hid hP
              have HF9 := Lib.hid (HF8.out.drew.trans hF)
              have HK9 := Lib.hid (KidRow.fr ((KidRow.imp HK8.out (ok' := fun b => w6.heap.size ≤ b ∧ b < w8.heap.size) (fun b hb h => by omega)).below (Below.refl _ w8).drew) hF (fun b _ h1 h2 => by omega))
              have HO9 := Lib.hid (show OwN (fun b => w8.heap.size ≤ b) w9 (cellsN nx (.slice A9 nx.kids.length ca9)) nx from hO)
              clear hP hF hO hr HP8 HF8 HE8 HN8 HK8 HC8 HD8
              refine wpAnyP_ready (rs := [4]) (by kernel_rfl) (by simp) ?_
              refine AllReadyP.cons rfl (fun K hK => ?_) AllReadyP.nil
              go_simp
              refine hK.out _ _ (.inr (.inr ⟨bcell (p_al w9 _) (HN9.out.cell 8 rfl), bcell (p_al w9 _) (HD9.out.cell 0 rfl)⟩)) ?_
              clear hK K
              try simp only [Act.put, List.setIfInBounds_toArray, List.set_cons_zero, List.set_cons_succ]
              refine wpAnyP_ready (rs := [5]) (by kernel_rfl) (by simp) ?_
              refine AllReadyP.cons rfl (fun K hK => ?_) AllReadyP.nil
              rw [if_pos (by kernel_rfl)]
              refine opN_append (n := nx) (lvn := .slice A9 nx.kids.length ca9) _ _ _ rfl _ rfl rfl rfl HK9.out HO9.out (by omega) hs9 (by have := HL.out; omega) ?_
              intro v1 w10 hK10 hF10
              have HN10 := Lib.hid (HN9.out.fr hF10 (fun h => by omega))
              have HD10 := Lib.hid (HD9.out.fr hF10 (fun h => by omega))
              have hS10 : w10.cell? ⟨nb, 8, none⟩ = some (.slice A7 l.length ca7) ∧ w10.cell? ⟨w.heap.size, 0, none⟩ = some (pPtr g) := ⟨HN10.out.cell 8 rfl, HD10.out.cell 0 rfl⟩
              refine hK.out _ _ (.inr (.inr hS10)) ?_
              clear hK K
              try simp only [Act.put, List.setIfInBounds_toArray, List.set_cons_zero, List.set_cons_succ]
              obtain ⟨A10, ca10, hv0⟩ := hK10.lvs
              have hv : v1 = .slice A10 (l.length + 1) ca10 := by rw [hv0, List.length_append]; rfl
              clear hv0
              subst hv
              have HE10 := Lib.hid (HE9.out.fr hF10 (fun h => by omega))
              have HP10 := Lib.hid (HP9.out.fr hF10 (fun h => by omega) (fun h => by omega))
              have HF10 := Lib.hid (HF9.out.past hF10 (fun b hb h => by omega))
              have HK10 := Lib.hid (show KidRow (fun b => w6.heap.size ≤ b) w10 (.slice A10 (l.length + 1) ca10) (l ++ [nx]) from hK10)
              clear hK10 hF10 HP9 HF9 HK9 HO9 HN9 HE9 HD9
              refine wpAnyP_take (i := 6) (v := ?vz11) rfl (by kernel_rfl) (by kernel_rfl) (by kernel_rfl) (by kernel_rfl) (fun _ _ _ h => h) (Or.inl ⟨by rfl, ?yz11⟩) (by exact hS10) ?rz11
              case yz11 => (intro W hSw; obtain ⟨hSw, hSp⟩ := hSw; go_simp; try with_reducible rfl)
              try simp only [Act.put, List.setIfInBounds_toArray, List.set_cons_zero, List.set_cons_succ]
              clear hS10
              refine wpAnyP_ready (rs := [7]) (by kernel_rfl) (by simp) ?_
              refine AllReadyP.cons rfl (fun K hK => ?_) AllReadyP.nil
              have x8 := HN10.out.cell 8 rfl
              have l8 := HN10.out.melt 8
              go_simp
              have hset : Fr (fun b => nb = b) w10 (w10.setCell ⟨nb, 8, none⟩ (.slice A10 (l.length + 1) ca10)) := (Fr.refl _ _).set1 _ 8 rfl _
              have hbx := HN10.out.set 8 (.slice A10 (l.length + 1) ca10)
              simp only [List.setIfInBounds_toArray, List.set_cons_zero, List.set_cons_succ] at hbx
              have hlN := HN10.out.lt
              have hO11 : OwN (fun b => w.heap.size + 2 ≤ b) (w10.setCell ⟨nb, 8, none⟩ (.slice A10 (l.length + 1) ca10)) (cellsN (.mk 2 Y.text V.zero bx (l ++ [nx]) (X.pos : Int)) (.slice A10 (l.length + 1) ca10)) (.mk 2 Y.text V.zero bx (l ++ [nx]) (X.pos : Int)) :=
                OwN.of (by constructor <;> simp [N.kind]) (by have := Hat.out; constructor <;> simp [N.spot] <;> omega) (by have := HatY.out; simp [N.text]; omega) ⟨by constructor <;> simp [V.kind, V.zero, N.val], by constructor <;> simp [V.num, V.zero, N.val], by simp [V.str, V.zero, N.val], rfl, rfl⟩ (by have := HL.out; simp [N.kids]; omega) ((HK10.out.fr hset (fun b _ h1 h2 => by omega)).imp (fun b _ h => by omega))
              have HX11 := Lib.hid (HE10.out.fr hset (by omega))
              have HE := Lib.hid (EndN.ret hlg hlt HQ2.out (HP10.out.fr hset (by omega) (by omega)) (HF10.out.past hset (fun b hb h => by omega)) hO11 (show w.heap.size ≤ w.heap.size + 1 by omega) (by omega))
              refine hK.out _ _ (.inr (.inl rfl)) ?_
              clear hK K
              try simp only [Act.put, List.setIfInBounds_toArray, List.set_cons_zero, List.set_cons_succ]
              refine wpAnyP_done (by kernel_rfl) ?_ _
              have HN11 := Lib.hid hbx
              clear hset hbx hO11 x8 l8
              generalize (w10.setCell ⟨nb, 8, none⟩ (.slice A10 (l.length + 1) ca10)) = w11 at *
              obtain ⟨r0, r1, r2, r3, r4, r5, r6, r7, r8, r9⟩ := ten_cells HX11.out
              obtain ⟨m0, m1, m2, m3, m4, m5, m6, m7, m8, m9⟩ := ten_melt HX11.out
              obtain ⟨t0, t1, t2, t3, t4, t5, t6, t7, t8, t9⟩ := ten_cells HN11.out
              go_wp2_with fail
              refine bodyPost_ret (v := valO (.mk 2 Y.text V.zero bx (l ++ [nx]) (X.pos : Int)) (.slice A10 (l.length + 1) ca10)) (by simp [results, Tryz.results70, go_sem, r0, r1, r2, r3, r4, r5, r6, r7, r8, r9, N.kind, N.text, N.val, N.flag, N.kids, N.spot, V.zero, V.kind, V.num, V.str]) rfl ?_
              exact HE.out
end
end Go.Proofs.YtlnhhffhmeekoaaGreatDoor
namespace Go.Proofs.YtlnhhffhmeekoaaGreatDoor
open Go.RowKit Go.IntWalk
section
variable {T : List Tok} {gt cap g k o f : Nat} {w : World}
/-- program's loop: the functions that have been read -/
structure PrgL (T : List Tok) (gt cap g f : Nat) (w : World) (R : PR N) (j : Nat) (W : World) : Prop where
  ex : ∃ acc lv k', j + acc.length ≤ f ∧ 16 * (T.length - k') + 14 ≤ j ∧ PSt T gt cap g k' 0 W ∧ Fr (fun b => g = b) w W ∧ Box w.heap.size zNode 29 W ∧ Box (w.heap.size + 1) #[.int .i64 1, .string ⟨#[]⟩, .int .i64 0, .int .i64 0, .string ⟨#[]⟩, .slice none 0 0, .slice none 0 0, .bool false, lv, .int .i64 0] 29 W ∧ KidRow (fun b => w.heap.size + 2 ≤ b) W lv acc ∧ pFns j acc (T.drop k') = R
set_option maxRecDepth 20000 in
set_option maxHeartbeats 2000000 in
theorem k_prog (hT : TkOk T) (hf : f ≤ 199999) (hfu : 16 * (T.length - k) + 14 ≤ f) (h : PSt T gt cap g k 0 w) :
    Calls Tryz.prog 39 #[pPtr g] w (EndN T gt cap g 0 w (pFns f [] (T.drop k))) := by
  have hlg := h.box.lt
  have hlt := h.ltt
  have hne : pFns f [] (T.drop k) ≠ .out := (fine_fns (by rw [List.length_drop]; omega)).1
  generalize hR : pFns f [] (T.drop k) = R at *
  have HNe := Lib.hid hne
  obtain ⟨b1, b2, b3⟩ := two_new w zNode #[.int .i64 1, .string ⟨#[]⟩, .int .i64 0, .int .i64 0, .string ⟨#[]⟩, .slice none 0 0, .slice none 0 0, .bool false, .slice none 0 0, .int .i64 0] 29 29
  have HL := Lib.hid (show PrgL T gt cap g f w R f ((w.alloc (.cells zNode 29)).alloc (.cells #[.int .i64 1, .string ⟨#[]⟩, .int .i64 0, .int .i64 0, .string ⟨#[]⟩, .slice none 0 0, .slice none 0 0, .bool false, .slice none 0 0, .int .i64 0] 29)) from ⟨[], .slice none 0 0, k, by simp, hfu, h.below b3, Fr.of_below b3, b1, b2, KidRow.nil _ _, hR⟩)
  clear h hne hR b1 b2 b3
  go_enter Tryz.func39, Tryz.ntmps39
  go_wp2_with fail
  generalize ((w.alloc (.cells zNode 29)).alloc (.cells #[.int .i64 1, .string ⟨#[]⟩, .int .i64 0, .int .i64 0, .string ⟨#[]⟩, .slice none 0 0, .slice none 0 0, .bool false, .slice none 0 0, .int .i64 0] 29)) = w1 at *
  go_loopg [] f (fun j wr => PrgL T gt cap g f w R j wr)
  case atStart => exact HL.out
  case round =>
    obtain ⟨acc, lv, k', hle, hfj, hP, hF, hE, hN, hK, hRR⟩ := hrel
    clear HL
    cases gk with
    | zero => omega
    | succ j =>
    have hk' := hP.lt
    have hzz := hF.size
    have hkT := hd_tkAt T k' hk'
    rw [pFns, hkT] at hRR
    obtain ⟨A1, ca1, rfl⟩ := hK.lvs
    have HP := Lib.hid hP
    have HF := Lib.hid hF
    have HE := Lib.hid hE
    have HN := Lib.hid hN
    have HK := Lib.hid hK
    have HRR := Lib.hid hRR
    have hlE := hN.lt
    clear hP hF hE hN hK hRR
    go_wp2_with fail
    refine (p_peek HP.out).mono ?_
    have hf0 := tok_f0 (tkAt T k')
    generalize hXX : tkAt T k' = X at *
    clear hXX
    rintro e w2 ⟨rfl, hb⟩
    have HP2 := Lib.hid (HP.out.below hb)
    have HF2 := Lib.hid (HF.out.below hb)
    have HE2 := Lib.hid (HE.out.below hb)
    have HN2 := Lib.hid (HN.out.below hb)
    have HK2 := Lib.hid ((KidRow.imp HK.out (ok' := fun b => w.heap.size + 2 ≤ b ∧ b < wr.heap.size) (fun b hb h => ⟨h, hb⟩)).below hb)
    have hz2 := hb.size
    clear hb HP HF HE HN HK
    cases h0 : ((X.kind : Int) != 0) with
    | false =>
      have HQ := Lib.hid (show R = .ok (nodeP 1 [] acc 0) (T.drop k') by rw [← HRR.out, if_pos (by simp at h0; omega)])
      have hO : OwN (fun b => w.heap.size + 1 ≤ b) w2 (cellsN (nodeP 1 [] acc 0) (.slice A1 acc.length ca1)) (nodeP 1 [] acc 0) := OwN.of (by constructor <;> simp [N.kind]) (by constructor <;> simp [N.spot]) (by simp [N.text]) ⟨by constructor <;> simp [V.kind, V.zero, N.val], by constructor <;> simp [V.num, V.zero, N.val], by simp [V.str, V.zero, N.val], rfl, rfl⟩ (by simp [N.kids]; omega) (HK2.out.imp (fun b _ h => by omega))
      have HEE := Lib.hid (EndN.ret hlg hlt HQ.out HP2.out HF2.out hO (show w.heap.size ≤ w.heap.size by omega) (by omega))
      obtain ⟨r0, r1, r2, r3, r4, r5, r6, r7, r8, r9⟩ := ten_cells HE2.out
      obtain ⟨m0, m1, m2, m3, m4, m5, m6, m7, m8, m9⟩ := ten_melt HE2.out
      obtain ⟨t0, t1, t2, t3, t4, t5, t6, t7, t8, t9⟩ := ten_cells HN2.out
      clear hO
      go_wp2_with fail
      refine bodyPost_ret (v := valO (nodeP 1 [] acc 0) (.slice A1 acc.length ca1)) (by simp [results, Tryz.results39, go_sem, r0, r1, r2, r3, r4, r5, r6, r7, r8, r9, N.kind, N.text, N.val, N.flag, N.kids, N.spot, V.zero, V.kind, V.num, V.str]) rfl ?_
      exact HEE.out
    | true =>
      have hr1 : (pFn j (T.drop k')).bind (fun n r => pFns j (acc ++ [n]) r) = R := by rw [← HRR.out, if_neg (by simp at h0; omega)]
      have hfine := fine_fn (f := j) (ts := T.drop k') (by rw [List.length_drop]; omega)
      have HQ := Lib.hid hr1
      have HFi := Lib.hid hfine
      obtain ⟨i, rfl⟩ : ∃ i, j = i + 1 := ⟨j - 1, by omega⟩
      have HC2 := Lib.hid (k_fn hT (f := i) (by omega) (HP2.out.same (W' := w2.drew) rfl) hfine.1)
      clear hr1 HRR hfine
      go_upto_region 3 with fail
      have hS0 : w2.drew.cell? ⟨w.heap.size + 1, 8, none⟩ = some (.slice A1 acc.length ca1) := (show Box (w.heap.size + 1) _ _ w2.drew from HN2.out).cell 8 rfl
      clear hf0
      refine wp_region_pivot 7 (S := fun W => W.cell? ⟨w.heap.size + 1, 8, none⟩ = some (.slice A1 acc.length ca1)) (by kernel_rfl) ?_
      try simp only [Act.put, List.setIfInBounds_toArray, List.set_cons_zero, List.set_cons_succ]
      refine wpAnyP_take (i := 0) (v := ?vz1) rfl (by kernel_rfl) (by kernel_rfl) (by kernel_rfl) (by kernel_rfl) (fun _ _ _ h => h) (Or.inl ⟨by rfl, ?yz1⟩) (by exact hS0) ?rz1
      case yz1 => (intro W hSw; go_simp; try with_reducible rfl)
      try simp only [Act.put, List.setIfInBounds_toArray, List.set_cons_zero, List.set_cons_succ]
      refine wpAnyP_take (i := 1) (v := ?vz2) rfl (by kernel_rfl) (by kernel_rfl) (by kernel_rfl) (by kernel_rfl) (fun _ _ _ h => h) (Or.inl ⟨by rfl, ?yz2⟩) (by exact hS0) ?rz2
      case yz2 => (intro W hSw; go_simp; try with_reducible rfl)
      try simp only [Act.put, List.setIfInBounds_toArray, List.set_cons_zero, List.set_cons_succ]
      refine wpAnyP_take (i := 2) (v := ?vz3) rfl (by kernel_rfl) (by kernel_rfl) (by kernel_rfl) (by kernel_rfl) (fun _ _ _ h => h) (Or.inl ⟨by rfl, ?yz3⟩) (by exact hS0) ?rz3
      case yz3 => (intro W hSw; go_simp; try with_reducible rfl)
      try simp only [Act.put, List.setIfInBounds_toArray, List.set_cons_zero, List.set_cons_succ]
      refine wpAnyP_ready (rs := [3]) (by kernel_rfl) (by simp) ?_
      refine AllReadyP.cons rfl (fun K hK => ?_) AllReadyP.nil
      go_simp
      refine HC2.out.mono ?_
      rintro e w3 (⟨c, p, hr, rfl, hF⟩ | ⟨nx, lv, k9, hr, rfl, hP, hF, hO⟩)
      · have HQ2 := Lib.hid (show R = .bad c p by rw [← HQ.out, PR.bind_bad hr])
        exact ⟨rfl, .inl ⟨c, p, HQ2.out, rfl, HF2.out.drew.trans hF⟩⟩
      · obtain ⟨A9, ca9, rfl⟩ := hO.lvs
        have hk9 := HFi.out.2 _ _ hr
        rw [List.length_drop, List.length_drop] at hk9
        have HQ2 := Lib.hid (show pFns (i + 1) (acc ++ [nx]) (T.drop k9) = R by rw [← HQ.out, PR.bind_ok hr])
        have HN3 := Lib.hid (Box.fr (show Box (w.heap.size + 1) _ _ w2.drew from HN2.out) hF (show ¬ g = w.heap.size + 1 by omega))
        have HE3 := Lib.hid (Box.fr (show Box w.heap.size _ _ w2.drew from HE2.out) hF (show ¬ g = w.heap.size by omega))
        refine hK.out _ _ (.inr (.inr (HN3.out.cell 8 rfl))) ?_
        clear hK K
        try simp only [Act.put, List.setIfInBounds_toArray, List.set_cons_zero, List.set_cons_succ]
        have hs3 : w2.heap.size ≤ w3.heap.size := hF.size
        have HP3 := Lib.hid hP
        have HF3 := Lib.hid (HF2.out.drew.trans hF)
        have HK3 := Lib.hid (KidRow.fr ((KidRow.imp HK2.out (ok' := fun b => w.heap.size + 2 ≤ b ∧ b < w2.heap.size) (fun b hb h => by omega)).below (Below.refl _ w2).drew) hF (fun b _ h1 h2 => by omega))
        have HO3 := Lib.hid (show OwN (fun b => w2.heap.size ≤ b) w3 (cellsN nx (.slice A9 nx.kids.length ca9)) nx from hO)
        clear hP hF hO hr HP2 HF2 HE2 HN2 HK2 HC2
        refine wpAnyP_ready (rs := [4]) (by kernel_rfl) (by simp) ?_
        refine AllReadyP.cons rfl (fun K hK => ?_) AllReadyP.nil
        go_simp
        refine hK.out _ _ (.inr (.inr (bcell (p_al w3 _) (HN3.out.cell 8 rfl)))) ?_
        clear hK K
        try simp only [Act.put, List.setIfInBounds_toArray, List.set_cons_zero, List.set_cons_succ]
        refine wpAnyP_ready (rs := [5]) (by kernel_rfl) (by simp) ?_
        refine AllReadyP.cons rfl (fun K hK => ?_) AllReadyP.nil
        rw [if_pos (by kernel_rfl)]
        refine opN_append (n := nx) (lvn := .slice A9 nx.kids.length ca9) _ _ _ rfl _ rfl rfl rfl HK3.out HO3.out (by omega) hs3 (by omega) ?_
        intro v1 w4 hK4 hF4
        have HN4 := Lib.hid (HN3.out.fr hF4 (fun h => by omega))
        have hS4 := HN4.out.cell 8 rfl
        refine hK.out _ _ (.inr (.inr hS4)) ?_
        clear hK K
        try simp only [Act.put, List.setIfInBounds_toArray, List.set_cons_zero, List.set_cons_succ]
        obtain ⟨A4, ca4, hv0⟩ := hK4.lvs
        have hv : v1 = .slice A4 (acc.length + 1) ca4 := by rw [hv0, List.length_append]; rfl
        clear hv0
        subst hv
        have HE4 := Lib.hid (HE3.out.fr hF4 (fun h => by omega))
        have HP4 := Lib.hid (HP3.out.fr hF4 (fun h => by omega) (fun h => by omega))
        have HF4 := Lib.hid (HF3.out.past hF4 (fun b hb h => by omega))
        have HK4 := Lib.hid (show KidRow (fun b => w.heap.size + 2 ≤ b) w4 (.slice A4 (acc.length + 1) ca4) (acc ++ [nx]) from hK4)
        clear hK4 hF4 HP3 HF3 HK3 HO3 HN3 HE3
        refine wpAnyP_take (i := 6) (v := ?vz4) rfl (by kernel_rfl) (by kernel_rfl) (by kernel_rfl) (by kernel_rfl) (fun _ _ _ h => h) (Or.inl ⟨by rfl, ?yz4⟩) (by exact hS4) ?rz4
        case yz4 => (intro W hSw; go_simp; try with_reducible rfl)
        try simp only [Act.put, List.setIfInBounds_toArray, List.set_cons_zero, List.set_cons_succ]
        clear hS4
        refine wpAnyP_ready (rs := [7]) (by kernel_rfl) (by simp) ?_
        refine AllReadyP.cons rfl (fun K hK => ?_) AllReadyP.nil
        have x8 := HN4.out.cell 8 rfl
        have l8 := HN4.out.melt 8
        go_simp
        have hset : Fr (fun b => w.heap.size + 1 = b) w4 (w4.setCell ⟨w.heap.size + 1, 8, none⟩ (.slice A4 (acc.length + 1) ca4)) := (Fr.refl _ _).set1 _ 8 rfl _
        have hbx := HN4.out.set 8 (.slice A4 (acc.length + 1) ca4)
        simp only [List.setIfInBounds_toArray, List.set_cons_zero, List.set_cons_succ] at hbx
        have hlN := HN4.out.lt
        have HL5 := Lib.hid (show PrgL T gt cap g f w R (i + 1) (w4.setCell ⟨w.heap.size + 1, 8, none⟩ (.slice A4 (acc.length + 1) ca4)) from
          ⟨acc ++ [nx], .slice A4 (acc.length + 1) ca4, k9, by rw [List.length_append, List.length_singleton]; omega, by omega, HP4.out.fr hset (by omega) (by omega), HF4.out.past hset (fun b hb h => by omega), HE4.out.fr hset (by omega), hbx, HK4.out.fr hset (fun b _ h1 h2 => by omega), HQ2.out⟩)
        refine hK.out _ _ (.inr (.inl rfl)) ?_
        clear hK K
        try simp only [Act.put, List.setIfInBounds_toArray, List.set_cons_zero, List.set_cons_succ]
        refine wpAnyP_done (by kernel_rfl) ?_ _
        clear hset hbx x8 l8 HN4 HE4 HP4 HF4 HK4
        generalize (w4.setCell ⟨w.heap.size + 1, 8, none⟩ (.slice A4 (acc.length + 1) ca4)) = w5 at *
        go_wp2_with fail
        go_roundg (i + 1)
        case measure => omega
        case rel => exact HL5.out
end
end Go.Proofs.YtlnhhffhmeekoaaGreatDoor
namespace Go.Proofs.YtlnhhffhmeekoaaGreatDoor
open Go.RowKit Go.IntWalk
section
variable {w : World}
abbrev stopE (c p : Nat) (r : Bool) : PanicEntry := { v := .iface 85 (.agg #[.int .i64 (c : Int), .int .i64 (p : Int)]), recovered := r }
theorem stop_assert (c p : Nat) (W : World) : (Instr.typeAssert (Value.iface 85 (Value.agg #[Value.int IntKind.i64 (c : Int), Value.int IntKind.i64 (p : Int)])) 20 85 true).run Tryz.prog W = .ok (.tuple #[Value.agg #[Value.int IntKind.i64 (c : Int), Value.int IntKind.i64 (p : Int)], .bool true]) W := by kernel_rfl
set_option maxRecDepth 20000 in
set_option maxHeartbeats 1000000 in
theorem rd_idle (b4 b5 b6 : Nat) : CallsD Tryz.prog 62 #[pPtr b4, pPtr b5, pPtr b6] .returning w fun e u' w' => e = .returned (.tuple #[]) ∧ u' = .returning ∧ w' = w := by
  refine callsD_of_wpS Tryz.func62 rfl fun c₀ cs hu => ?_
  apply wpS_seq
  apply wpS_region
  simp [wpOpsS, go_sem, recoverD, hu, Tryz.ntmps62, Exit.thenS]
  refine wpS_of_wp ?_
  rw [show (#[pPtr b4, pPtr b5, pPtr b6] ++ (Array.replicate 14 undef).setIfInBounds 3 Value.nilIface) = #[pPtr b4, pPtr b5, pPtr b6, undef, undef, undef, Value.nilIface, undef, undef, undef, undef, undef, undef, undef, undef, undef, undef] from rfl]
  go_wp2
  cases c₀
  simp_all [bodyPostS, results, Tryz.results62]
/-- what the closure leaves where it has recovered -/
def RdQ (b4 b5 b6 c p : Nat) (w : World) (e : Exit) (a : Act) (W : World) : Prop := e = .normal ∧ a.defers = [] ∧ Box b4 zNode 29 W ∧ Box b5 #[.int .i64 (p : Int)] 3 W ∧ Box b6 #[.int .i64 (c : Int)] 30 W ∧ Fr (fun b => b = b4 ∨ b = b5 ∨ b = b6) w W
set_option maxRecDepth 20000 in
set_option maxHeartbeats 1000000 in
theorem rd_stop {b4 b5 b6 c p : Nat} {c0 c1 c2 c3 c4 c5 c6 c7 c8 c9 d e : Value} (h4 : Box b4 #[c0, c1, c2, c3, c4, c5, c6, c7, c8, c9] 29 w) (h5 : Box b5 #[d] 3 w) (h6 : Box b6 #[e] 30 w) (h45 : b4 ≠ b5) (h46 : b4 ≠ b6) (h56 : b5 ≠ b6) :
    CallsD Tryz.prog 62 #[pPtr b4, pPtr b5, pPtr b6] (.panicking [stopE c p false]) w fun e u' w' => e = .returned (.tuple #[]) ∧ u' = .panicking [stopE c p true] ∧ Box b4 zNode 29 w' ∧ Box b5 #[.int .i64 (p : Int)] 3 w' ∧ Box b6 #[.int .i64 (c : Int)] 30 w' ∧ Fr (fun b => b = b4 ∨ b = b5 ∨ b = b6) w w' := by
  refine callsD_of_wpS Tryz.func62 rfl fun c₀ cs hu => ?_
  apply wpS_seq
  apply wpS_region
  simp [wpOpsS, go_sem, recoverD, hu, Tryz.ntmps62, Exit.thenS]
  refine wpS_of_wp ?_
  rw [show (#[pPtr b4, pPtr b5, pPtr b6] ++ (Array.replicate 14 undef).setIfInBounds 3 (Value.iface 85 (Value.agg #[Value.int IntKind.i64 (c : Int), Value.int IntKind.i64 (p : Int)]))) = #[pPtr b4, pPtr b5, pPtr b6, undef, undef, undef, Value.iface 85 (Value.agg #[Value.int IntKind.i64 (c : Int), Value.int IntKind.i64 (p : Int)]), undef, undef, undef, undef, undef, undef, undef, undef, undef, undef] from rfl]
  refine wp_mono (Q := RdQ b4 b5 b6 c p w) ?_ (fun e a' w' h => ?_)
  rotate_left
  · obtain ⟨rfl, hd, h1, h2, h3, h4⟩ := h
    exact ⟨hd, _, rfl, .tuple #[], by simp [results, Tryz.results62], rfl, rfl, h1, h2, h3, h4⟩
  have hta := stop_assert c p
  have hal := p_al w (.cells #[.int .i64 (c : Int), .int .i64 (p : Int)] 85)
  have hl4 := h4.lt
  have hl5 := h5.lt
  have hl6 := h6.lt
  have H4 := Lib.hid (h4.below hal)
  have H5 := Lib.hid (h5.below hal)
  have H6 := Lib.hid (h6.below hal)
  have HE := Lib.hid (Box.new w #[.int .i64 (c : Int), .int .i64 (p : Int)] 85)
  have HF := Lib.hid (Fr.of_below (ok := fun b => b = b4 ∨ b = b5 ∨ b = b6) hal)
  clear h4 h5 h6 hal
  go_upto_region 7 with fail
  generalize (w.alloc (.cells #[.int .i64 (c : Int), .int .i64 (p : Int)] 85)) = w2 at *
  clear hta
  have G4 := Lib.hid (show Box b4 _ _ w2.drew from H4.out)
  have G5 := Lib.hid (show Box b5 _ _ w2.drew from H5.out)
  have G6 := Lib.hid (show Box b6 _ _ w2.drew from H6.out)
  have GE := Lib.hid (show Box w.heap.size _ _ w2.drew from HE.out)
  have GF := Lib.hid HF.out.drew
  refine wp_region_held_drew (S := fun W => W.cell? ⟨w.heap.size, 0, none⟩ = some (.int .i64 (c : Int)) ∧ W.cell? ⟨w.heap.size, 1, none⟩ = some (.int .i64 (p : Int))) (by kernel_rfl) ⟨GE.out.cell 0 rfl, GE.out.cell 1 rfl⟩ (fun hHeld => ?_)
  clear H4 H5 H6 HE HF
  generalize w2.drew = w3 at *
  refine wpAnyH_take (i := 0) (v := ?vz0) rfl (by kernel_rfl) (by kernel_rfl) (by kernel_rfl) (fun _ _ _ h => by cases h.1) (Or.inl ⟨by rfl, ?yz0⟩) (by assumption) ?rz0
  case yz0 => (intro W hSw; obtain ⟨a0, a1⟩ := hSw; go_simp; try with_reducible rfl)
  try simp only [Act.put, List.getElem_toArray, List.getElem_cons_zero, List.getElem_cons_succ, List.setIfInBounds_toArray, List.set_cons_zero, List.set_cons_succ]
  refine wpAnyH_take (i := 1) (v := ?vz1) rfl (by kernel_rfl) (by kernel_rfl) (by kernel_rfl) (fun _ _ _ h => by cases h.1) (Or.inl ⟨by rfl, ?yz1⟩) (by assumption) ?rz1
  case yz1 => (intro W hSw; obtain ⟨a0, a1⟩ := hSw; go_simp; try with_reducible rfl)
  try simp only [Act.put, List.getElem_toArray, List.getElem_cons_zero, List.getElem_cons_succ, List.setIfInBounds_toArray, List.set_cons_zero, List.set_cons_succ]
  refine wpAnyH_take (i := 2) (v := ?vz2) rfl (by kernel_rfl) (by kernel_rfl) (by kernel_rfl) (fun _ _ _ h => by cases h.1) (Or.inl ⟨by rfl, ?yz2⟩) (by assumption) ?rz2
  case yz2 => (intro W hSw; obtain ⟨a0, a1⟩ := hSw; go_simp; try with_reducible rfl)
  try simp only [Act.put, List.getElem_toArray, List.getElem_cons_zero, List.getElem_cons_succ, List.setIfInBounds_toArray, List.set_cons_zero, List.set_cons_succ]
  refine wpAnyH_take (i := 3) (v := ?vz3) rfl (by kernel_rfl) (by kernel_rfl) (by kernel_rfl) (fun _ _ _ h => by cases h.1) (Or.inl ⟨by rfl, ?yz3⟩) (by assumption) ?rz3
  case yz3 => (intro W hSw; obtain ⟨a0, a1⟩ := hSw; go_simp; try with_reducible rfl)
  try simp only [Act.put, List.getElem_toArray, List.getElem_cons_zero, List.getElem_cons_succ, List.setIfInBounds_toArray, List.set_cons_zero, List.set_cons_succ]
  refine wpAnyH_take (i := 4) (v := ?vz4) rfl (by kernel_rfl) (by kernel_rfl) (by kernel_rfl) (fun _ _ _ h => by cases h.1) (Or.inl ⟨by rfl, ?yz4⟩) (by assumption) ?rz4
  case yz4 => (intro W hSw; obtain ⟨a0, a1⟩ := hSw; go_simp; try with_reducible rfl)
  try simp only [Act.put, List.getElem_toArray, List.getElem_cons_zero, List.getElem_cons_succ, List.setIfInBounds_toArray, List.set_cons_zero, List.set_cons_succ]
  refine wpAnyH_ready (rs := [5]) (by kernel_rfl) (by simp) ?_
  refine AllReadyH.cons rfl (fun K hK => ?_) AllReadyH.nil
  obtain ⟨r0, r1, r2, r3, r4, r5, r6, r7, r8, r9⟩ := ten_cells G4.out
  obtain ⟨m0, m1, m2, m3, m4, m5, m6, m7, m8, m9⟩ := ten_melt G4.out
  go_simp
  have hfr := ten_res b4 (.int .i64 0) (.string ⟨#[]⟩) (.int .i64 0) (.int .i64 0) (.string ⟨#[]⟩) (.slice none 0 0) (.slice none 0 0) (.bool false) (.slice none 0 0) (.int .i64 0) w3
  have hbx := ten_set G4.out (.int .i64 0) (.string ⟨#[]⟩) (.int .i64 0) (.int .i64 0) (.string ⟨#[]⟩) (.slice none 0 0) (.slice none 0 0) (.bool false) (.slice none 0 0) (.int .i64 0)
  have K4 := Lib.hid hbx
  have K5 := Lib.hid (G5.out.fr hfr h45)
  have K6 := Lib.hid (G6.out.fr hfr h46)
  have KE := Lib.hid (GE.out.fr hfr (by omega))
  have KF := Lib.hid (GF.out.past hfr (fun b _ h => .inl h.symm))
  refine hK.out _ _ (by exact ⟨KE.out.cell 0 rfl, KE.out.cell 1 rfl⟩) (fun hHeld => ?_)
  clear hK K hfr hbx r0 r1 r2 r3 r4 r5 r6 r7 r8 r9 m0 m1 m2 m3 m4 m5 m6 m7 m8 m9 G4 G5 G6 GE GF
  try simp only [Act.put, List.getElem_toArray, List.getElem_cons_zero, List.getElem_cons_succ, List.setIfInBounds_toArray, List.set_cons_zero, List.set_cons_succ]
  generalize (((((((((((w3.setCell ⟨b4, 0, none⟩ (.int .i64 0)).setCell ⟨b4, 1, none⟩ (.string ⟨#[]⟩)).setCell ⟨b4, 2, none⟩ (.int .i64 0)).setCell ⟨b4, 3, none⟩ (.int .i64 0)).setCell ⟨b4, 4, none⟩ (.string ⟨#[]⟩)).setCell ⟨b4, 5, none⟩ (.slice none 0 0)).setCell ⟨b4, 6, none⟩ (.slice none 0 0)).setCell ⟨b4, 7, none⟩ (.bool false)).setCell ⟨b4, 8, none⟩ (.slice none 0 0)).setCell ⟨b4, 9, none⟩ (.int .i64 0))) = w4 at *
  refine wpAnyH_ready (rs := [6]) (by kernel_rfl) (by simp) ?_
  refine AllReadyH.cons rfl (fun K hK => ?_) AllReadyH.nil
  have p0 := K5.out.cell 0 rfl
  have p1 := K5.out.melt 0
  go_simp
  have hset : Fr (fun b => b5 = b) w4 (w4.setCell ⟨b5, 0, none⟩ (.int .i64 (p : Int))) := (Fr.refl _ _).set1 _ 0 rfl _
  have L5 := Lib.hid (K5.out.set 0 (.int .i64 (p : Int)))
  have L4 := Lib.hid (K4.out.fr hset (fun h => h45 h.symm))
  have L6 := Lib.hid (K6.out.fr hset h56)
  have LE := Lib.hid (KE.out.fr hset (by omega))
  have LF := Lib.hid (KF.out.past hset (fun b _ h => .inr (.inl h.symm)))
  refine hK.out _ _ (by exact ⟨LE.out.cell 0 rfl, LE.out.cell 1 rfl⟩) (fun hHeld => ?_)
  clear hK K hset p0 p1 K4 K5 K6 KE KF
  try simp only [Act.put, List.getElem_toArray, List.getElem_cons_zero, List.getElem_cons_succ, List.setIfInBounds_toArray, List.set_cons_zero, List.set_cons_succ]
  generalize (w4.setCell ⟨b5, 0, none⟩ (.int .i64 (p : Int))) = w5 at *
  refine wpAnyH_ready (rs := [7]) (by kernel_rfl) (by simp) ?_
  refine AllReadyH.cons rfl (fun K hK => ?_) AllReadyH.nil
  have p0 := L6.out.cell 0 rfl
  have p1 := L6.out.melt 0
  go_simp
  have hset : Fr (fun b => b6 = b) w5 (w5.setCell ⟨b6, 0, none⟩ (.int .i64 (c : Int))) := (Fr.refl _ _).set1 _ 0 rfl _
  have M6 := Lib.hid (L6.out.set 0 (.int .i64 (c : Int)))
  have M4 := Lib.hid (L4.out.fr hset (fun h => h46 h.symm))
  have M5 := Lib.hid (L5.out.fr hset (fun h => h56 h.symm))
  have ME := Lib.hid (LE.out.fr hset (by omega))
  have MF := Lib.hid (LF.out.past hset (fun b _ h => .inr (.inr h.symm)))
  refine hK.out _ _ (by exact ⟨ME.out.cell 0 rfl, ME.out.cell 1 rfl⟩) (fun hHeld => ?_)
  clear hK K hset p0 p1
  try simp only [Act.put, List.getElem_toArray, List.getElem_cons_zero, List.getElem_cons_succ, List.setIfInBounds_toArray, List.set_cons_zero, List.set_cons_succ]
  refine wpAnyH_done (by kernel_rfl) ?_ _
  generalize (w5.setCell ⟨b6, 0, none⟩ (.int .i64 (c : Int))) = w6 at *
  exact ⟨rfl, rfl, M4.out, M5.out, M6.out, MF.out⟩
end
end Go.Proofs.YtlnhhffhmeekoaaGreatDoor
